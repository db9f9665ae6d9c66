/- The walks of the laws DirectionOf and BetweenOf; no condition. -/
import Derived.Test.YtocbbfogaafbiaaDirD
import Derived.Test.YtocbbfogaafbiaaBetw
namespace Go.Proofs.Ytocbbfogaafbiaa
open Go.RowKit
set_option linter.unusedVariables false
set_option linter.unusedSimpArgs false
set_option maxHeartbeats 2000000

theorem dir_quarter (x y : Int) (hz : ¬ (x = 0 ∧ y = 0)) : dirF (-y) x = (dirF x y + 16384) % 65536 := by
  unfold dirF
  have b1 := quarD_bd x y
  have b2 := quarD_bd y (-x)
  have b3 := quarD_bd (-x) (-y)
  have b4 := quarD_bd (-y) x
  rw [if_neg hz, if_neg (show ¬ (-y = 0 ∧ x = 0) by omega), Int.neg_neg]
  repeat' split
  all_goals omega
theorem dir_seven : dirF 7 7 = 8192 := by
  have e1 : eighD 7 7 = 8192 := by unfold eighD; rw [if_neg (by decide), if_pos rfl]
  unfold dirF quarD
  rw [e1]
  decide
theorem walk_FnDirectionOf (A : Option Addr) (n c : Nat) (xs : List Int) (w : World) (h : Byts w w.heap.size A xs) (hn : xs.length = n) (hc : n ≤ c) (hm : c ≤ maxLen) :
    Calls Try.prog 5 #[.slice A n c] w fun e w' => e = .returned (.bool true) ∧ Below w.heap.size w w' := by
  by_cases hbig : 1048576 < n
  · unfold maxLen at hm
    clear hn
    go_enter Try.func5, Try.ntmps5
    go_wp2
    go_ret
    exact ⟨rfl, (by repeat (first | exact bw_refl _ | assumption | apply bw_alloc | apply bw_drew | apply bw_drewN | (refine bw_trans ?_ (by assumption)) | (refine bw_set ?_ (by simp only [go_sem]; omega) _)))⟩
  · have HN := Lib.hid hn
    clear hn
    go_enter Try.func5, Try.ntmps5
    go_wp2_with fail
    refine (drawDirectionOf_any A n c xs w _ h HN.out hc hm (by omega) (bw_refl w)).mono ?_
    rintro e w1 ⟨x, y, rfl, b1⟩
    have l3 := Blk.new w1 25 #[.int .i64 x, .int .i64 y]
    have b2 : Below w.heap.size w (w1.alloc (.cells #[.int .i64 x, .int .i64 y] 25)) := (by repeat (first | exact bw_refl _ | assumption | apply bw_alloc | apply bw_drew | apply bw_drewN | (refine bw_trans ?_ (by assumption)) | (refine bw_set ?_ (by simp only [go_sem]; omega) _)))
    obtain ⟨g3, hg3⟩ : ∃ g, w1.heap.size = g := ⟨_, rfl⟩
    rw [hg3] at l3
    obtain ⟨a, ha⟩ : ∃ a, dirT x y = a := ⟨_, rfl⟩
    go_wp2_with fail
    refine (implDir_any x y _).mono ?_
    rintro e w2 ⟨he, hb⟩
    rw [ha] at he
    subst he
    replace l3 := l3.up hb
    have b3 := bw_trans b2 hb
    clear hb b2 b1
    obtain ⟨c0, c1, -, -⟩ := l3.rd2
    have z3 := l3.lt
    go_wp2_with fail
    refine (specDir_any x y _).mono ?_
    rintro e w4 ⟨he, hb⟩
    rw [ha] at he
    subst he
    replace l3 := l3.up hb
    replace b3 := bw_trans b3 hb
    clear hb c0 c1 z3 hg3
    obtain ⟨c0, c1, -, -⟩ := l3.rd2
    have z3 := l3.lt
    cases hv : vecB 1073741824 x y
    · have e1 : a = -1 := by rw [← ha]; unfold dirT; rw [hv]; rfl
      subst e1
      clear ha
      go_wp2_with (go_at_call 13; refine (alive_any _).mono ?_; rintro e w' ⟨rfl, rfl⟩)
      go_ret
      exact ⟨rfl, (by repeat (first | exact bw_refl _ | assumption | apply bw_alloc | apply bw_drew | apply bw_drewN | (refine bw_trans ?_ (by assumption)) | (refine bw_set ?_ (by simp only [go_sem]; omega) _)))⟩
    · have e1 : dirF x y = a := by rw [← ha]; unfold dirT; rw [hv]; rfl
      obtain ⟨⟨x0, x1⟩, y0, y1⟩ := vecB_spec _ _ _ hv
      have bd := dirF_bd x y
      rw [e1] at bd
      obtain ⟨a0, a1⟩ := bd
      have na : ¬ a < 0 := by omega
      clear ha hv
      by_cases hz : x = 0 ∧ y = 0
      · obtain ⟨rfl, rfl⟩ := hz
        have e2 : a = 0 := by rw [← e1]; rfl
        subst e2
        clear e1
        go_wp2
        go_ret
        exact ⟨rfl, (by repeat (first | exact bw_refl _ | assumption | apply bw_alloc | apply bw_drew | apply bw_drewN | (refine bw_trans ?_ (by assumption)) | (refine bw_set ?_ (by simp only [go_sem]; omega) _)))⟩
      · have hq := dir_quarter x y hz
        rw [e1] at hq
        have hv2 : vecB 1073741824 (-y) x = true := by unfold vecB; rw [Bool.and_eq_true, inB_iff, inB_iff]; omega
        have e3 : dirT (-y) x = (a + 16384) % 65536 := by unfold dirT; rw [hv2, if_pos rfl, hq]
        have e7 : dirT 7 7 = 8192 := by unfold dirT; rw [show vecB 1073741824 7 7 = true from by decide, if_pos rfl, dir_seven]
        have M1 := implDir_any (-y) x
        rw [e3] at M1
        have M2 := implDir_any 7 7
        rw [e7] at M2
        have hq9 : ((x == 0) = true ∧ (y == 0) = false) ∨ (x == 0) = false := by
          by_cases hx0 : x = 0
          · exact .inl ⟨beq_iff_eq.2 hx0, beq_eq_false_iff_ne.2 fun h => hz ⟨hx0, h⟩⟩
          · exact .inr (beq_eq_false_iff_ne.2 hx0)
        have w9 : IntKind.i64.wrap (-y) = -y := IntWalk.i64_in _ (by omega)
        have q9 : ((a + 16384) % 65536 == (a + 16384) % 65536) = true := beq_self_eq_true _
        clear e1 hq hv2 e3 e7 hz
        rcases hq9 with ⟨z1, z2⟩ | z1
        all_goals
          go_wp2_with fail
          refine (M1 _).mono ?_
          rintro e w5 ⟨rfl, hb⟩
          replace b3 := bw_trans b3 hb
          clear M1 hb
          go_wp2_with (first
            | (go_at_call 14; (with_reducible refine (implWrap_ok (a + 16384) (by omega) (by omega) _).mono ?_); rintro e w7 ⟨rfl, rfl⟩)
            | (go_at_call 9; (with_reducible refine (M2 _).mono ?_); rintro e w6 ⟨rfl, hb6⟩))
          go_ret
          exact ⟨ret_bool (by simp <;> omega), (by repeat (first | exact bw_refl _ | assumption | apply bw_alloc | apply bw_drew | apply bw_drewN | (refine bw_trans ?_ (by assumption)) | (refine bw_set ?_ (by simp only [go_sem]; omega) _)))⟩
theorem walk_FnBetweenOf (A : Option Addr) (n c : Nat) (xs : List Int) (w : World) (h : Byts w w.heap.size A xs) (hn : xs.length = n) (hc : n ≤ c) (hm : c ≤ maxLen) :
    Calls Try.prog 6 #[.slice A n c] w fun e w' => e = .returned (.bool true) ∧ Below w.heap.size w w' := by
  by_cases hbig : 1048576 < n
  · unfold maxLen at hm
    clear hn
    go_enter Try.func6, Try.ntmps6
    go_wp2
    go_ret
    exact ⟨rfl, (by repeat (first | exact bw_refl _ | assumption | apply bw_alloc | apply bw_drew | apply bw_drewN | (refine bw_trans ?_ (by assumption)) | (refine bw_set ?_ (by simp only [go_sem]; omega) _)))⟩
  · have HN := Lib.hid hn
    clear hn
    go_enter Try.func6, Try.ntmps6
    go_wp2_with fail
    refine (drawBetweenOf_any A n c xs w _ h HN.out hc hm (by omega) (bw_refl w)).mono ?_
    rintro e w1 ⟨x, y, x2, y2, rfl, b1⟩
    have l3 := (Blk.new w1 25 #[.int .i64 x, .int .i64 y]).alloc (.cells #[.int .i64 x2, .int .i64 y2] 25)
    have l4 := Blk.new (w1.alloc (.cells #[.int .i64 x, .int .i64 y] 25)) 25 #[.int .i64 x2, .int .i64 y2]
    rw [World.size_alloc] at l4
    have b2 : Below w.heap.size w ((w1.alloc (.cells #[.int .i64 x, .int .i64 y] 25)).alloc (.cells #[.int .i64 x2, .int .i64 y2] 25)) := (by repeat (first | exact bw_refl _ | assumption | apply bw_alloc | apply bw_drew | apply bw_drewN | (refine bw_trans ?_ (by assumption)) | (refine bw_set ?_ (by simp only [go_sem]; omega) _)))
    obtain ⟨g3, hg3⟩ : ∃ g, w1.heap.size = g := ⟨_, rfl⟩
    rw [hg3] at l3 l4
    obtain ⟨a, ha⟩ : ∃ a, betw x y x2 y2 = a := ⟨_, rfl⟩
    go_wp2_with fail
    refine (implBetw_any x y x2 y2 _).mono ?_
    rintro e w2 ⟨he, hb⟩
    rw [ha] at he
    subst he
    replace l3 := l3.up hb
    replace l4 := l4.up hb
    have b3 := bw_trans b2 hb
    clear hb b2 b1
    obtain ⟨c0, c1, -, -⟩ := l3.rd2
    obtain ⟨c2, c3, -, -⟩ := l4.rd2
    have z3 := l3.lt
    have z4 := l4.lt
    go_wp2_with fail
    refine (specBetw_any x y x2 y2 _).mono ?_
    rintro e w4 ⟨he, hb⟩
    rw [ha] at he
    subst he
    replace l3 := l3.up hb
    replace l4 := l4.up hb
    replace b3 := bw_trans b3 hb
    clear hb c0 c1 c2 c3 z3 z4 hg3
    obtain ⟨c0, c1, -, -⟩ := l3.rd2
    obtain ⟨c2, c3, -, -⟩ := l4.rd2
    have z3 := l3.lt
    have z4 := l4.lt
    cases hv : (vecB 1048576 x y && vecB 1048576 x2 y2)
    · have e1 : a = -1 := by rw [← ha]; unfold betw; rw [hv]; rfl
      subst e1
      clear ha
      go_wp2_with (go_at_call 13; refine (alive_any _).mono ?_; rintro e w' ⟨rfl, rfl⟩)
      go_ret
      exact ⟨rfl, (by repeat (first | exact bw_refl _ | assumption | apply bw_alloc | apply bw_drew | apply bw_drewN | (refine bw_trans ?_ (by assumption)) | (refine bw_set ?_ (by simp only [go_sem]; omega) _)))⟩
    · have e1 : (dirF x2 y2 - dirF x y) % 65536 = a := by rw [← ha]; unfold betw; rw [hv]; rfl
      rw [Bool.and_eq_true] at hv
      have e2 : betw x2 y2 x y = (dirF x y - dirF x2 y2) % 65536 := by unfold betw; rw [hv.1, hv.2]; rfl
      have e3 : betw x y x y = 0 := by unfold betw; rw [hv.1]; simp
      have M1 := implBetw_any x2 y2 x y
      have M2 := implBetw_any x y x y
      rw [e2] at M1
      rw [e3] at M2
      obtain ⟨b, hb⟩ : ∃ b, (dirF x y - dirF x2 y2) % 65536 = b := ⟨_, rfl⟩
      rw [hb] at M1
      have hab : (a + b) % 65536 = 0 := by omega
      have a0 : 0 ≤ a := by omega
      have a1 : a < 65536 := by omega
      have b0 : 0 ≤ b := by omega
      have b1 : b < 65536 := by omega
      have HAB := Lib.hid hab
      have na : ¬ a < 0 := by omega
      clear ha hv e1 e2 e3 hb hab
      go_wp2_with fail
      refine (M1 _).mono ?_
      rintro e w5 ⟨rfl, hb5⟩
      replace l3 := l3.up hb5
      replace b3 := bw_trans b3 hb5
      clear hb5 c0 c1 c2 c3 z3 z4 l4 M1
      obtain ⟨c0, c1, -, -⟩ := l3.rd2
      have z3 := l3.lt
      go_wp2_with (first
        | (go_at_call 14; (with_reducible refine (implWrap_ok (a + b) (by omega) (by omega) _).mono ?_); rintro e w7 ⟨he, rfl⟩; rw [HAB.out] at he; subst he)
        | (go_at_call 11; (with_reducible refine (M2 _).mono ?_); rintro e w6 ⟨rfl, hb6⟩))
      go_ret
      exact ⟨ret_bool (by simp <;> omega), (by repeat (first | exact bw_refl _ | assumption | apply bw_alloc | apply bw_drew | apply bw_drewN | (refine bw_trans ?_ (by assumption)) | (refine bw_set ?_ (by simp only [go_sem]; omega) _)))⟩
end Go.Proofs.Ytocbbfogaafbiaa
