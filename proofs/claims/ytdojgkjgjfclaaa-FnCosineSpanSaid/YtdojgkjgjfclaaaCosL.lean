/- The walk of the law CosineSpan; no condition. -/
import Derived.Test.YtdojgkjgjfclaaaSinD
import Derived.Test.YtdojgkjgjfclaaaFactB
namespace Go.Proofs.Ytdojgkjgjfclaaa
open Go.RowKit
set_option linter.unusedVariables false
set_option linter.unusedSimpArgs false
set_option maxHeartbeats 2000000

theorem pow_two {L H : Int} (L0 : 0 ≤ L) (LH : L ≤ H) (H1 : H ≤ 268435456) : (powP L H 2).1 = sqL L ∧ (powP L H 2).2 = sqH H := by
  rw [powP_fast L0 LH H1 2]
  have e1 : lowF L 1 = L := by show 268435456 * L / 268435456 = L; omega
  have e2 : highF H 1 = H := by show -(-(268435456 * H) / 268435456) = H; omega
  constructor
  · show lowF L 1 * L / 268435456 = _; rw [e1]; rfl
  · show -(-(highF H 1 * H) / 268435456) = _; rw [e2]; rfl
theorem factB_of {a : Int} (h0 : 0 ≤ a) (h1 : a ≤ 8192) : ∃ X Y C D p q : Int, sinLow a = X ∧ sinHigh a = Y ∧ cosLow a = C ∧ cosHigh a = D ∧ (0 ≤ X ∧ X ≤ Y ∧ Y ≤ 268435456) ∧ (0 ≤ C ∧ C ≤ D ∧ D ≤ 268435456) ∧ D - C ≤ 100000 ∧
    (powP C D 2).1 + (powP X Y 2).1 = p ∧ (powP C D 2).2 + (powP X Y 2).2 = q ∧ (0 ≤ p ∧ p ≤ 268435456) ∧ (268435456 ≤ q ∧ q ≤ 536870912) := by
  obtain ⟨k, rfl⟩ := Int.eq_ofNat_of_zero_le h0
  have f := factB_all k (by omega)
  unfold factBB at f
  simp only [Bool.and_eq_true, decide_eq_true_eq] at f
  obtain ⟨e1, e2, e3, e4⟩ := sinX_is h0 h1
  rw [e1, e2, e3, e4]
  obtain ⟨X, hX⟩ : ∃ X, sinX (arcLow (k : Int)) (arcHigh (k : Int)) = X := ⟨_, rfl⟩
  obtain ⟨Y, hY⟩ : ∃ X, sinY (arcLow (k : Int)) (arcHigh (k : Int)) = X := ⟨_, rfl⟩
  obtain ⟨C, hC⟩ : ∃ X, cosX (arcLow (k : Int)) (arcHigh (k : Int)) = X := ⟨_, rfl⟩
  obtain ⟨D, hD⟩ : ∃ X, cosY (arcLow (k : Int)) (arcHigh (k : Int)) = X := ⟨_, rfl⟩
  rw [hX, hY, hC, hD] at f
  rw [hX, hY, hC, hD]
  obtain ⟨⟨⟨⟨⟨⟨⟨⟨f1, f2⟩, f3⟩, f4⟩, f5⟩, f6⟩, f7⟩, f8⟩, f9⟩ := f
  obtain ⟨p1, p2⟩ := pow_two (L := C) (H := D) (by omega) f5 f7
  obtain ⟨q1, q2⟩ := pow_two (L := X) (H := Y) f1 f2 (by omega)
  have b1 := pow_bd28 (L := C) (H := D) (by omega) f5 f7 2
  have b2 := pow_bd28 (L := X) (H := Y) f1 f2 (by omega) 2
  exact ⟨X, Y, C, D, _, _, rfl, rfl, rfl, rfl, ⟨f1, f2, by omega⟩, ⟨by omega, f5, f7⟩, f6, rfl, rfl, ⟨by omega, by rw [p1, q1]; exact f8⟩, by rw [p2, q2]; exact f9, by omega⟩
theorem implSpanHas_yes (L H n : Int) (h : spOk L H = true) (h0 : L ≤ n) (h1 : n ≤ H) (w : World) : Calls Try.prog 23 #[.agg #[.int .i64 L, .int .i64 H], .int .i64 n] w fun e w' => e = .returned (.bool true) ∧ Below w.heap.size w w' := by
  have l0 := Blk.new w 29 #[.int .i64 L, .int .i64 H]
  go_enter Try.func23, Try.ntmps23
  go_wp2_with fail
  refine (implSpanValid_any L H _).mono ?_
  rintro e w1 ⟨he, hb⟩
  rw [h] at he
  subst he
  replace l0 := l0.up hb
  have b1 : Below w.heap.size w w1 := (by repeat (first | exact bw_refl _ | assumption | apply bw_alloc | apply bw_drew | apply bw_drewN | (refine bw_trans ?_ (by assumption)) | (refine bw_set ?_ (by simp only [go_sem]; omega) _)))
  clear hb
  obtain ⟨c0, c1, -, -⟩ := l0.rd2
  go_wp2
  go_ret
  exact ⟨ret_bool (by simp <;> omega), (by repeat (first | exact bw_refl _ | assumption | apply bw_alloc | apply bw_drew | apply bw_drewN | (refine bw_trans ?_ (by assumption)) | (refine bw_set ?_ (by simp only [go_sem]; omega) _)))⟩
theorem walk_FnCosineSpan (A : Option Addr) (n c : Nat) (xs : List Int) (w : World) (h : Byts w w.heap.size A xs) (hn : xs.length = n) (hc : n ≤ c) (hm : c ≤ maxLen) :
    Calls Try.prog 8 #[.slice A n c] w fun e w' => e = .returned (.bool true) ∧ Below w.heap.size w w' := by
  by_cases hbig : 1048576 < n
  · unfold maxLen at hm
    clear hn
    go_enter Try.func8, Try.ntmps8
    go_wp2
    go_ret
    exact ⟨rfl, (by repeat (first | exact bw_refl _ | assumption | apply bw_alloc | apply bw_drew | apply bw_drewN | (refine bw_trans ?_ (by assumption)) | (refine bw_set ?_ (by simp only [go_sem]; omega) _)))⟩
  · have HN := Lib.hid hn
    clear hn
    go_enter Try.func8, Try.ntmps8
    go_wp2_with fail
    refine (drawCosineSpan_any A n c xs w _ h HN.out hc hm (by omega) (bw_refl w)).mono ?_
    rintro e w1 ⟨a, rfl, b1⟩
    obtain ⟨C, D, hS, hI, hin, hout⟩ := cosine_both a
    have HIN := Lib.hid hin
    have HOUT := Lib.hid hout
    clear hin hout
    go_wp2_with fail
    refine (hI _).mono ?_
    rintro e w2 ⟨rfl, b2⟩
    have l4 := Blk.new w2 29 #[.int .i64 C, .int .i64 D]
    have b3 : Below w.heap.size w (w2.alloc (.cells #[.int .i64 C, .int .i64 D] 29)) := (by repeat (first | exact bw_refl _ | assumption | apply bw_alloc | apply bw_drew | apply bw_drewN | (refine bw_trans ?_ (by assumption)) | (refine bw_set ?_ (by simp only [go_sem]; omega) _)))
    obtain ⟨g4, hg4⟩ : ∃ g, w2.heap.size = g := ⟨_, rfl⟩
    rw [hg4] at l4
    go_upto_region 5 with fail
    clear b2
    generalize w2.alloc (.cells #[.int .i64 C, .int .i64 D] 29) = W at *
    clear hg4 b1
    obtain ⟨c0, c1, -, -⟩ := l4.rd2
    have z4 := l4.lt
    refine wp_region_below (by kernel_rfl) (fun wD hHeld => ?_)
    refine wpAnyH_take (i := 0) (v := ?_) (by (simp only [List.getElem?_toArray, List.getElem?_cons_zero]; rfl)) (by kernel_rfl) (by kernel_rfl) (by kernel_rfl) (by exact fun _ _ _ h => h) (Or.inl ⟨by rfl, ?_⟩) (by assumption) ?_
    rotate_left
    · (intro wS hS; have hSc := (bcell hS).1; clear hS; go_simp; try with_reducible rfl)
    try simp only [Act.put, List.setIfInBounds_toArray, List.set_cons_zero, List.set_cons_succ]
    refine wpAnyH_take (i := 1) (v := ?_) (by (simp only [List.getElem?_toArray, List.getElem?_cons_succ, List.getElem?_cons_zero]; rfl)) (by kernel_rfl) (by kernel_rfl) (by kernel_rfl) (by exact fun _ _ _ h => h) (Or.inl ⟨by rfl, ?_⟩) (by assumption) ?_
    rotate_left
    · (intro wS hS; clear hS; go_simp; try with_reducible rfl)
    try simp only [Act.put, List.setIfInBounds_toArray, List.set_cons_zero, List.set_cons_succ]
    refine wpAnyH_ready (rs := [2]) (by kernel_rfl) (by simp) ?_
    refine AllReadyH.cons (by (simp only [List.getElem?_toArray, List.getElem?_cons_succ, List.getElem?_cons_zero]; rfl)) (fun K hK => ?_) AllReadyH.nil
    go_simp
    ((go_at_call 13; refine (hS _).mono ?_; rintro e w5 ⟨rfl, hb5⟩))
    (try go_wp2_with fail)
    refine hK.out _ _ (by repeat (first | exact bw_refl _ | assumption | apply bw_alloc | apply bw_drew | apply bw_drewN | (refine bw_trans ?_ (by assumption)) | (refine bw_set ?_ (by simp only [go_sem]; omega) _))) (fun hHeld => ?_)
    clear hK K
    try simp only [Act.put, List.setIfInBounds_toArray, List.set_cons_zero, List.set_cons_succ]
    refine wpAnyH_take (i := 3) (v := ?_) (by (simp only [List.getElem?_toArray, List.getElem?_cons_succ, List.getElem?_cons_zero]; rfl)) (by kernel_rfl) (by kernel_rfl) (by kernel_rfl) (by exact fun _ _ _ h => h) (Or.inl ⟨by rfl, ?_⟩) (by assumption) ?_
    rotate_left
    · (intro wS hS; clear hS; go_simp; try with_reducible rfl)
    try simp only [Act.put, List.setIfInBounds_toArray, List.set_cons_zero, List.set_cons_succ]
    refine wpAnyH_done (by kernel_rfl) ?_ _
    replace l4 := l4.up hHeld
    replace b3 := bw_trans b3 hHeld
    clear hHeld c0 c1 z4 hS
    obtain ⟨c0, c1, -, -⟩ := l4.rd2
    have z4 := l4.lt
    by_cases hr : 0 ≤ a ∧ a ≤ 8192
    · obtain ⟨h0, h1⟩ := hr
      obtain ⟨X, Y, C', D', p, q, e1, e2, e3, e4, ⟨X0, X1, X2⟩, ⟨C0, C1, C2⟩, hw, hp, hq, ⟨p0, p1⟩, q0, q1⟩ := factB_of h0 h1
      obtain ⟨hc1, hd1⟩ := HIN.out ⟨h0, h1⟩
      rw [e3] at hc1
      rw [e4] at hd1
      subst hc1 hd1
      obtain ⟨X', Y', -, hI2, hin2, -⟩ := sine_both a
      obtain ⟨hx', hy'⟩ := hin2 ⟨h0, h1⟩
      rw [e1] at hx'
      rw [e2] at hy'
      subst hx' hy'
      have F0 : Hid (spOk C D = true) := (spOk_iff _ _).2 (by omega)
      have F1 : Hid (spOk X' Y' = true) := (spOk_iff _ _).2 (by omega)
      have B1 := pow_bd28 C0 C1 C2 2
      have B2 := pow_bd28 X0 X1 X2 2
      have M1 := implSpanPower_ok C D 2 (by decide) F0.out (pow_ok28 C0 C1 C2 2)
      have M2 := implSpanPower_ok X' Y' 2 (by decide) F1.out (pow_ok28 X0 X1 X2 2)
      unfold powPost at M1 M2
      generalize (powP C D 2).1 = u0 at *
      generalize (powP C D 2).2 = u1 at *
      generalize (powP X' Y' 2).1 = v0 at *
      generalize (powP X' Y' 2).2 = v1 at *
      have F2 : spOk u0 u1 = true := (spOk_iff _ _).2 (by omega)
      have F3 : spOk v0 v1 = true := (spOk_iff _ _).2 (by omega)
      have F4 : spOk (u0 + v0) (u1 + v1) = true := (spOk_iff _ _).2 (by omega)
      have M3 := implSpanAdd_ok u0 u1 v0 v1 F2 F3
      rw [F4] at M3
      have ec : chkL (u0 + v0) (u1 + v1) = p ∧ chkH (u0 + v0) (u1 + v1) = q := by unfold chkL chkH; rw [F4, if_pos rfl, if_pos rfl]; exact ⟨hp, hq⟩
      rw [ec.1, ec.2] at M3
      rw [hp, hq] at F4
      have F5 : Hid (spOk p q = true) := F4
      have n0 : ¬ a < 0 := by omega
      have n1 : ¬ 8192 < a := by omega
      have w8 : IntKind.i64.wrap (D - C) = D - C := IntWalk.i64_in _ (by omega)
      have q8 : decide (D - C ≤ 100000) = true := decide_eq_true hw
      clear HIN HOUT e1 e2 e3 e4 hin2 F1 F2 F3 F4 ec hp hq B1 B2
      go_wp2_with fail
      refine (M1 _).mono ?_
      rintro e w5 ⟨rfl, hb⟩
      replace l4 := (l4.up hb).alloc (.cells #[.int .i64 u0, .int .i64 u1] 29)
      have l5 := Blk.new w5 29 #[.int .i64 u0, .int .i64 u1]
      replace b3 := bw_trans b3 hb
      clear hb c0 c1 z4 M1
      have z5 := l5.lt
      go_wp2_with fail
      refine (hI2 _).mono ?_
      rintro e w6 ⟨rfl, hb⟩
      replace l4 := l4.up hb
      replace l5 := l5.up hb
      have b4 : Below w.heap.size w w6 := (by repeat (first | exact bw_refl _ | assumption | apply bw_alloc | apply bw_drew | apply bw_drewN | (refine bw_trans ?_ (by assumption)) | (refine bw_set ?_ (by simp only [go_sem]; omega) _)))
      clear hb b3 z5
      go_wp2_with fail
      refine (M2 _).mono ?_
      rintro e w7 ⟨rfl, hb⟩
      replace l4 := (l4.up hb).alloc (.cells #[.int .i64 v0, .int .i64 v1] 29)
      replace l5 := (l5.up hb).alloc (.cells #[.int .i64 v0, .int .i64 v1] 29)
      have l7 := Blk.new w7 29 #[.int .i64 v0, .int .i64 v1]
      have b5 : Below w.heap.size w w7 := (by repeat (first | exact bw_refl _ | assumption | apply bw_alloc | apply bw_drew | apply bw_drewN | (refine bw_trans ?_ (by assumption)) | (refine bw_set ?_ (by simp only [go_sem]; omega) _)))
      clear hb b4 M2
      have z5 := l5.lt
      have z7 := l7.lt
      obtain ⟨d0, d1, -, -⟩ := l5.rd2
      obtain ⟨d2, d3, -, -⟩ := l7.rd2
      go_wp2_with fail
      refine (M3 _).mono ?_
      rintro e w8' ⟨rfl, hb⟩
      replace l4 := (l4.up hb).alloc (.cells #[.int .i64 p, .int .i64 q] 29)
      have l9 := Blk.new w8' 29 #[.int .i64 p, .int .i64 q]
      have b6 : Below w.heap.size w w8' := (by repeat (first | exact bw_refl _ | assumption | apply bw_alloc | apply bw_drew | apply bw_drewN | (refine bw_trans ?_ (by assumption)) | (refine bw_set ?_ (by simp only [go_sem]; omega) _)))
      clear hb b5 M3 d0 d1 d2 d3 z5 z7 l5 l7
      have z4 := l4.lt
      obtain ⟨c0, c1, -, -⟩ := l4.rd2
      go_wp2_with fail
      refine (implSpanValid_any C D _).mono ?_
      rintro e w9 ⟨he, hb⟩
      rw [F0.out] at he
      subst he
      replace l4 := l4.up hb
      replace l9 := l9.up hb
      have b7 : Below w.heap.size w w9 := (by repeat (first | exact bw_refl _ | assumption | apply bw_alloc | apply bw_drew | apply bw_drewN | (refine bw_trans ?_ (by assumption)) | (refine bw_set ?_ (by simp only [go_sem]; omega) _)))
      clear hb b6 c0 c1 z4
      obtain ⟨c0, c1, -, -⟩ := l4.rd2
      obtain ⟨c2, c3, -, -⟩ := l9.rd2
      have z4 := l4.lt
      have z9 := l9.lt
      go_wp2_with fail
      refine (implSpanHas_yes p q 268435456 F5.out p1 q0 _).mono ?_
      rintro e w10 ⟨rfl, hb⟩
      replace l4 := l4.up hb
      have b8 : Below w.heap.size w w10 := (by repeat (first | exact bw_refl _ | assumption | apply bw_alloc | apply bw_drew | apply bw_drewN | (refine bw_trans ?_ (by assumption)) | (refine bw_set ?_ (by simp only [go_sem]; omega) _)))
      clear hb b7 c0 c1 c2 c3 z4 z9 l9
      obtain ⟨c0, c1, -, -⟩ := l4.rd2
      go_wp2
      go_ret
      exact ⟨ret_bool (by simp <;> omega), (by repeat (first | exact bw_refl _ | assumption | apply bw_alloc | apply bw_drew | apply bw_drewN | (refine bw_trans ?_ (by assumption)) | (refine bw_set ?_ (by simp only [go_sem]; omega) _)))⟩
    · obtain ⟨rfl, rfl⟩ := HOUT.out hr
      clear HIN HOUT
      by_cases h0 : a < 0
      · clear hr
        go_wp2_with (go_at_call 12; refine (alive_any _).mono ?_; rintro e w' ⟨rfl, rfl⟩)
        go_ret
        exact ⟨rfl, (by repeat (first | exact bw_refl _ | assumption | apply bw_alloc | apply bw_drew | apply bw_drewN | (refine bw_trans ?_ (by assumption)) | (refine bw_set ?_ (by simp only [go_sem]; omega) _)))⟩
      · have h1 : 8192 < a := by omega
        clear hr
        go_wp2_with (go_at_call 12; refine (alive_any _).mono ?_; rintro e w' ⟨rfl, rfl⟩)
        go_ret
        exact ⟨rfl, (by repeat (first | exact bw_refl _ | assumption | apply bw_alloc | apply bw_drew | apply bw_drewN | (refine bw_trans ?_ (by assumption)) | (refine bw_set ?_ (by simp only [go_sem]; omega) _)))⟩
end Go.Proofs.Ytdojgkjgjfclaaa
