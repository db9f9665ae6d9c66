/- The draws of the laws SumAll, SumProduct, SumOrder and SumStored return some values; no condition. -/
import Derived.Test.YtmpcoljollkfjaaSDraw2
namespace Go.Proofs.Ytmpcoljollkfjaa
open Go.RowKit
set_option linter.unusedVariables false
set_option linter.unusedSimpArgs false
set_option maxHeartbeats 4000000

theorem drawSumAll_any (A : Option Addr) (n c : Nat) (xs : List Int) (w0 w : World) (h : Byts w0 w0.heap.size A xs) (hn : xs.length = n) (hc : n ≤ c) (hm : c ≤ maxLen) (hlen : n ≤ 1048576) (hb0 : Below w0.heap.size w0 w) :
    Calls Try.prog 36 #[.slice A n c] w (GetsL w) := by
  go_enter Try.func36, Try.ntmps36
  go_wp2_with fail
  refine (open_any A n c xs w0 _ h hn hc hm hlen hb0).mono ?_
  rintro e w1 ⟨R, rfl, hRs, hR, hb1⟩
  have hA := App.empty w1 (R + 1) hR.lt
  go_wp2_with fail
  refine (pick_any R _ _ (by omega) (by omega) _ (hR.alloc _) (by omega)).mono ?_
  rintro e w2 ⟨k0, rfl, ⟨ka, kb⟩, hR2, hO⟩
  replace hA := hA.only hO (by omega)
  have hb2 := below_only (bw_alloc hb1 _) hO hRs
  obtain ⟨k, rfl⟩ := Int.eq_ofNat_of_zero_le ka
  clear hO hR hb1
  go_wp2
  go_loopw [4, 5] (fun v i wr => ∃ (x : Value) (j : Nat) (l : List Int), x = v ∧ j + l.length ≤ 8 ∧ i = .int .i64 j ∧ App wr (R + 1) x l ∧ Rd wr R (1 + 70 * (8 - j)) ∧ Below w.heap.size w wr) (fun _ i _ => (intOf i).toNat)
  case atStart => exact ⟨_, k, [], rfl, by simp; omega, rfl, hA, hR2.more (by omega), hb2⟩
  case round =>
    obtain ⟨x, j, l, rfl, hj, rfl, hA, hR, hb⟩ := hrel
    by_cases hlt : 0 < j
    · go_wp2_with fail
      refine (l20Work_any R _ _ hR (by omega)).mono ?_
      rintro e w3 ⟨u, rfl, _, hR3, hO⟩
      replace hA := hA.only hO (by omega)
      have hb3 := below_only hb hO hRs
      have hsz := hR3.lt
      clear hO hR
      go_wp2_with (at_builtin; refine wpList_append_int rfl (.tmp 15) (.tmp 18) rfl (R + 1) x l u w3 w3 rfl rfl hA (by omega) (Below.refl _ _) hsz ?_; rintro v2 w4 hP2 hb4)
      go_roundw
      case rel => exact ⟨v2, j - 1, l ++ [u], rfl, by simp; omega, by (have e : ((j - 1 : Nat) : Int) = (j : Int) - 1 := by omega); rw [e], hP2, (hR3.below hb4 (by omega)).more (by omega), below_both hb3 hb4 (by omega)⟩
      case measure => simp [intOf] <;> omega
    · go_wp2_with fail
      refine (odd_any R _ _ (by omega) (by omega) _ hR (by omega)).mono ?_
      rintro e w3 ⟨b, rfl, hR3, hO⟩
      replace hA := hA.only hO (by omega)
      have hb3 := below_only hb hO hRs
      have hsz := hR3.lt
      clear hO hR hb
      have hmk : ∀ u : World, (Instr.makeSlice 32 (.int .i64 101) (.int .i64 101)).run Try.prog u = .ok (.slice (some ⟨u.heap.size, 0, none⟩) 101 101) (u.alloc (.cells (madeCells #[.int .i64 0] 101) 3)) := fun _ => by kernel_rfl
      cases b
      · go_wp2_with fail
        refine (odd_any R _ _ (by omega) (by omega) _ hR3 (by omega)).mono ?_
        rintro e w5 ⟨b, rfl, hR5, hO⟩
        replace hA := hA.only hO (by omega)
        have hb5 := below_only hb3 hO hRs
        clear hO hR3
        cases b
        · go_wp2
          go_ret
          exact GetsL.app hA (by omega) (by omega) hb5
        · go_wp2
          go_ret
          exact GetsL.row (Row.made _ 101) hb5.size (by simp) (by omega) (by repeat (first | exact bw_refl _ | assumption | apply bw_alloc | apply bw_drew | apply bw_drewN | (refine bw_trans ?_ (by assumption)) | (refine bw_set ?_ (by simp only [go_sem]; omega) _)))
      · go_wp2_with (at_builtin; refine wpList_append_int rfl (.tmp 22) (.tmp 23) rfl (R + 1) x l 1152921504606846977 w3 w3 rfl rfl hA (by omega) (Below.refl _ _) hsz ?_; rintro v2 w4 hP2 hb4)
        have hb4' := below_both hb3 hb4 (by omega)
        have hR4 := hR3.below hb4 (by omega)
        clear hb4 hb3 hR3
        refine (odd_any R _ _ (by omega) (by omega) _ hR4 (by omega)).mono ?_
        rintro e w5 ⟨b, rfl, hR5, hO⟩
        replace hP2 := hP2.only hO (by omega)
        have hb5 := below_only hb4' hO hRs
        clear hO hR4
        cases b
        · go_wp2
          go_ret
          exact GetsL.app hP2 (by omega) (by simp; omega) hb5
        · go_wp2
          go_ret
          exact GetsL.row (Row.made _ 101) hb5.size (by simp) (by omega) (by repeat (first | exact bw_refl _ | assumption | apply bw_alloc | apply bw_drew | apply bw_drewN | (refine bw_trans ?_ (by assumption)) | (refine bw_set ?_ (by simp only [go_sem]; omega) _)))
theorem drawSumProduct_any (A : Option Addr) (n c : Nat) (xs : List Int) (w0 w : World) (h : Byts w0 w0.heap.size A xs) (hn : xs.length = n) (hc : n ≤ c) (hm : c ≤ maxLen) (hlen : n ≤ 1048576) (hb0 : Below w0.heap.size w0 w) :
    Calls Try.prog 37 #[.slice A n c] w (GetsSFII w) := by
  have l2 := Blk.alloc (Blk.new w 26 #[.int .i64 0, .bool false]) (.cells #[.int .i64 0, .int .i64 0] 40)
  have l3 := Blk.new (w.alloc (.cells #[.int .i64 0, .bool false] 26)) 40 #[.int .i64 0, .int .i64 0]
  rw [World.size_alloc] at l3
  go_enter Try.func37, Try.ntmps37
  go_wp2_with fail
  refine (open_any A n c xs w0 _ h hn hc hm hlen ((hb0.alloc hb0.size _).alloc (by rw [World.size_alloc]; exact Nat.le_succ_of_le hb0.size) _)).mono ?_
  rintro e w1 ⟨R, rfl, hRs, hR, hb⟩
  have hb1 : Below w.heap.size w w1 := (by repeat (first | exact bw_refl _ | assumption | apply bw_alloc | apply bw_drew | apply bw_drewN | (refine bw_trans ?_ (by assumption)) | (refine bw_set ?_ (by simp only [go_sem]; omega) _)))
  replace l2 := heap_keep hb l2
  replace l3 := heap_keep hb l3
  rw [World.size_alloc, World.size_alloc] at hRs
  clear hb
  go_wp2_with fail
  refine (l20Sum_any R 0 _ (by omega) (by omega) _ hR (by omega)).mono ?_
  rintro e w2 ⟨v, b, rfl, hR2, hO⟩
  have hb2 := bw_alloc (below_only hb1 hO (by omega)) (.cells #[.int .i64 v, .bool b] 26)
  replace l2 := Blk.alloc (only_keep hO l2 (by omega)) (.cells #[.int .i64 v, .bool b] 26)
  replace l3 := Blk.alloc (only_keep hO l3 (by omega)) (.cells #[.int .i64 v, .bool b] 26)
  have hRl := hR2.lt
  replace hR2 := hR2.alloc (.cells #[.int .i64 v, .bool b] 26)
  have l7 := Blk.new w2 26 #[.int .i64 v, .bool b]
  have g2 := l2.lt
  have g3 := l3.lt
  rw [World.size_alloc] at g2 g3
  clear hO hb1 hR
  obtain ⟨g7, hg7⟩ : ∃ g, w2.heap.size = g := ⟨_, rfl⟩
  rw [hg7] at l7 hRl g2 g3
  go_wp2_with fail
  refine (l20Two_any R _ _ hR2 (by omega)).mono ?_
  rintro e w3 ⟨W, P, x, y, rfl, hR3, hO⟩
  have hz7 := hO.size
  rw [World.size_alloc, hg7] at hz7
  have hb3 := bw_alloc (below_only hb2 hO (by omega)) (.cells #[.int .i64 W, .int .i64 P] 40)
  replace l2 := Blk.alloc (only_keep hO l2 (by omega)) (.cells #[.int .i64 W, .int .i64 P] 40)
  replace l3 := Blk.alloc (only_keep hO l3 (by omega)) (.cells #[.int .i64 W, .int .i64 P] 40)
  replace l7 := Blk.alloc (only_keep hO l7 (by omega)) (.cells #[.int .i64 W, .int .i64 P] 40)
  have l8 := Blk.new w3 40 #[.int .i64 W, .int .i64 P]
  obtain ⟨g8, hg8⟩ : ∃ g, w3.heap.size = g := ⟨_, rfl⟩
  rw [hg8] at l8 hz7
  clear hO hb2 hR2 hR3
  obtain ⟨a0, a1, a2, a3⟩ := cell2 l2
  obtain ⟨c0, c1, c2, c3⟩ := fcell2 l3
  obtain ⟨d0, d1, d2, d3⟩ := cell2 l7
  obtain ⟨e0, e1, e2, e3⟩ := fcell2 l8
  have ne1 : w.heap.size ≠ g7 := by omega
  have ne2 : w.heap.size ≠ g8 := by omega
  have ne3 : w.heap.size + 1 ≠ g7 := by omega
  have ne4 : w.heap.size + 1 ≠ g8 := by omega
  go_upto_region 4 with fail
  go_region
  all_goals
    go_wp2
    refine bodyPost_ret (by simp only [results, Try.results37]; go_simp; all_goals (first | exact rfl | exact ⟨rfl, rfl⟩ | skip)) rfl ⟨v, b, W, P, x, y, rfl, (by repeat (first | exact bw_refl _ | assumption | apply bw_alloc | apply bw_drew | apply bw_drewN | (refine bw_trans ?_ (by assumption)) | (refine bw_set ?_ (by simp only [go_sem]; omega) _)))⟩
theorem drawSumStored_any (A : Option Addr) (n c : Nat) (xs : List Int) (w0 w : World) (h : Byts w0 w0.heap.size A xs) (hn : xs.length = n) (hc : n ≤ c) (hm : c ≤ maxLen) (hlen : n ≤ 1048576) (hb0 : Below w0.heap.size w0 w) :
    Calls Try.prog 39 #[.slice A n c] w (GetsSF w) := by
  have l2 := Blk.alloc (Blk.new w 26 #[.int .i64 0, .bool false]) (.cells #[.int .i64 0, .int .i64 0] 40)
  have l3 := Blk.new (w.alloc (.cells #[.int .i64 0, .bool false] 26)) 40 #[.int .i64 0, .int .i64 0]
  rw [World.size_alloc] at l3
  go_enter Try.func39, Try.ntmps39
  go_wp2_with fail
  refine (open_any A n c xs w0 _ h hn hc hm hlen ((hb0.alloc hb0.size _).alloc (by rw [World.size_alloc]; exact Nat.le_succ_of_le hb0.size) _)).mono ?_
  rintro e w1 ⟨R, rfl, hRs, hR, hb⟩
  have hb1 : Below w.heap.size w w1 := (by repeat (first | exact bw_refl _ | assumption | apply bw_alloc | apply bw_drew | apply bw_drewN | (refine bw_trans ?_ (by assumption)) | (refine bw_set ?_ (by simp only [go_sem]; omega) _)))
  replace l2 := heap_keep hb l2
  replace l3 := heap_keep hb l3
  rw [World.size_alloc, World.size_alloc] at hRs
  clear hb
  go_wp2_with fail
  refine (l20Sum_any R 0 _ (by omega) (by omega) _ hR (by omega)).mono ?_
  rintro e w2 ⟨v, b, rfl, hR2, hO⟩
  have hb2 := bw_alloc (below_only hb1 hO (by omega)) (.cells #[.int .i64 v, .bool b] 26)
  replace l2 := Blk.alloc (only_keep hO l2 (by omega)) (.cells #[.int .i64 v, .bool b] 26)
  replace l3 := Blk.alloc (only_keep hO l3 (by omega)) (.cells #[.int .i64 v, .bool b] 26)
  have hRl := hR2.lt
  replace hR2 := hR2.alloc (.cells #[.int .i64 v, .bool b] 26)
  have l7 := Blk.new w2 26 #[.int .i64 v, .bool b]
  have g2 := l2.lt
  have g3 := l3.lt
  rw [World.size_alloc] at g2 g3
  clear hO hb1 hR
  obtain ⟨g7, hg7⟩ : ∃ g, w2.heap.size = g := ⟨_, rfl⟩
  rw [hg7] at l7 hRl g2 g3
  go_wp2_with fail
  refine (l20Two_any R _ _ hR2 (by omega)).mono ?_
  rintro e w3 ⟨W, P, x, y, rfl, hR3, hO⟩
  have hz7 := hO.size
  rw [World.size_alloc, hg7] at hz7
  have hb3 := bw_alloc (below_only hb2 hO (by omega)) (.cells #[.int .i64 W, .int .i64 P] 40)
  replace l2 := Blk.alloc (only_keep hO l2 (by omega)) (.cells #[.int .i64 W, .int .i64 P] 40)
  replace l3 := Blk.alloc (only_keep hO l3 (by omega)) (.cells #[.int .i64 W, .int .i64 P] 40)
  replace l7 := Blk.alloc (only_keep hO l7 (by omega)) (.cells #[.int .i64 W, .int .i64 P] 40)
  have l8 := Blk.new w3 40 #[.int .i64 W, .int .i64 P]
  obtain ⟨g8, hg8⟩ : ∃ g, w3.heap.size = g := ⟨_, rfl⟩
  rw [hg8] at l8 hz7
  clear hO hb2 hR2
  have hR4 := hR3.alloc (.cells #[.int .i64 W, .int .i64 P] 40)
  have ne1 : w.heap.size ≠ g7 := by omega
  have ne2 : w.heap.size ≠ g8 := by omega
  have ne3 : w.heap.size + 1 ≠ g7 := by omega
  have ne4 : w.heap.size + 1 ≠ g8 := by omega
  have ne5 : g7 ≠ g8 := by omega
  go_wp2_with fail
  refine (pick_any R _ _ (by omega) (by omega) _ hR4 (by omega)).mono ?_
  rintro e w4 ⟨v4, rfl, ⟨va, vb⟩, hR5, hO⟩
  have hb4 := below_only hb3 hO (by omega)
  have k2 := Blk.only l2 hO (by omega)
  have k3 := Blk.only l3 hO (by omega)
  have k7 := Blk.only l7 hO (by omega)
  have k8 := Blk.only l8 hO (by omega)
  clear hO hb3 hR4 l2 l3 l7 l8
  by_cases hv : v4 = 0
  · subst hv
    obtain ⟨e0, e1, e2, e3⟩ := fcell2 k8
    go_upto_region 5 with fail
    go_cut [8] (fun s wx => s = .int .i64 y ∧ (∃ (v5 : Int) (q5 : Bool), Blk wx g7 26 #[.int .i64 v5, .bool q5]) ∧ Blk wx w.heap.size 26 #[.int .i64 0, .bool false] ∧ Blk wx (w.heap.size + 1) 40 #[.int .i64 0, .int .i64 0] ∧ Blk wx g8 40 #[.int .i64 W, .int .i64 P] ∧ Below w.heap.size w wx)
    case first =>
      go_wp2_with fail
      refine (specSumProduct_any _ _ W P x y _).mono ?_
      rintro e w5 ⟨he, hb⟩
      obtain ⟨v5, hv5⟩ : ∃ q, prodV W P 0 x y = q := ⟨_, rfl⟩
      obtain ⟨q5, hq5⟩ : ∃ q, prodL W P 0 false x y = q := ⟨_, rfl⟩
      rw [hv5, hq5] at he
      subst he
      clear hv5 hq5 e0 e1 e2 e3
      have hb5 := bw_trans hb4 hb
      replace k2 := k2.kept hb
      replace k3 := k3.kept hb
      replace k7 := k7.kept hb
      replace k8 := k8.kept hb
      obtain ⟨d0, d1, d2, d3⟩ := cell2 k7
      go_wp2
      go_meet
      exact ⟨rfl, ⟨v5, q5, Blk.two k7 _ _⟩, Blk.far (p := ⟨g7, 1, none⟩) (Blk.far (p := ⟨g7, 0, none⟩) k2 ne1 _) ne1 _, Blk.far (p := ⟨g7, 1, none⟩) (Blk.far (p := ⟨g7, 0, none⟩) k3 ne3 _) ne3 _, Blk.far (p := ⟨g7, 1, none⟩) (Blk.far (p := ⟨g7, 0, none⟩) k8 (Ne.symm ne5) _) (Ne.symm ne5) _, bw_set (bw_set hb5 (p := ⟨g7, 0, none⟩) (by simp; omega) _) (p := ⟨g7, 1, none⟩) (by simp; omega) _⟩
    case rest =>
      obtain ⟨rfl, ⟨v5, q5, f7⟩, f2, f3, f8, hb5⟩ := hcut
      clear e0 e1 e2 e3 hb4 k2 k3 k7 k8
      obtain ⟨a0, a1, a2, a3⟩ := cell2 f2
      obtain ⟨c0, c1, c2, c3⟩ := fcell2 f3
      obtain ⟨d0, d1, d2, d3⟩ := cell2 f7
      obtain ⟨e0, e1, e2, e3⟩ := fcell2 f8
      go_upto_region 6 with fail
      go_region
      all_goals
        go_wp2
        refine bodyPost_ret (by simp only [results, Try.results39]; go_simp; all_goals (first | exact rfl | exact ⟨rfl, rfl⟩ | skip)) rfl ⟨v5, q5, W, P, rfl, (by repeat (first | exact bw_refl _ | assumption | apply bw_alloc | apply bw_drew | apply bw_drewN | (refine bw_trans ?_ (by assumption)) | (refine bw_set ?_ (by simp only [go_sem]; omega) _)))⟩
  · have hv2 : (v4 == 0) = false := beq_eq_false_iff_ne.2 hv
    obtain ⟨a0, a1, a2, a3⟩ := cell2 k2
    obtain ⟨c0, c1, c2, c3⟩ := fcell2 k3
    obtain ⟨d0, d1, d2, d3⟩ := cell2 k7
    obtain ⟨e0, e1, e2, e3⟩ := fcell2 k8
    go_upto_region 6 with fail
    go_region
    all_goals
      go_wp2
      refine bodyPost_ret (by simp only [results, Try.results39]; go_simp; all_goals (first | exact rfl | exact ⟨rfl, rfl⟩ | skip)) rfl ⟨v, b, W, P, rfl, (by repeat (first | exact bw_refl _ | assumption | apply bw_alloc | apply bw_drew | apply bw_drewN | (refine bw_trans ?_ (by assumption)) | (refine bw_set ?_ (by simp only [go_sem]; omega) _)))⟩
end Go.Proofs.Ytmpcoljollkfjaa
