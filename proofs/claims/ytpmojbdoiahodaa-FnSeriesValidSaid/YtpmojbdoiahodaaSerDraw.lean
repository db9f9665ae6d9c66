/- The contract of the drawing function of series; condition: the reader's place is below 2^30. -/
import Derived.Test.YtpmojbdoiahodaaLDraw
import Derived.Test.YtpmojbdoiahodaaSlices
namespace Go.Proofs.Ytpmojbdoiahodaa
open Go.RowKit
set_option linter.unusedVariables false
set_option linter.unusedSimpArgs false
set_option maxHeartbeats 4000000

theorem lit2_at {w : World} {g : Nat} {t : TypeId} {fr : Nat × Nat} {a b : Int} (h : w.heap[g]? = some (.cells #[.int .i64 a, .int .i64 b] t fr)) (v : Int) (v0 : 0 ≤ v) (v1 : v < 2) : ∃ u, w.cell? ⟨g, v.toNat, none⟩ = some (.int .i64 u) := by
  rw [cell_of_row w g _ _ t fr h]
  have hv : v = 0 ∨ v = 1 := by omega
  rcases hv with rfl | rfl
  · exact ⟨a, rfl⟩
  · exact ⟨b, rfl⟩
theorem l20Series_any (R N : Nat) (m : Int) (hm : 1 ≤ m) (hm2 : m ≤ 1000) (w : World) (hR : Rd w R N) (hN : N ≤ 1073700000) : Calls Try.prog 41 #[.pointer (some ⟨R, 0, none⟩), .int .i64 m] w (DrawsL w R (N + 400)) := by
  have hRl := hR.lt
  have hA := App.empty w w.heap.size (Nat.le_refl _)
  go_enter Try.func41, Try.ntmps41
  go_wp2_with fail
  refine (pick_any R _ _ (by omega) (by omega) _ (hR.alloc _) (by omega)).mono ?_
  rintro e w1 ⟨k0, rfl, ⟨ka, kb⟩, hR1, hO⟩
  replace hA := hA.only hO hRl
  have hF := only_trans (only_alloc (only_refl w R) _) hO
  obtain ⟨k, rfl⟩ := Int.eq_ofNat_of_zero_le ka
  clear hO hR
  go_wp2
  go_loopw [5, 6] (fun v i wr => ∃ (x : Value) (j : Nat) (l : List Int), x = v ∧ j + l.length ≤ 11 ∧ i = .int .i64 j ∧ App wr w.heap.size x l ∧ Rd wr R (N + 1 + 20 * (11 - j)) ∧ Only w wr R) (fun _ i _ => (intOf i).toNat)
  case atStart => exact ⟨_, k, [], rfl, by simp; omega, rfl, hA, hR1.more (by omega), hF⟩
  case round =>
    obtain ⟨x, j, l, rfl, hj, rfl, hA, hR, hF⟩ := hrel
    by_cases hlt : 0 < j
    · go_upto_region 5 with fail
      refine wp_text_draw (m := 16) (U := 1) (R := R) (G := R) (N := (N+1+20*(11-j))) (ks := [14, 15, 16, 17, 18, 19, 20, 21, 22, 23, 24, 25, 26, 27, 28, 29]) (E := fun _ => True)
        (Fs := fun d => match d with | 14 => is (x) | 15 => is (.pointer (some ⟨R, 0, none⟩)) | 16 => upto (0) (40) | 17 => num | 18 => is (.pointer (some ⟨R, 0, none⟩)) | 19 => upto (0) (256) | 20 => num | 21 => num | 22 => .lit 4 (fun _ => True) | 23 => .lit 7 (fun x => (0) ≤ x ∧ x < (4)) | 24 => is (.pointer (some ⟨R, 0, none⟩)) | 25 => upto (0) (7) | 26 => .cell (fun x => (0) ≤ x ∧ x < (4)) | 27 => upto (0) (4) | 28 => .cell (fun _ => True) | 29 => num | _ => .any) (A := ?A) (rest := ?rest) (by kernel_rfl) ?hrest ?hA (by first | exact hR | assumption) trivial (fun _ _ _ _ => trivial) ?steps ?after
      case hrest => (simp only [List.drop_succ_cons, List.drop_zero]; exact rfl)
      case hA => (intro tm; simp only [over, List.foldl_cons, List.foldl_nil, List.setIfInBounds_toArray, List.set_cons_zero, List.set_cons_succ]; exact rfl)
      case steps =>
        refine StepsR.cons (by (simp only [List.getElem?_toArray, List.getElem?_cons_zero]; rfl)) (fun K tm wc c hc hR hO hE hpre hK => ?_) ?_
        · go_simp
          exact hK.out _ _ (hR.more (by omega)) (.inl (only_refl _ _)) (by first | exact rfl | exact congrArg (Value.int .i64) (IntWalk.i64_in _ (by omega)))
        refine StepsR.cons (by (simp only [List.getElem?_toArray, List.getElem?_cons_succ, List.getElem?_cons_zero]; rfl)) (fun K tm wc c hc hR hO hE hpre hK => ?_) ?_
        · go_simp
          exact hK.out _ _ (hR.more (by omega)) (.inl (only_refl _ _)) (by first | exact rfl | exact congrArg (Value.int .i64) (IntWalk.i64_in _ (by omega)))
        refine StepsR.cons (by (simp only [List.getElem?_toArray, List.getElem?_cons_succ, List.getElem?_cons_zero]; rfl)) (fun K tm wc c hc hR hO hE hpre hK => ?_) ?_
        · have e15 : tm 15 = _ := (hpre 15 (by kernel_rfl))
          simp only [e15] at hK
          go_simp
          refine (pick_any R _ _ (by omega) (by omega) _ hR (by omega)).mono ?_
          rintro e w1 ⟨v, rfl, ⟨va, vb⟩, hR1, hO1⟩
          (try go_wp2_with fail)
          exact hK.out _ _ (hR1.more (by omega)) (.inl hO1) ⟨v, rfl, va, vb⟩
        refine StepsR.cons (by (simp only [List.getElem?_toArray, List.getElem?_cons_succ, List.getElem?_cons_zero]; rfl)) (fun K tm wc c hc hR hO hE hpre hK => ?_) ?_
        · obtain ⟨u16, e16, a16, b16⟩ := (hpre 16 (by kernel_rfl))
          simp only [e16] at hK
          go_simp
          exact hK.out _ _ (hR.more (by omega)) (.inl (only_refl _ _)) ⟨_, rfl⟩
        refine StepsR.cons (by (simp only [List.getElem?_toArray, List.getElem?_cons_succ, List.getElem?_cons_zero]; rfl)) (fun K tm wc c hc hR hO hE hpre hK => ?_) ?_
        · go_simp
          exact hK.out _ _ (hR.more (by omega)) (.inl (only_refl _ _)) (by first | exact rfl | exact congrArg (Value.int .i64) (IntWalk.i64_in _ (by omega)))
        refine StepsR.cons (by (simp only [List.getElem?_toArray, List.getElem?_cons_succ, List.getElem?_cons_zero]; rfl)) (fun K tm wc c hc hR hO hE hpre hK => ?_) ?_
        · have e18 : tm 18 = _ := (hpre 18 (by kernel_rfl))
          simp only [e18] at hK
          go_simp
          refine (pick_any R _ _ (by omega) (by omega) _ hR (by omega)).mono ?_
          rintro e w1 ⟨v, rfl, ⟨va, vb⟩, hR1, hO1⟩
          (try go_wp2_with fail)
          exact hK.out _ _ (hR1.more (by omega)) (.inl hO1) ⟨v, rfl, va, vb⟩
        refine StepsR.cons (by (simp only [List.getElem?_toArray, List.getElem?_cons_succ, List.getElem?_cons_zero]; rfl)) (fun K tm wc c hc hR hO hE hpre hK => ?_) ?_
        · obtain ⟨u19, e19, a19, b19⟩ := (hpre 19 (by kernel_rfl))
          simp only [e19] at hK
          go_simp
          exact hK.out _ _ (hR.more (by omega)) (.inl (only_refl _ _)) ⟨_, rfl⟩
        refine StepsR.cons (by (simp only [List.getElem?_toArray, List.getElem?_cons_succ, List.getElem?_cons_zero]; rfl)) (fun K tm wc c hc hR hO hE hpre hK => ?_) ?_
        · obtain ⟨u20, e20⟩ := (hpre 20 (by kernel_rfl))
          simp only [e20] at hK
          go_simp
          exact hK.out _ _ (hR.more (by omega)) (.inl (only_refl _ _)) ⟨_, rfl⟩
        refine StepsR.cons (by (simp only [List.getElem?_toArray, List.getElem?_cons_succ, List.getElem?_cons_zero]; rfl)) (fun K tm wc c hc hR hO hE hpre hK => ?_) ?_
        · obtain ⟨u17, e17⟩ := (hpre 17 (by kernel_rfl))
          obtain ⟨u21, e21⟩ := (hpre 21 (by kernel_rfl))
          simp only [e17, e21] at hK
          go_simp
          exact hK.out _ _ ((hR.alloc _).more (by omega)) (.inl (only_alloc (only_refl _ _) _)) (Fc.lit_new [u17, u21, (1000000), (-1000000)] rfl hR.lt hR.lt rfl (fun _ _ => trivial))
        refine StepsR.cons (by (simp only [List.getElem?_toArray, List.getElem?_cons_succ, List.getElem?_cons_zero]; rfl)) (fun K tm wc c hc hR hO hE hpre hK => ?_) ?_
        · go_simp
          exact hK.out _ _ ((hR.alloc _).more (by omega)) (.inl (only_alloc (only_refl _ _) _)) (Fc.lit_new [(0), (0), (0), (1), (1), (2), (3)] rfl hR.lt hR.lt rfl (by decide))
        refine StepsR.cons (by (simp only [List.getElem?_toArray, List.getElem?_cons_succ, List.getElem?_cons_zero]; rfl)) (fun K tm wc c hc hR hO hE hpre hK => ?_) ?_
        · go_simp
          exact hK.out _ _ (hR.more (by omega)) (.inl (only_refl _ _)) (by first | exact rfl | exact congrArg (Value.int .i64) (IntWalk.i64_in _ (by omega)))
        refine StepsR.cons (by (simp only [List.getElem?_toArray, List.getElem?_cons_succ, List.getElem?_cons_zero]; rfl)) (fun K tm wc c hc hR hO hE hpre hK => ?_) ?_
        · have e24 : tm 24 = _ := (hpre 24 (by kernel_rfl))
          simp only [e24] at hK
          go_simp
          refine (pick_any R _ _ (by omega) (by omega) _ hR (by omega)).mono ?_
          rintro e w1 ⟨v, rfl, ⟨va, vb⟩, hR1, hO1⟩
          (try go_wp2_with fail)
          exact hK.out _ _ (hR1.more (by omega)) (.inl hO1) ⟨v, rfl, va, vb⟩
        refine StepsR.cons (by (simp only [List.getElem?_toArray, List.getElem?_cons_succ, List.getElem?_cons_zero]; rfl)) (fun K tm wc c hc hR hO hE hpre hK => ?_) ?_
        · obtain ⟨g23, e23, c23⟩ := Fc.at_lit (hpre 23 (by kernel_rfl))
          obtain ⟨u25, e25, a25, b25⟩ := (hpre 25 (by kernel_rfl))
          simp only [e23, e25] at hK
          have c23 := c23 u25 (by omega) (by omega)
          go_simp
          exact hK.out _ _ (hR.more (by omega)) (.inl (only_refl _ _)) c23
        refine StepsR.cons (by (simp only [List.getElem?_toArray, List.getElem?_cons_succ, List.getElem?_cons_zero]; rfl)) (fun K tm wc c hc hR hO hE hpre hK => ?_) ?_
        · obtain ⟨g26, k26, u26, e26, _, _, h26, p26⟩ := (hpre 26 (by kernel_rfl))
          simp only [e26] at hK
          go_simp
          exact hK.out _ _ (hR.more (by omega)) (.inl (only_refl _ _)) ⟨_, rfl, p26.1, p26.2⟩
        refine StepsR.cons (by (simp only [List.getElem?_toArray, List.getElem?_cons_succ, List.getElem?_cons_zero]; rfl)) (fun K tm wc c hc hR hO hE hpre hK => ?_) ?_
        · obtain ⟨g22, e22, c22⟩ := Fc.at_lit (hpre 22 (by kernel_rfl))
          obtain ⟨u27, e27, a27, b27⟩ := (hpre 27 (by kernel_rfl))
          simp only [e22, e27] at hK
          have c22 := c22 u27 (by omega) (by omega)
          go_simp
          exact hK.out _ _ (hR.more (by omega)) (.inl (only_refl _ _)) c22
        refine StepsR.cons (by (simp only [List.getElem?_toArray, List.getElem?_cons_succ, List.getElem?_cons_zero]; rfl)) (fun K tm wc c hc hR hO hE hpre hK => ?_) ?_
        · obtain ⟨g28, k28, u28, e28, _, _, h28, p28⟩ := (hpre 28 (by kernel_rfl))
          simp only [e28] at hK
          go_simp
          exact hK.out _ _ (hR.more (by omega)) (.inl (only_refl _ _)) ⟨_, rfl⟩
        exact StepsR.nil
      case after =>
        intro tm w' hR hO hE hf
        have e14 : tm 14 = _ := (hf 14 (by kernel_rfl))
        obtain ⟨u29, e29⟩ := (hf 29 (by kernel_rfl))
        replace hO := hO.one (.inl rfl)
        have hA2 := hA.only hO hRl
        have hF2 := only_trans hF hO
        have hw' := hF2.size
        refine wpList_step (fun K hK => ?_)
        go_simp
        apply hK
        clear hK K
        try simp only [Act.put, List.setIfInBounds_toArray, List.set_cons_zero, List.set_cons_succ]
        refine wpList_append_int rfl (.tmp 14) (.tmp 30) rfl w.heap.size x l u29 w' w' rfl rfl hA2 (by omega) (Below.refl _ _) hw' ?_
        rintro v2 w2 hP2 hb2
        try simp only [Act.put, List.setIfInBounds_toArray, List.set_cons_zero, List.set_cons_succ]
        go_wp2
        go_roundw
        case rel => exact ⟨v2, j - 1, l ++ [u29], rfl, by simp; omega, by (have e : ((j - 1 : Nat) : Int) = (j : Int) - 1 := by omega); rw [e], hP2, (hR.below hb2 hRl).more (by omega), only_both hF2 hb2 (Nat.le_refl _)⟩
        case measure => simp [intOf] <;> omega
    · go_wp2_with fail
      refine (odd_any R _ _ hm (by omega) _ hR (by omega)).mono ?_
      rintro e w2 ⟨b, rfl, hR2, hO⟩
      replace hA := hA.only hO hRl
      replace hF := only_trans hF hO
      clear hO hR
      have hsz := hF.size
      cases b
      · go_wp2
        go_ret
        exact DrawsL.app hA (Nat.le_refl _) (by omega) ⟨hR2.more (by omega), hF⟩
      · go_wp2_with fail
        refine (pick_any R _ _ (by omega) (by omega) _ hR2 (by omega)).mono ?_
        rintro e w3 ⟨v3, rfl, ⟨va3, vb3⟩, hR3, hO⟩
        replace hA := hA.only hO hRl
        replace hF := only_trans hF hO
        clear hO hR2
        by_cases h3 : v3 = 0
        · subst h3
          go_wp2_with fail
          refine (pick_any R _ _ (by omega) (by omega) _ (hR3.alloc _) (by omega)).mono ?_
          rintro e w4 ⟨v4, rfl, ⟨va4, vb4⟩, hR4, hO⟩
          replace hA := (hA.alloc _).only hO hRl
          obtain ⟨u4, hu4⟩ := lit2_at (only_new hO hR3.lt) v4 va4 vb4
          replace hF := only_trans (only_alloc hF _) hO
          clear hO hR3
          have hsz4 := hF.size
          go_wp2_with (at_builtin; refine wpList_append_int rfl (.tmp 38) (.tmp 44) rfl w.heap.size x l u4 w4 w4 rfl rfl hA (by omega) (Below.refl _ _) hsz4 ?_; rintro v2 w5 hP2 hb2)
          go_ret
          exact DrawsL.app hP2 (Nat.le_refl _) (by simp; omega) ⟨(hR4.below hb2 hRl).more (by omega), only_both hF hb2 (Nat.le_refl _)⟩
        · have h3' : (v3 == 0) = false := by simp; omega
          have hmk : ∀ u : World, (Instr.makeSlice 22 (.int .i64 61) (.int .i64 61)).run Try.prog u = .ok (.slice (some ⟨u.heap.size, 0, none⟩) 61 61) (u.alloc (.cells (madeCells #[.int .i64 0] 61) 3)) := fun _ => by kernel_rfl
          go_wp2
          go_ret
          exact DrawsL.row (Row.made _ 61) hF.size (by simp) (by omega) ⟨(hR3.alloc _).more (by omega), only_alloc hF _⟩
end Go.Proofs.Ytpmojbdoiahodaa
