/- The contract of the drawing function of polynomials; condition: the reader's place is below 2^30. -/
import Derived.Test.YtdnklndemoinaaaLDraw
import Derived.Test.YtdnklndemoinaaaSlices
namespace Go.Proofs.Ytdnklndemoinaaa
open Go.RowKit
set_option linter.unusedVariables false
set_option linter.unusedSimpArgs false
set_option maxHeartbeats 4000000

theorem lit2_at {w : World} {g : Nat} {t : TypeId} {fr : Nat × Nat} {a b : Int} (h : w.heap[g]? = some (.cells #[.int .i64 a, .int .i64 b] t fr)) (v : Int) (v0 : 0 ≤ v) (v1 : v < 2) : ∃ u, w.cell? ⟨g, v.toNat, none⟩ = some (.int .i64 u) := by
  rw [cell_of_row w g _ _ t fr h]
  have hv : v = 0 ∨ v = 1 := by omega
  rcases hv with rfl | rfl
  · exact ⟨a, rfl⟩
  · exact ⟨b, rfl⟩
theorem App.short {w : World} {B c : Nat} {A : Option Addr} {l : List Int} (h : App w B (.slice A l.length c) l) (hl : 1 ≤ l.length) : App w B (.slice A (l.length - 1) c) (l.take (l.length - 1)) := by
  obtain ⟨h1, h2⟩ := h
  rcases h2 with ⟨e, h0⟩ | ⟨g, cap, cur, e, hg, hh, hnc, hcm, hcs, htk⟩
  · omega
  · injection e with e1 e2 e3
    subst e1 e3
    have hlen : (l.take (l.length - 1)).length = l.length - 1 := by rw [List.length_take]; omega
    refine ⟨by rw [hlen]; simp, .inr ⟨g, _, cur, by rw [hlen], hg, hh, by rw [hlen]; omega, hcm, hcs, ?_⟩⟩
    have e3 : cur.toList.take ((l.take (l.length - 1)).length * 1) = (cur.toList.take (l.length * 1)).take (l.length - 1) := by
      rw [hlen, List.take_take]; congr 1; omega
    rw [e3, htk, List.map_take]
theorem l20Poly_any (R N : Nat) (m : Int) (hm : 1 ≤ m) (hm2 : m ≤ 1000) (w : World) (hR : Rd w R N) (hN : N ≤ 1073700000) : Calls Try.prog 39 #[.pointer (some ⟨R, 0, none⟩), .int .i64 m] w (DrawsL w R (N + 400)) := by
  have hRl := hR.lt
  have hA := App.empty w w.heap.size (Nat.le_refl _)
  go_enter Try.func39, Try.ntmps39
  go_wp2_with fail
  refine (pick_any R _ _ (by omega) (by omega) _ (hR.alloc _) (by omega)).mono ?_
  rintro e w1 ⟨k0, rfl, ⟨ka, kb⟩, hR1, hO⟩
  replace hA := hA.only hO hRl
  have hF := only_trans (only_alloc (only_refl w R) _) hO
  obtain ⟨k, rfl⟩ := Int.eq_ofNat_of_zero_le ka
  clear hO hR
  go_wp2
  go_loopw [5, 6] (fun v i wr => ∃ (x : Value) (j : Nat) (l : List Int), x = v ∧ j + l.length = k + 1 ∧ i = .int .i64 j ∧ App wr w.heap.size x l ∧ Rd wr R (N + 1 + 20 * (8 - j)) ∧ Only w wr R) (fun _ i _ => (intOf i).toNat)
  case atStart => exact ⟨_, k + 1, [], rfl, by simp, by (have e : ((k + 1 : Nat) : Int) = 1 + (k : Int) := by omega); rw [e], hA, hR1.more (by omega), hF⟩
  case round =>
    obtain ⟨x, j, l, rfl, hj, rfl, hA, hR, hF⟩ := hrel
    by_cases hlt : 0 < j
    · go_upto_region 5 with fail
      refine wp_text_draw (m := 16) (U := 1) (R := R) (G := R) (N := (N+1+20*(8-j))) (ks := [15, 16, 17, 18, 19, 20, 21, 22, 23, 24, 25, 26, 27, 28, 29, 30]) (E := fun _ => True)
        (Fs := fun d => match d with | 15 => is (x) | 16 => is (.pointer (some ⟨R, 0, none⟩)) | 17 => upto (0) (9) | 18 => num | 19 => is (.pointer (some ⟨R, 0, none⟩)) | 20 => upto (0) (256) | 21 => num | 22 => num | 23 => .lit 4 (fun _ => True) | 24 => .lit 7 (fun x => (0) ≤ x ∧ x < (4)) | 25 => is (.pointer (some ⟨R, 0, none⟩)) | 26 => upto (0) (7) | 27 => .cell (fun x => (0) ≤ x ∧ x < (4)) | 28 => upto (0) (4) | 29 => .cell (fun _ => True) | 30 => num | _ => .any) (A := ?A) (rest := ?rest) (by kernel_rfl) ?hrest ?hA (by first | exact hR | assumption) trivial (fun _ _ _ _ => trivial) ?steps ?after
      case hrest => (simp only [List.drop_succ_cons, List.drop_zero]; exact rfl)
      case hA => (intro tm; simp only [over, List.foldl_cons, List.foldl_nil, List.setIfInBounds_toArray, List.set_cons_zero, List.set_cons_succ]; exact rfl)
      case steps =>
        refine StepsR.cons (by (simp only [List.getElem?_toArray, List.getElem?_cons_zero]; rfl)) (fun K tm wc c hc hR hO hE hpre hK => ?_) ?_
        · go_simp
          exact hK.out _ _ (hR.more (by omega)) (.inl (only_refl _ _)) (by first | exact rfl | exact congrArg (Value.int .i64) (IntWalk.i64_in _ (by omega)))
        refine StepsR.cons (by (simp only [List.getElem?_toArray, List.getElem?_cons_succ, List.getElem?_cons_zero]; rfl)) (fun K tm wc c hc hR hO hE hpre hK => ?_) ?_
        · go_simp
          exact hK.out _ _ (hR.more (by omega)) (.inl (only_refl _ _)) (by first | exact rfl | exact congrArg (Value.int .i64) (IntWalk.i64_in _ (by omega)))
        refine StepsR.cons (by (simp only [List.getElem?_toArray, List.getElem?_cons_succ, List.getElem?_cons_zero]; rfl)) (fun K tm wc c hc hR hO hE hpre hK => ?_) ?_
        · have e16 : tm 16 = _ := (hpre 16 (by kernel_rfl))
          simp only [e16] at hK
          go_simp
          refine (pick_any R _ _ (by omega) (by omega) _ hR (by omega)).mono ?_
          rintro e w1 ⟨v, rfl, ⟨va, vb⟩, hR1, hO1⟩
          (try go_wp2_with fail)
          exact hK.out _ _ (hR1.more (by omega)) (.inl hO1) ⟨v, rfl, va, vb⟩
        refine StepsR.cons (by (simp only [List.getElem?_toArray, List.getElem?_cons_succ, List.getElem?_cons_zero]; rfl)) (fun K tm wc c hc hR hO hE hpre hK => ?_) ?_
        · obtain ⟨u17, e17, a17, b17⟩ := (hpre 17 (by kernel_rfl))
          simp only [e17] at hK
          go_simp
          exact hK.out _ _ (hR.more (by omega)) (.inl (only_refl _ _)) ⟨_, rfl⟩
        refine StepsR.cons (by (simp only [List.getElem?_toArray, List.getElem?_cons_succ, List.getElem?_cons_zero]; rfl)) (fun K tm wc c hc hR hO hE hpre hK => ?_) ?_
        · go_simp
          exact hK.out _ _ (hR.more (by omega)) (.inl (only_refl _ _)) (by first | exact rfl | exact congrArg (Value.int .i64) (IntWalk.i64_in _ (by omega)))
        refine StepsR.cons (by (simp only [List.getElem?_toArray, List.getElem?_cons_succ, List.getElem?_cons_zero]; rfl)) (fun K tm wc c hc hR hO hE hpre hK => ?_) ?_
        · have e19 : tm 19 = _ := (hpre 19 (by kernel_rfl))
          simp only [e19] at hK
          go_simp
          refine (pick_any R _ _ (by omega) (by omega) _ hR (by omega)).mono ?_
          rintro e w1 ⟨v, rfl, ⟨va, vb⟩, hR1, hO1⟩
          (try go_wp2_with fail)
          exact hK.out _ _ (hR1.more (by omega)) (.inl hO1) ⟨v, rfl, va, vb⟩
        refine StepsR.cons (by (simp only [List.getElem?_toArray, List.getElem?_cons_succ, List.getElem?_cons_zero]; rfl)) (fun K tm wc c hc hR hO hE hpre hK => ?_) ?_
        · obtain ⟨u20, e20, a20, b20⟩ := (hpre 20 (by kernel_rfl))
          simp only [e20] at hK
          go_simp
          exact hK.out _ _ (hR.more (by omega)) (.inl (only_refl _ _)) ⟨_, rfl⟩
        refine StepsR.cons (by (simp only [List.getElem?_toArray, List.getElem?_cons_succ, List.getElem?_cons_zero]; rfl)) (fun K tm wc c hc hR hO hE hpre hK => ?_) ?_
        · obtain ⟨u21, e21⟩ := (hpre 21 (by kernel_rfl))
          simp only [e21] at hK
          go_simp
          exact hK.out _ _ (hR.more (by omega)) (.inl (only_refl _ _)) ⟨_, rfl⟩
        refine StepsR.cons (by (simp only [List.getElem?_toArray, List.getElem?_cons_succ, List.getElem?_cons_zero]; rfl)) (fun K tm wc c hc hR hO hE hpre hK => ?_) ?_
        · obtain ⟨u18, e18⟩ := (hpre 18 (by kernel_rfl))
          obtain ⟨u22, e22⟩ := (hpre 22 (by kernel_rfl))
          simp only [e18, e22] at hK
          go_simp
          exact hK.out _ _ ((hR.alloc _).more (by omega)) (.inl (only_alloc (only_refl _ _) _)) (Fc.lit_new [u18, u22, (1000), (-1000)] rfl hR.lt hR.lt rfl (fun _ _ => trivial))
        refine StepsR.cons (by (simp only [List.getElem?_toArray, List.getElem?_cons_succ, List.getElem?_cons_zero]; rfl)) (fun K tm wc c hc hR hO hE hpre hK => ?_) ?_
        · go_simp
          exact hK.out _ _ ((hR.alloc _).more (by omega)) (.inl (only_alloc (only_refl _ _) _)) (Fc.lit_new [(0), (0), (0), (1), (1), (2), (3)] rfl hR.lt hR.lt rfl (by decide))
        refine StepsR.cons (by (simp only [List.getElem?_toArray, List.getElem?_cons_succ, List.getElem?_cons_zero]; rfl)) (fun K tm wc c hc hR hO hE hpre hK => ?_) ?_
        · go_simp
          exact hK.out _ _ (hR.more (by omega)) (.inl (only_refl _ _)) (by first | exact rfl | exact congrArg (Value.int .i64) (IntWalk.i64_in _ (by omega)))
        refine StepsR.cons (by (simp only [List.getElem?_toArray, List.getElem?_cons_succ, List.getElem?_cons_zero]; rfl)) (fun K tm wc c hc hR hO hE hpre hK => ?_) ?_
        · have e25 : tm 25 = _ := (hpre 25 (by kernel_rfl))
          simp only [e25] at hK
          go_simp
          refine (pick_any R _ _ (by omega) (by omega) _ hR (by omega)).mono ?_
          rintro e w1 ⟨v, rfl, ⟨va, vb⟩, hR1, hO1⟩
          (try go_wp2_with fail)
          exact hK.out _ _ (hR1.more (by omega)) (.inl hO1) ⟨v, rfl, va, vb⟩
        refine StepsR.cons (by (simp only [List.getElem?_toArray, List.getElem?_cons_succ, List.getElem?_cons_zero]; rfl)) (fun K tm wc c hc hR hO hE hpre hK => ?_) ?_
        · obtain ⟨g24, e24, c24⟩ := Fc.at_lit (hpre 24 (by kernel_rfl))
          obtain ⟨u26, e26, a26, b26⟩ := (hpre 26 (by kernel_rfl))
          simp only [e24, e26] at hK
          have c24 := c24 u26 (by omega) (by omega)
          go_simp
          exact hK.out _ _ (hR.more (by omega)) (.inl (only_refl _ _)) c24
        refine StepsR.cons (by (simp only [List.getElem?_toArray, List.getElem?_cons_succ, List.getElem?_cons_zero]; rfl)) (fun K tm wc c hc hR hO hE hpre hK => ?_) ?_
        · obtain ⟨g27, k27, u27, e27, _, _, h27, p27⟩ := (hpre 27 (by kernel_rfl))
          simp only [e27] at hK
          go_simp
          exact hK.out _ _ (hR.more (by omega)) (.inl (only_refl _ _)) ⟨_, rfl, p27.1, p27.2⟩
        refine StepsR.cons (by (simp only [List.getElem?_toArray, List.getElem?_cons_succ, List.getElem?_cons_zero]; rfl)) (fun K tm wc c hc hR hO hE hpre hK => ?_) ?_
        · obtain ⟨g23, e23, c23⟩ := Fc.at_lit (hpre 23 (by kernel_rfl))
          obtain ⟨u28, e28, a28, b28⟩ := (hpre 28 (by kernel_rfl))
          simp only [e23, e28] at hK
          have c23 := c23 u28 (by omega) (by omega)
          go_simp
          exact hK.out _ _ (hR.more (by omega)) (.inl (only_refl _ _)) c23
        refine StepsR.cons (by (simp only [List.getElem?_toArray, List.getElem?_cons_succ, List.getElem?_cons_zero]; rfl)) (fun K tm wc c hc hR hO hE hpre hK => ?_) ?_
        · obtain ⟨g29, k29, u29, e29, _, _, h29, p29⟩ := (hpre 29 (by kernel_rfl))
          simp only [e29] at hK
          go_simp
          exact hK.out _ _ (hR.more (by omega)) (.inl (only_refl _ _)) ⟨_, rfl⟩
        exact StepsR.nil
      case after =>
        intro tm w' hR hO hE hf
        have e15 : tm 15 = _ := (hf 15 (by kernel_rfl))
        obtain ⟨u30, e30⟩ := (hf 30 (by kernel_rfl))
        replace hO := hO.one (.inl rfl)
        have hA2 := hA.only hO hRl
        have hF2 := only_trans hF hO
        have hw' := hF2.size
        refine wpList_step (fun K hK => ?_)
        go_simp
        apply hK
        clear hK K
        try simp only [Act.put, List.setIfInBounds_toArray, List.set_cons_zero, List.set_cons_succ]
        refine wpList_append_int rfl (.tmp 15) (.tmp 31) rfl w.heap.size x l u30 w' w' rfl rfl hA2 (by omega) (Below.refl _ _) hw' ?_
        rintro v2 w2 hP2 hb2
        try simp only [Act.put, List.setIfInBounds_toArray, List.set_cons_zero, List.set_cons_succ]
        go_wp2
        go_roundw
        case rel => exact ⟨v2, j - 1, l ++ [u30], rfl, by simp; omega, by (have e : ((j - 1 : Nat) : Int) = (j : Int) - 1 := by omega); rw [e], hP2, (hR.below hb2 hRl).more (by omega), only_both hF2 hb2 (Nat.le_refl _)⟩
        case measure => simp [intOf] <;> omega
    · go_wp2_with fail
      refine (odd_any R _ _ hm (by omega) _ hR (by omega)).mono ?_
      rintro e w2 ⟨b, rfl, hR2, hO⟩
      replace hA := hA.only hO hRl
      replace hF := only_trans hF hO
      clear hO hR
      have hsz := hF.size
      cases b
      · go_wp2
        go_ret
        exact DrawsL.app hA (Nat.le_refl _) (by omega) ⟨hR2.more (by omega), hF⟩
      · go_wp2_with fail
        refine (pick_any R _ _ (by omega) (by omega) _ hR2 (by omega)).mono ?_
        rintro e w3 ⟨v3, rfl, ⟨va3, vb3⟩, hR3, hO⟩
        replace hA := hA.only hO hRl
        replace hF := only_trans hF hO
        clear hO hR2
        have hsz := hF.size
        have hv3 : v3 = 0 ∨ v3 = 1 ∨ v3 = 2 := by omega
        rcases hv3 with rfl | rfl | rfl
        · go_wp2
          go_ret
          exact DrawsL.app (App.empty w3 w.heap.size hsz) (Nat.le_refl _) (by simp) ⟨(hR3.alloc _).more (by omega), only_alloc hF _⟩
        · have hmk : ∀ u : World, (Instr.makeSlice 22 (.int .i64 8) (.int .i64 8)).run Try.prog u = .ok (.slice (some ⟨u.heap.size, 0, none⟩) 8 8) (u.alloc (.cells (madeCells #[.int .i64 0] 8) 3)) := fun _ => by kernel_rfl
          go_wp2
          go_ret
          exact DrawsL.row (Row.made _ 8) hsz (by simp) (by omega) ⟨(hR3.alloc _).more (by omega), only_alloc hF _⟩
        · obtain ⟨A5, c5, rfl, ho5⟩ := hA.form
          have hlc := ho5.2.1
          have hA5 := App.short hA (by omega)
          have e1 : IntKind.i64.wrap ((l.length : Int) - 1) = (l.length : Int) - 1 := IntWalk.i64_in _ (by omega)
          have e2 : ((l.length : Int) - 1).toNat = l.length - 1 := by omega
          have e3 : (0 : Int) ≤ (l.length : Int) - 1 := by omega
          have e4 : (l.length : Int) - 1 ≤ (c5 : Int) := by omega
          have e5 : (1 : Int) ≤ (l.length : Int) := by omega
          have hF0 := hF
          clear hF
          have hF := only_refl w3 R
          have hR := hR3
          go_upto_region 8 with fail
          refine wp_region_free (by kernel_rfl) ?_
          replace hF := only_drew hF
          replace hR := hR.drew
          generalize World.drew _ = wD at *
          refine wpAnyH_take (i := 0) (v := ?_) (by (simp only [List.getElem?_toArray, List.getElem?_cons_zero]; rfl)) (by kernel_rfl) (by kernel_rfl) (by kernel_rfl) (by exact fun _ _ _ h => h) (Or.inl ⟨by rfl, ?_⟩) (by trivial) ?_
          rotate_left
          · (intro wS hS; clear hS; go_simp; try with_reducible rfl)
          try simp only [Act.put, List.setIfInBounds_toArray, List.set_cons_zero, List.set_cons_succ]
          refine wpAnyH_take (i := 1) (v := ?_) (by (simp only [List.getElem?_toArray, List.getElem?_cons_succ, List.getElem?_cons_zero]; rfl)) (by kernel_rfl) (by kernel_rfl) (by kernel_rfl) (by exact fun _ _ _ h => h) (Or.inl ⟨by rfl, ?_⟩) (by trivial) ?_
          rotate_left
          · (intro wS hS; clear hS; go_simp; try with_reducible rfl)
          try simp only [Act.put, List.setIfInBounds_toArray, List.set_cons_zero, List.set_cons_succ]
          refine wpAnyH_take (i := 2) (v := ?_) (by (simp only [List.getElem?_toArray, List.getElem?_cons_succ, List.getElem?_cons_zero]; rfl)) (by kernel_rfl) (by kernel_rfl) (by kernel_rfl) (by exact fun _ _ _ h => h) (Or.inl ⟨by rfl, ?_⟩) (by trivial) ?_
          rotate_left
          · (intro wS hS; clear hS; go_simp; try with_reducible rfl)
          try simp only [Act.put, List.setIfInBounds_toArray, List.set_cons_zero, List.set_cons_succ]
          refine wpAnyH_take (i := 3) (v := ?_) (by (simp only [List.getElem?_toArray, List.getElem?_cons_succ, List.getElem?_cons_zero]; rfl)) (by kernel_rfl) (by kernel_rfl) (by kernel_rfl) (by exact fun _ _ _ h => h) (Or.inl ⟨by rfl, ?_⟩) (by trivial) ?_
          rotate_left
          · (intro wS hS; clear hS; go_simp; try with_reducible rfl)
          try simp only [Act.put, List.setIfInBounds_toArray, List.set_cons_zero, List.set_cons_succ]
          refine wpAnyH_take (i := 4) (v := ?_) (by (simp only [List.getElem?_toArray, List.getElem?_cons_succ, List.getElem?_cons_zero]; rfl)) (by kernel_rfl) (by kernel_rfl) (by kernel_rfl) (by exact fun _ _ _ h => h) (Or.inl ⟨by rfl, ?_⟩) (by trivial) ?_
          rotate_left
          · (intro wS hS; clear hS; go_simp; try with_reducible rfl)
          try simp only [Act.put, List.setIfInBounds_toArray, List.set_cons_zero, List.set_cons_succ]
          refine wpAnyH_take (i := 6) (v := ?_) (by (simp only [List.getElem?_toArray, List.getElem?_cons_succ, List.getElem?_cons_zero]; rfl)) (by kernel_rfl) (by kernel_rfl) (by kernel_rfl) (by exact fun _ _ _ h => h) (Or.inl ⟨by rfl, ?_⟩) (by trivial) ?_
          rotate_left
          · (intro wS hS; clear hS; go_simp; try with_reducible rfl)
          try simp only [Act.put, List.setIfInBounds_toArray, List.set_cons_zero, List.set_cons_succ]
          refine wpAnyH_ready (rs := [5, 7]) (by kernel_rfl) (by simp) ?_
          refine AllReadyH.cons (by (simp only [List.getElem?_toArray, List.getElem?_cons_succ, List.getElem?_cons_zero]; rfl)) (fun K hK => ?_) (AllReadyH.cons (by (simp only [List.getElem?_toArray, List.getElem?_cons_succ, List.getElem?_cons_zero]; rfl)) (fun K hK => ?_) AllReadyH.nil)
          · go_simp
            have hg5 := hR.lt
            refine alloc_step (fun wa hb l5 => ?_)
            replace hF := only_trans hF (only_of_below hb)
            replace hR := hR.below hb hR.lt
            clear hb
            refine hK.out _ _ trivial (fun _ => ?_)
            clear hK K
            try simp only [Act.put, List.setIfInBounds_toArray, List.set_cons_zero, List.set_cons_succ]
            refine wpAnyH_ready (rs := [7]) (by kernel_rfl) (by simp) ?_
            refine AllReadyH.cons (by (simp only [List.getElem?_toArray, List.getElem?_cons_succ, List.getElem?_cons_zero]; rfl)) (fun K hK => ?_) AllReadyH.nil
            go_simp
            have hR0 := hR; clear hR
            refine (pick_any _ _ _ (by omega) (by omega) _ hR0 (by omega)).mono ?_
            clear hR0
            rintro e w1 ⟨v7, rfl, ⟨a7, b7⟩, hR, hO⟩
            replace hF := only_trans hF hO
            replace l5 := only_keep hO l5 (by omega)
            (try go_wp2_with fail)
            refine hK.out _ _ trivial (fun _ => ?_)
            clear hK K
            try simp only [Act.put, List.setIfInBounds_toArray, List.set_cons_zero, List.set_cons_succ]
            refine wpAnyH_take (i := 8) (v := ?_) (by (simp only [List.getElem?_toArray, List.getElem?_cons_succ, List.getElem?_cons_zero]; rfl)) (by kernel_rfl) (by kernel_rfl) (by kernel_rfl) (by exact fun _ _ _ h => h) (Or.inl ⟨by rfl, ?_⟩) (by trivial) ?_
            rotate_left
            · (intro wS hS; clear hS; go_simp; try with_reducible rfl)
            try simp only [Act.put, List.setIfInBounds_toArray, List.set_cons_zero, List.set_cons_succ]
            refine wpAnyH_ready (rs := [9]) (by kernel_rfl) (by simp) ?_
            refine AllReadyH.cons (by (simp only [List.getElem?_toArray, List.getElem?_cons_succ, List.getElem?_cons_zero]; rfl)) (fun K hK => ?_) AllReadyH.nil
            obtain ⟨u9, hu9⟩ := lit2_at l5 v7 a7 b7
            go_simp
            refine hK.out _ _ trivial (fun _ => ?_)
            clear hK K
            try simp only [Act.put, List.setIfInBounds_toArray, List.set_cons_zero, List.set_cons_succ]
            refine wpAnyH_ready (rs := [10]) (by kernel_rfl) (by simp) ?_
            refine AllReadyH.cons (by (simp only [List.getElem?_toArray, List.getElem?_cons_succ, List.getElem?_cons_zero]; rfl)) (fun K hK => ?_) AllReadyH.nil
            have hAx := hA5.only hF hRl
            have hsx := hF.size
            go_simp
            refine hK.out _ _ trivial (fun _ => ?_)
            clear hK K
            try simp only [Act.put, List.setIfInBounds_toArray, List.set_cons_zero, List.set_cons_succ]
            refine wpAnyH_ready (rs := [11]) (by kernel_rfl) (by simp) ?_
            refine AllReadyH.cons (by (simp only [List.getElem?_toArray, List.getElem?_cons_succ, List.getElem?_cons_zero]; rfl)) (fun K hK => ?_) AllReadyH.nil
            refine step_append_int rfl (.tmp 42) (.tmp 48) rfl w.heap.size _ _ u9 _ _ rfl rfl hAx (by rw [List.length_take]; omega) (Below.refl _ _) (by omega) ?_
            intro v2 w2 hP2 hb2
            refine hK.out _ _ trivial (fun _ => ?_)
            clear hK K
            try simp only [Act.put, List.setIfInBounds_toArray, List.set_cons_zero, List.set_cons_succ]
            refine wpAnyH_take (i := 12) (v := ?_) (by (simp only [List.getElem?_toArray, List.getElem?_cons_succ, List.getElem?_cons_zero]; rfl)) (by kernel_rfl) (by kernel_rfl) (by kernel_rfl) (by exact fun _ _ _ h => h) (Or.inl ⟨by rfl, ?_⟩) (by trivial) ?_
            rotate_left
            · (intro wS hS; clear hS; go_simp; try with_reducible rfl)
            try simp only [Act.put, List.setIfInBounds_toArray, List.set_cons_zero, List.set_cons_succ]
            refine wpAnyH_done (by kernel_rfl) ?_ _
            go_wp2
            go_ret
            exact DrawsL.app hP2 (Nat.le_refl _) (by simp; omega) ⟨(hR.below hb2 hRl).more (by omega), only_both (only_trans hF0 hF) hb2 (Nat.le_refl _)⟩
          · go_simp
            have hR0 := hR; clear hR
            refine (pick_any _ _ _ (by omega) (by omega) _ hR0 (by omega)).mono ?_
            clear hR0
            rintro e w1 ⟨v7, rfl, ⟨a7, b7⟩, hR, hO⟩
            replace hF := only_trans hF hO
            (try go_wp2_with fail)
            refine hK.out _ _ trivial (fun _ => ?_)
            clear hK K
            try simp only [Act.put, List.setIfInBounds_toArray, List.set_cons_zero, List.set_cons_succ]
            refine wpAnyH_ready (rs := [5]) (by kernel_rfl) (by simp) ?_
            refine AllReadyH.cons (by (simp only [List.getElem?_toArray, List.getElem?_cons_succ, List.getElem?_cons_zero]; rfl)) (fun K hK => ?_) AllReadyH.nil
            go_simp
            have hg5 := hR.lt
            refine alloc_step (fun wa hb l5 => ?_)
            replace hF := only_trans hF (only_of_below hb)
            replace hR := hR.below hb hR.lt
            clear hb
            refine hK.out _ _ trivial (fun _ => ?_)
            clear hK K
            try simp only [Act.put, List.setIfInBounds_toArray, List.set_cons_zero, List.set_cons_succ]
            refine wpAnyH_take (i := 8) (v := ?_) (by (simp only [List.getElem?_toArray, List.getElem?_cons_succ, List.getElem?_cons_zero]; rfl)) (by kernel_rfl) (by kernel_rfl) (by kernel_rfl) (by exact fun _ _ _ h => h) (Or.inl ⟨by rfl, ?_⟩) (by trivial) ?_
            rotate_left
            · (intro wS hS; clear hS; go_simp; try with_reducible rfl)
            try simp only [Act.put, List.setIfInBounds_toArray, List.set_cons_zero, List.set_cons_succ]
            refine wpAnyH_ready (rs := [9]) (by kernel_rfl) (by simp) ?_
            refine AllReadyH.cons (by (simp only [List.getElem?_toArray, List.getElem?_cons_succ, List.getElem?_cons_zero]; rfl)) (fun K hK => ?_) AllReadyH.nil
            obtain ⟨u9, hu9⟩ := lit2_at l5 v7 a7 b7
            go_simp
            refine hK.out _ _ trivial (fun _ => ?_)
            clear hK K
            try simp only [Act.put, List.setIfInBounds_toArray, List.set_cons_zero, List.set_cons_succ]
            refine wpAnyH_ready (rs := [10]) (by kernel_rfl) (by simp) ?_
            refine AllReadyH.cons (by (simp only [List.getElem?_toArray, List.getElem?_cons_succ, List.getElem?_cons_zero]; rfl)) (fun K hK => ?_) AllReadyH.nil
            have hAx := hA5.only hF hRl
            have hsx := hF.size
            go_simp
            refine hK.out _ _ trivial (fun _ => ?_)
            clear hK K
            try simp only [Act.put, List.setIfInBounds_toArray, List.set_cons_zero, List.set_cons_succ]
            refine wpAnyH_ready (rs := [11]) (by kernel_rfl) (by simp) ?_
            refine AllReadyH.cons (by (simp only [List.getElem?_toArray, List.getElem?_cons_succ, List.getElem?_cons_zero]; rfl)) (fun K hK => ?_) AllReadyH.nil
            refine step_append_int rfl (.tmp 42) (.tmp 48) rfl w.heap.size _ _ u9 _ _ rfl rfl hAx (by rw [List.length_take]; omega) (Below.refl _ _) (by omega) ?_
            intro v2 w2 hP2 hb2
            refine hK.out _ _ trivial (fun _ => ?_)
            clear hK K
            try simp only [Act.put, List.setIfInBounds_toArray, List.set_cons_zero, List.set_cons_succ]
            refine wpAnyH_take (i := 12) (v := ?_) (by (simp only [List.getElem?_toArray, List.getElem?_cons_succ, List.getElem?_cons_zero]; rfl)) (by kernel_rfl) (by kernel_rfl) (by kernel_rfl) (by exact fun _ _ _ h => h) (Or.inl ⟨by rfl, ?_⟩) (by trivial) ?_
            rotate_left
            · (intro wS hS; clear hS; go_simp; try with_reducible rfl)
            try simp only [Act.put, List.setIfInBounds_toArray, List.set_cons_zero, List.set_cons_succ]
            refine wpAnyH_done (by kernel_rfl) ?_ _
            go_wp2
            go_ret
            exact DrawsL.app hP2 (Nat.le_refl _) (by simp; omega) ⟨(hR.below hb2 hRl).more (by omega), only_both (only_trans hF0 hF) hb2 (Nat.le_refl _)⟩
end Go.Proofs.Ytdnklndemoinaaa
