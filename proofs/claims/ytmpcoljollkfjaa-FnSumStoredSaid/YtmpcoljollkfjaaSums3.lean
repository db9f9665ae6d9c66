/- Contracts of SumProduct and SumStored, of the program's and the reference's, and the walks of their exact laws; no condition. -/
import Derived.Test.YtmpcoljollkfjaaSums
import Derived.Test.YtmpcoljollkfjaaFmt
namespace Go.Proofs.Ytmpcoljollkfjaa
open Go.RowKit
set_option linter.unusedVariables false

theorem fitsB_bd (W P n : Int) (h : fitsB W P n = true) : -268435456 ≤ n ∧ n ≤ 268435456 := by
  unfold fitsB at h
  rw [Bool.and_eq_true] at h
  obtain ⟨h1, h2⟩ := h
  obtain ⟨⟨a, b⟩, c, d⟩ := (fmtB_iff W P).1 h1
  obtain ⟨e, f⟩ := pw_bd W P a b c d
  have := (inB_iff _ _ _).1 h2
  omega
theorem fits_mul (W P a b : Int) (ha : fitsB W P a = true) (hb : fitsB W P b = true) : -1152921504606846976 ≤ a * b ∧ a * b ≤ 1152921504606846976 := by
  obtain ⟨a0, a1⟩ := fitsB_bd W P a ha
  obtain ⟨b0, b1⟩ := fitsB_bd W P b hb
  have := mul_bd a b 268435456 268435456 (by omega) (by omega) a0 a1 b0 b1
  omega
def prodV (W P v a b : Int) : Int := if (fitsB W P a && fitsB W P b) = true then sumV v (a * b) else 0
def prodL (W P v : Int) (l : Bool) (a b : Int) : Bool := if (fitsB W P a && fitsB W P b) = true then sumL v l (a * b) else false

theorem toFormat_any (W P : Int) (w : World) : Calls Try.prog 28 #[.agg #[.int .i64 W, .int .i64 P]] w fun e w' => e = .returned (.agg #[.int .i64 W, .int .i64 P]) ∧ Below w.heap.size w w' := by
  go_enter Try.func28, Try.ntmps28
  go_wp2
  refine bodyPost_ret (by simp only [results, Try.results28]; go_simp; all_goals (try exact rfl)) rfl ⟨rfl, (by repeat (first | exact bw_refl _ | assumption | apply bw_alloc | apply bw_drew | apply bw_drewN | (refine bw_trans ?_ (by assumption)) | (refine bw_set ?_ (by simp only [go_sem]; omega) _)))⟩
theorem l6Both_any (W P a b : Int) (w : World) : Calls Try.prog 48 #[.agg #[.int .i64 W, .int .i64 P], .int .i64 a, .int .i64 b] w fun e w' => e = .returned (.bool (fitsB W P a && fitsB W P b)) ∧ Below w.heap.size w w' := by
  cases ha : fitsB W P a
  all_goals
    go_enter Try.func48, Try.ntmps48
    go_wp2_with (go_at_call 38; refine (specStoredFits_any _ _ _ _).mono ?_; rintro e w1 ⟨rfl, hb⟩; (first | (have hq := bcomp hc hf hz hb; clear hc hf hz; obtain ⟨hc, hf, hz⟩ := hq) | (obtain ⟨hc, hf⟩ := bcell hb; have hz := bsize hb)))
    go_ret
    exact ⟨ret_bool (by first | rfl | (simp; done) | (simp <;> omega) | (simp [*] <;> omega) | (rw [Bool.eq_iff_iff]; simp [inB] <;> omega)), (by repeat (first | exact bw_refl _ | assumption | apply bw_alloc | apply bw_drew | apply bw_drewN | (refine bw_trans ?_ (by assumption)) | (refine bw_set ?_ (by simp only [go_sem]; omega) _)))⟩
theorem implSumProduct_any (v : Int) (l : Bool) (W P a b : Int) (w : World) :
    Calls Try.prog 29 #[.agg #[.int .i64 v, .bool l], .agg #[.int .i64 W, .int .i64 P], .int .i64 a, .int .i64 b] w fun e w' => e = .returned (.agg #[.int .i64 (prodV W P v a b), .bool (prodL W P v l a b)]) ∧ Below w.heap.size w w' := by
  rcases inB_cases v (-1125899906842624) 1125899906842624 with ⟨hv, v0, v1⟩ | ⟨hv, -⟩
  · cases ha : fitsB W P a
    · have e1 : prodV W P v a b = 0 := by simp [prodV, ha]
      have e2 : prodL W P v l a b = false := by simp [prodL, ha]
      rw [e1, e2]
      clear e1 e2
      go_enter Try.func29, Try.ntmps29
      go_wp2_with (first
        | (go_at_call 19; refine (implSumValid_any _ _ _).mono ?_; rintro e w1 ⟨rfl, hb⟩; (first | (have hq := bcomp hc hf hz hb; clear hc hf hz; obtain ⟨hc, hf, hz⟩ := hq) | (obtain ⟨hc, hf⟩ := bcell hb; have hz := bsize hb)))
        | (go_at_call 43; refine (implStoredFits_any _ _ _ _).mono ?_; rintro e w1 ⟨rfl, hb⟩; (first | (have hq := bcomp hc hf hz hb; clear hc hf hz; obtain ⟨hc, hf, hz⟩ := hq) | (obtain ⟨hc, hf⟩ := bcell hb; have hz := bsize hb))))
      refine bodyPost_ret (by simp only [results, Try.results29]; go_simp; all_goals (try exact rfl)) rfl ⟨rfl, (by repeat (first | exact bw_refl _ | assumption | apply bw_alloc | apply bw_drew | apply bw_drewN | (refine bw_trans ?_ (by assumption)) | (refine bw_set ?_ (by simp only [go_sem]; omega) _)))⟩
    · cases hq : fitsB W P b
      · have e1 : prodV W P v a b = 0 := by simp [prodV, hq]
        have e2 : prodL W P v l a b = false := by simp [prodL, hq]
        rw [e1, e2]
        clear e1 e2
        go_enter Try.func29, Try.ntmps29
        go_wp2_with (first
          | (go_at_call 19; refine (implSumValid_any _ _ _).mono ?_; rintro e w1 ⟨rfl, hb⟩; (first | (have hq := bcomp hc hf hz hb; clear hc hf hz; obtain ⟨hc, hf, hz⟩ := hq) | (obtain ⟨hc, hf⟩ := bcell hb; have hz := bsize hb)))
          | (go_at_call 43; refine (implStoredFits_any _ _ _ _).mono ?_; rintro e w1 ⟨rfl, hb⟩; (first | (have hq := bcomp hc hf hz hb; clear hc hf hz; obtain ⟨hc, hf, hz⟩ := hq) | (obtain ⟨hc, hf⟩ := bcell hb; have hz := bsize hb))))
        refine bodyPost_ret (by simp only [results, Try.results29]; go_simp; all_goals (try exact rfl)) rfl ⟨rfl, (by repeat (first | exact bw_refl _ | assumption | apply bw_alloc | apply bw_drew | apply bw_drewN | (refine bw_trans ?_ (by assumption)) | (refine bw_set ?_ (by simp only [go_sem]; omega) _)))⟩
      · have e1 : prodV W P v a b = sumV v (a * b) := by simp [prodV, ha, hq]
        have e2 : prodL W P v l a b = sumL v l (a * b) := by simp [prodL, ha, hq]
        rw [e1, e2]
        clear e1 e2
        obtain ⟨m0, m1⟩ := fits_mul W P a b ha hq
        go_enter Try.func29, Try.ntmps29
        go_wp2_with (first
          | (go_at_call 19; refine (implSumValid_any _ _ _).mono ?_; rintro e w1 ⟨rfl, hb⟩; (first | (have hq := bcomp hc hf hz hb; clear hc hf hz; obtain ⟨hc, hf, hz⟩ := hq) | (obtain ⟨hc, hf⟩ := bcell hb; have hz := bsize hb)))
          | (go_at_call 43; refine (implStoredFits_any _ _ _ _).mono ?_; rintro e w1 ⟨rfl, hb⟩; (first | (have hq := bcomp hc hf hz hb; clear hc hf hz; obtain ⟨hc, hf, hz⟩ := hq) | (obtain ⟨hc, hf⟩ := bcell hb; have hz := bsize hb)))
          | (go_at_call 21; refine (implSumAdd_any v l (a * b) _).mono ?_; rintro e w1 ⟨rfl, hb⟩; (first | (have hq := bcomp hc hf hz hb; clear hc hf hz; obtain ⟨hc, hf, hz⟩ := hq) | (obtain ⟨hc, hf⟩ := bcell hb; have hz := bsize hb))))
        refine bodyPost_ret (by simp only [results, Try.results29]; go_simp; all_goals (try exact rfl)) rfl ⟨rfl, (by repeat (first | exact bw_refl _ | assumption | apply bw_alloc | apply bw_drew | apply bw_drewN | (refine bw_trans ?_ (by assumption)) | (refine bw_set ?_ (by simp only [go_sem]; omega) _)))⟩
  · have e1 : prodV W P v a b = 0 := by simp [prodV, sumV, okS, hv]
    have e2 : prodL W P v l a b = false := by simp [prodL, sumL, okS, hv]
    rw [e1, e2]
    clear e1 e2
    go_enter Try.func29, Try.ntmps29
    go_wp2_with (first
      | (go_at_call 19; refine (implSumValid_any _ _ _).mono ?_; rintro e w1 ⟨rfl, hb⟩; (first | (have hq := bcomp hc hf hz hb; clear hc hf hz; obtain ⟨hc, hf, hz⟩ := hq) | (obtain ⟨hc, hf⟩ := bcell hb; have hz := bsize hb))))
    refine bodyPost_ret (by simp only [results, Try.results29]; go_simp; all_goals (try exact rfl)) rfl ⟨rfl, (by repeat (first | exact bw_refl _ | assumption | apply bw_alloc | apply bw_drew | apply bw_drewN | (refine bw_trans ?_ (by assumption)) | (refine bw_set ?_ (by simp only [go_sem]; omega) _)))⟩
theorem specSumProduct_any (v : Int) (l : Bool) (W P a b : Int) (w : World) :
    Calls Try.prog 27 #[.agg #[.int .i64 v, .bool l], .agg #[.int .i64 W, .int .i64 P], .int .i64 a, .int .i64 b] w fun e w' => e = .returned (.agg #[.int .i64 (prodV W P v a b), .bool (prodL W P v l a b)]) ∧ Below w.heap.size w w' := by
  rcases inB_cases v (-1125899906842624) 1125899906842624 with ⟨hv, v0, v1⟩ | ⟨hv, -⟩
  · cases hq : (fitsB W P a && fitsB W P b)
    · have e1 : prodV W P v a b = 0 := by simp [prodV, hq]
      have e2 : prodL W P v l a b = false := by simp [prodL, hq]
      rw [e1, e2]
      clear e1 e2
      go_enter Try.func27, Try.ntmps27
      go_wp2_with (first
        | (go_at_call 17; refine (specSumValid_any _ _ _).mono ?_; rintro e w1 ⟨rfl, hb⟩; (first | (have hq := bcomp hc hf hz hb; clear hc hf hz; obtain ⟨hc, hf, hz⟩ := hq) | (obtain ⟨hc, hf⟩ := bcell hb; have hz := bsize hb)))
        | (go_at_call 48; refine (l6Both_any _ _ _ _ _).mono ?_; rintro e w1 ⟨rfl, hb⟩; rw [hq]; (first | (have hq := bcomp hc hf hz hb; clear hc hf hz; obtain ⟨hc, hf, hz⟩ := hq) | (obtain ⟨hc, hf⟩ := bcell hb; have hz := bsize hb))))
      refine bodyPost_ret (by simp only [results, Try.results27]; go_simp; all_goals (try exact rfl)) rfl ⟨rfl, (by repeat (first | exact bw_refl _ | assumption | apply bw_alloc | apply bw_drew | apply bw_drewN | (refine bw_trans ?_ (by assumption)) | (refine bw_set ?_ (by simp only [go_sem]; omega) _)))⟩
    · have hab := hq
      rw [Bool.and_eq_true] at hab
      obtain ⟨m0, m1⟩ := fits_mul W P a b hab.1 hab.2
      have e1 : prodV W P v a b = cutS (v + a * b) := by
        rw [prodV, if_pos hq, sumV, if_pos]
        simp [okS, hv, (inB_iff _ _ _).2 ⟨m0, m1⟩]
      have e2 : prodL W P v l a b = (l || (cutS (v + a * b) != v + a * b)) := by
        rw [prodL, if_pos hq, sumL, if_pos]
        simp [okS, hv, (inB_iff _ _ _).2 ⟨m0, m1⟩]
      rw [e1, e2]
      clear e1 e2 hab
      go_enter Try.func27, Try.ntmps27
      go_wp2_with (first
        | (go_at_call 17; refine (specSumValid_any _ _ _).mono ?_; rintro e w1 ⟨rfl, hb⟩; (first | (have hq := bcomp hc hf hz hb; clear hc hf hz; obtain ⟨hc, hf, hz⟩ := hq) | (obtain ⟨hc, hf⟩ := bcell hb; have hz := bsize hb)))
        | (go_at_call 48; refine (l6Both_any _ _ _ _ _).mono ?_; rintro e w1 ⟨rfl, hb⟩; rw [hq]; (first | (have hq := bcomp hc hf hz hb; clear hc hf hz; obtain ⟨hc, hf, hz⟩ := hq) | (obtain ⟨hc, hf⟩ := bcell hb; have hz := bsize hb)))
        | (go_at_call 46; refine (l21Add_ok v l (a * b) v0 v1 m0 m1 _).mono ?_; rintro e w1 ⟨rfl, hb⟩; (first | (have hq := bcomp hc hf hz hb; clear hc hf hz; obtain ⟨hc, hf, hz⟩ := hq) | (obtain ⟨hc, hf⟩ := bcell hb; have hz := bsize hb))))
      refine bodyPost_ret (by simp only [results, Try.results27]; go_simp; all_goals (try exact rfl)) rfl ⟨rfl, (by repeat (first | exact bw_refl _ | assumption | apply bw_alloc | apply bw_drew | apply bw_drewN | (refine bw_trans ?_ (by assumption)) | (refine bw_set ?_ (by simp only [go_sem]; omega) _)))⟩
  · have e1 : prodV W P v a b = 0 := by simp [prodV, sumV, okS, hv]
    have e2 : prodL W P v l a b = false := by simp [prodL, sumL, okS, hv]
    rw [e1, e2]
    clear e1 e2
    go_enter Try.func27, Try.ntmps27
    go_wp2_with (first
      | (go_at_call 17; refine (specSumValid_any _ _ _).mono ?_; rintro e w1 ⟨rfl, hb⟩; (first | (have hq := bcomp hc hf hz hb; clear hc hf hz; obtain ⟨hc, hf, hz⟩ := hq) | (obtain ⟨hc, hf⟩ := bcell hb; have hz := bsize hb))))
    refine bodyPost_ret (by simp only [results, Try.results27]; go_simp; all_goals (try exact rfl)) rfl ⟨rfl, (by repeat (first | exact bw_refl _ | assumption | apply bw_alloc | apply bw_drew | apply bw_drewN | (refine bw_trans ?_ (by assumption)) | (refine bw_set ?_ (by simp only [go_sem]; omega) _)))⟩
theorem walk_FnExactSumProduct (v : Int) (l : Bool) (W P a b : Int) (w : World) (_ : (Lit.int .i64 v).wf = true) (_ : (Lit.int .i64 W).wf = true) (_ : (Lit.int .i64 P).wf = true) (_ : (Lit.int .i64 a).wf = true) (_ : (Lit.int .i64 b).wf = true) :
    Calls Try.prog 7 #[.agg #[.int .i64 v, .bool l], .agg #[.int .i64 W, .int .i64 P], .int .i64 a, .int .i64 b] w fun e w' => e = .returned (.bool true) ∧ Below w.heap.size w w' := by
  go_enter Try.func7, Try.ntmps7
  go_upto_region 1 with fail
  go_cut [9] (fun s9 wx => ∃ g : Nat, s9 = .pointer (some ⟨g, 0, none⟩) ∧ w.heap.size + 1 < g ∧ Blk wx g 26 #[.int .i64 (prodV W P v a b), .bool (prodL W P v l a b)] ∧ Below (w.heap.size + 2) ((w.alloc (.cells #[.int .i64 v, .bool l] 24)).alloc (.cells #[.int .i64 W, .int .i64 P] 38)) wx)
  case first =>
    refine wp_region_below (by kernel_rfl) (fun wD hHeld => ?_)
    refine wpAnyH_take (i := 0) (v := ?_) (by (simp only [List.getElem?_toArray, List.getElem?_cons_zero]; rfl)) (by kernel_rfl) (by kernel_rfl) (by kernel_rfl) (by exact fun _ _ _ h => h) (Or.inl ⟨by rfl, ?_⟩) (by assumption) ?_
    rotate_left
    · (intro wS hS; have hSc := (bcell hS).1; clear hS; go_simp; try with_reducible rfl)
    try simp only [Act.put, List.setIfInBounds_toArray, List.set_cons_zero, List.set_cons_succ]
    refine wpAnyH_take (i := 2) (v := ?_) (by (simp only [List.getElem?_toArray, List.getElem?_cons_succ, List.getElem?_cons_zero]; rfl)) (by kernel_rfl) (by kernel_rfl) (by kernel_rfl) (by exact fun _ _ _ h => h) (Or.inl ⟨by rfl, ?_⟩) (by assumption) ?_
    rotate_left
    · (intro wS hS; have hSc := (bcell hS).1; clear hS; go_simp; try with_reducible rfl)
    try simp only [Act.put, List.setIfInBounds_toArray, List.set_cons_zero, List.set_cons_succ]
    refine wpAnyH_take (i := 4) (v := ?_) (by (simp only [List.getElem?_toArray, List.getElem?_cons_succ, List.getElem?_cons_zero]; rfl)) (by kernel_rfl) (by kernel_rfl) (by kernel_rfl) (by exact fun _ _ _ h => h) (Or.inl ⟨by rfl, ?_⟩) (by assumption) ?_
    rotate_left
    · (intro wS hS; clear hS; go_simp; try with_reducible rfl)
    try simp only [Act.put, List.setIfInBounds_toArray, List.set_cons_zero, List.set_cons_succ]
    refine wpAnyH_take (i := 5) (v := ?_) (by (simp only [List.getElem?_toArray, List.getElem?_cons_succ, List.getElem?_cons_zero]; rfl)) (by kernel_rfl) (by kernel_rfl) (by kernel_rfl) (by exact fun _ _ _ h => h) (Or.inl ⟨by rfl, ?_⟩) (by assumption) ?_
    rotate_left
    · (intro wS hS; clear hS; go_simp; try with_reducible rfl)
    try simp only [Act.put, List.setIfInBounds_toArray, List.set_cons_zero, List.set_cons_succ]
    refine wpAnyH_ready (rs := [1, 7]) (by kernel_rfl) (by simp) ?_
    refine AllReadyH.cons (by (simp only [List.getElem?_toArray, List.getElem?_cons_succ, List.getElem?_cons_zero]; rfl)) (fun K hK => ?_) (AllReadyH.cons (by (simp only [List.getElem?_toArray, List.getElem?_cons_succ, List.getElem?_cons_zero]; rfl)) (fun K hK => ?_) AllReadyH.nil)
    · go_simp
      (first | (go_at_call 18; refine (toSum_any _ _ _).mono ?_; rintro e w1 ⟨rfl, hb⟩; try replace hnew := heap_keep hb hnew) | (go_at_call 28; refine (toFormat_any _ _ _).mono ?_; rintro e w1 ⟨rfl, hb⟩; try replace hnew := heap_keep hb hnew) | (go_at_call 27; refine (specSumProduct_any v l W P a b _).mono ?_; rintro e w1 ⟨rfl, hb⟩; try replace hnew := heap_keep hb hnew))
      (try go_wp2_with fail)
      refine hK.out _ _ (by repeat (first | exact bw_refl _ | assumption | apply bw_alloc | apply bw_drew | apply bw_drewN | (refine bw_trans ?_ (by assumption)) | (refine bw_set ?_ (by simp only [go_sem]; omega) _))) (fun hHeld => ?_)
      clear hK K
      try simp only [Act.put, List.setIfInBounds_toArray, List.set_cons_zero, List.set_cons_succ]
      refine wpAnyH_ready (rs := [3, 7]) (by kernel_rfl) (by simp) ?_
      refine AllReadyH.cons (by (simp only [List.getElem?_toArray, List.getElem?_cons_succ, List.getElem?_cons_zero]; rfl)) (fun K hK => ?_) (AllReadyH.cons (by (simp only [List.getElem?_toArray, List.getElem?_cons_succ, List.getElem?_cons_zero]; rfl)) (fun K hK => ?_) AllReadyH.nil)
      · go_simp
        (first | (go_at_call 18; refine (toSum_any _ _ _).mono ?_; rintro e w1 ⟨rfl, hb⟩; try replace hnew := heap_keep hb hnew) | (go_at_call 28; refine (toFormat_any _ _ _).mono ?_; rintro e w1 ⟨rfl, hb⟩; try replace hnew := heap_keep hb hnew) | (go_at_call 27; refine (specSumProduct_any v l W P a b _).mono ?_; rintro e w1 ⟨rfl, hb⟩; try replace hnew := heap_keep hb hnew))
        (try go_wp2_with fail)
        refine hK.out _ _ (by repeat (first | exact bw_refl _ | assumption | apply bw_alloc | apply bw_drew | apply bw_drewN | (refine bw_trans ?_ (by assumption)) | (refine bw_set ?_ (by simp only [go_sem]; omega) _))) (fun hHeld => ?_)
        clear hK K
        try simp only [Act.put, List.setIfInBounds_toArray, List.set_cons_zero, List.set_cons_succ]
        refine wpAnyH_ready (rs := [6, 7]) (by kernel_rfl) (by simp) ?_
        refine AllReadyH.cons (by (simp only [List.getElem?_toArray, List.getElem?_cons_succ, List.getElem?_cons_zero]; rfl)) (fun K hK => ?_) (AllReadyH.cons (by (simp only [List.getElem?_toArray, List.getElem?_cons_succ, List.getElem?_cons_zero]; rfl)) (fun K hK => ?_) AllReadyH.nil)
        · go_simp
          (first | (go_at_call 18; refine (toSum_any _ _ _).mono ?_; rintro e w1 ⟨rfl, hb⟩; try replace hnew := heap_keep hb hnew) | (go_at_call 28; refine (toFormat_any _ _ _).mono ?_; rintro e w1 ⟨rfl, hb⟩; try replace hnew := heap_keep hb hnew) | (go_at_call 27; refine (specSumProduct_any v l W P a b _).mono ?_; rintro e w1 ⟨rfl, hb⟩; try replace hnew := heap_keep hb hnew))
          (try go_wp2_with fail)
          refine hK.out _ _ (by repeat (first | exact bw_refl _ | assumption | apply bw_alloc | apply bw_drew | apply bw_drewN | (refine bw_trans ?_ (by assumption)) | (refine bw_set ?_ (by simp only [go_sem]; omega) _))) (fun hHeld => ?_)
          clear hK K
          try simp only [Act.put, List.setIfInBounds_toArray, List.set_cons_zero, List.set_cons_succ]
          refine wpAnyH_ready (rs := [7]) (by kernel_rfl) (by simp) ?_
          refine AllReadyH.cons (by (simp only [List.getElem?_toArray, List.getElem?_cons_succ, List.getElem?_cons_zero]; rfl)) (fun K hK => ?_) AllReadyH.nil
          go_simp
          have hge := hHeld.size
          refine alloc_step (fun wa hb hnew => ?_)
          refine hK.out _ _ (by repeat (first | exact bw_refl _ | assumption | apply bw_alloc | apply bw_drew | apply bw_drewN | (refine bw_trans ?_ (by assumption)) | (refine bw_set ?_ (by simp only [go_sem]; omega) _))) (fun hHeld => ?_)
          clear hK K
          try simp only [Act.put, List.setIfInBounds_toArray, List.set_cons_zero, List.set_cons_succ]
          refine wpAnyH_ready (rs := [8]) (by kernel_rfl) (by simp) ?_
          refine AllReadyH.cons (by (simp only [List.getElem?_toArray, List.getElem?_cons_succ, List.getElem?_cons_zero]; rfl)) (fun K hK => ?_) AllReadyH.nil
          have n0 := Blk.cell hnew 0; have n1 := Blk.cell hnew 1; have m0 := Blk.frozen hnew 0; have m1 := Blk.frozen hnew 1; simp at n0 n1
          go_simp
          have hfin := Blk.two hnew (.int .i64 (prodV W P v a b)) (.bool (prodL W P v l a b))
          refine hK.out _ _ (by refine bw_set (bw_set ?_ ?_ _) ?_ _ <;> first | exact (by repeat (first | exact bw_refl _ | assumption | apply bw_alloc | apply bw_drew | apply bw_drewN | (refine bw_trans ?_ (by assumption)) | (refine bw_set ?_ (by simp only [go_sem]; omega) _))) | exact hge | (simp at hge ⊢; omega)) (fun hHeld => ?_)
          clear hK K
          try simp only [Act.put, List.setIfInBounds_toArray, List.set_cons_zero, List.set_cons_succ]
          refine wpAnyH_done (by kernel_rfl) ?_ _
          go_wp2_with fail
          go_meet
          exact ⟨_, rfl, by simp at hge ⊢; omega, hfin, hHeld.mono (by simp)⟩
        · go_simp
          have hge := hHeld.size
          refine alloc_step (fun wa hb hnew => ?_)
          refine hK.out _ _ (by repeat (first | exact bw_refl _ | assumption | apply bw_alloc | apply bw_drew | apply bw_drewN | (refine bw_trans ?_ (by assumption)) | (refine bw_set ?_ (by simp only [go_sem]; omega) _))) (fun hHeld => ?_)
          clear hK K
          try simp only [Act.put, List.setIfInBounds_toArray, List.set_cons_zero, List.set_cons_succ]
          refine wpAnyH_ready (rs := [6]) (by kernel_rfl) (by simp) ?_
          refine AllReadyH.cons (by (simp only [List.getElem?_toArray, List.getElem?_cons_succ, List.getElem?_cons_zero]; rfl)) (fun K hK => ?_) AllReadyH.nil
          go_simp
          (first | (go_at_call 18; refine (toSum_any _ _ _).mono ?_; rintro e w1 ⟨rfl, hb⟩; try replace hnew := heap_keep hb hnew) | (go_at_call 28; refine (toFormat_any _ _ _).mono ?_; rintro e w1 ⟨rfl, hb⟩; try replace hnew := heap_keep hb hnew) | (go_at_call 27; refine (specSumProduct_any v l W P a b _).mono ?_; rintro e w1 ⟨rfl, hb⟩; try replace hnew := heap_keep hb hnew))
          (try go_wp2_with fail)
          refine hK.out _ _ (by repeat (first | exact bw_refl _ | assumption | apply bw_alloc | apply bw_drew | apply bw_drewN | (refine bw_trans ?_ (by assumption)) | (refine bw_set ?_ (by simp only [go_sem]; omega) _))) (fun hHeld => ?_)
          clear hK K
          try simp only [Act.put, List.setIfInBounds_toArray, List.set_cons_zero, List.set_cons_succ]
          refine wpAnyH_ready (rs := [8]) (by kernel_rfl) (by simp) ?_
          refine AllReadyH.cons (by (simp only [List.getElem?_toArray, List.getElem?_cons_succ, List.getElem?_cons_zero]; rfl)) (fun K hK => ?_) AllReadyH.nil
          have n0 := Blk.cell hnew 0; have n1 := Blk.cell hnew 1; have m0 := Blk.frozen hnew 0; have m1 := Blk.frozen hnew 1; simp at n0 n1
          go_simp
          have hfin := Blk.two hnew (.int .i64 (prodV W P v a b)) (.bool (prodL W P v l a b))
          refine hK.out _ _ (by refine bw_set (bw_set ?_ ?_ _) ?_ _ <;> first | exact (by repeat (first | exact bw_refl _ | assumption | apply bw_alloc | apply bw_drew | apply bw_drewN | (refine bw_trans ?_ (by assumption)) | (refine bw_set ?_ (by simp only [go_sem]; omega) _))) | exact hge | (simp at hge ⊢; omega)) (fun hHeld => ?_)
          clear hK K
          try simp only [Act.put, List.setIfInBounds_toArray, List.set_cons_zero, List.set_cons_succ]
          refine wpAnyH_done (by kernel_rfl) ?_ _
          go_wp2_with fail
          go_meet
          exact ⟨_, rfl, by simp at hge ⊢; omega, hfin, hHeld.mono (by simp)⟩
      · go_simp
        have hge := hHeld.size
        refine alloc_step (fun wa hb hnew => ?_)
        refine hK.out _ _ (by repeat (first | exact bw_refl _ | assumption | apply bw_alloc | apply bw_drew | apply bw_drewN | (refine bw_trans ?_ (by assumption)) | (refine bw_set ?_ (by simp only [go_sem]; omega) _))) (fun hHeld => ?_)
        clear hK K
        try simp only [Act.put, List.setIfInBounds_toArray, List.set_cons_zero, List.set_cons_succ]
        refine wpAnyH_ready (rs := [3]) (by kernel_rfl) (by simp) ?_
        refine AllReadyH.cons (by (simp only [List.getElem?_toArray, List.getElem?_cons_succ, List.getElem?_cons_zero]; rfl)) (fun K hK => ?_) AllReadyH.nil
        go_simp
        (first | (go_at_call 18; refine (toSum_any _ _ _).mono ?_; rintro e w1 ⟨rfl, hb⟩; try replace hnew := heap_keep hb hnew) | (go_at_call 28; refine (toFormat_any _ _ _).mono ?_; rintro e w1 ⟨rfl, hb⟩; try replace hnew := heap_keep hb hnew) | (go_at_call 27; refine (specSumProduct_any v l W P a b _).mono ?_; rintro e w1 ⟨rfl, hb⟩; try replace hnew := heap_keep hb hnew))
        (try go_wp2_with fail)
        refine hK.out _ _ (by repeat (first | exact bw_refl _ | assumption | apply bw_alloc | apply bw_drew | apply bw_drewN | (refine bw_trans ?_ (by assumption)) | (refine bw_set ?_ (by simp only [go_sem]; omega) _))) (fun hHeld => ?_)
        clear hK K
        try simp only [Act.put, List.setIfInBounds_toArray, List.set_cons_zero, List.set_cons_succ]
        refine wpAnyH_ready (rs := [6]) (by kernel_rfl) (by simp) ?_
        refine AllReadyH.cons (by (simp only [List.getElem?_toArray, List.getElem?_cons_succ, List.getElem?_cons_zero]; rfl)) (fun K hK => ?_) AllReadyH.nil
        go_simp
        (first | (go_at_call 18; refine (toSum_any _ _ _).mono ?_; rintro e w1 ⟨rfl, hb⟩; try replace hnew := heap_keep hb hnew) | (go_at_call 28; refine (toFormat_any _ _ _).mono ?_; rintro e w1 ⟨rfl, hb⟩; try replace hnew := heap_keep hb hnew) | (go_at_call 27; refine (specSumProduct_any v l W P a b _).mono ?_; rintro e w1 ⟨rfl, hb⟩; try replace hnew := heap_keep hb hnew))
        (try go_wp2_with fail)
        refine hK.out _ _ (by repeat (first | exact bw_refl _ | assumption | apply bw_alloc | apply bw_drew | apply bw_drewN | (refine bw_trans ?_ (by assumption)) | (refine bw_set ?_ (by simp only [go_sem]; omega) _))) (fun hHeld => ?_)
        clear hK K
        try simp only [Act.put, List.setIfInBounds_toArray, List.set_cons_zero, List.set_cons_succ]
        refine wpAnyH_ready (rs := [8]) (by kernel_rfl) (by simp) ?_
        refine AllReadyH.cons (by (simp only [List.getElem?_toArray, List.getElem?_cons_succ, List.getElem?_cons_zero]; rfl)) (fun K hK => ?_) AllReadyH.nil
        have n0 := Blk.cell hnew 0; have n1 := Blk.cell hnew 1; have m0 := Blk.frozen hnew 0; have m1 := Blk.frozen hnew 1; simp at n0 n1
        go_simp
        have hfin := Blk.two hnew (.int .i64 (prodV W P v a b)) (.bool (prodL W P v l a b))
        refine hK.out _ _ (by refine bw_set (bw_set ?_ ?_ _) ?_ _ <;> first | exact (by repeat (first | exact bw_refl _ | assumption | apply bw_alloc | apply bw_drew | apply bw_drewN | (refine bw_trans ?_ (by assumption)) | (refine bw_set ?_ (by simp only [go_sem]; omega) _))) | exact hge | (simp at hge ⊢; omega)) (fun hHeld => ?_)
        clear hK K
        try simp only [Act.put, List.setIfInBounds_toArray, List.set_cons_zero, List.set_cons_succ]
        refine wpAnyH_done (by kernel_rfl) ?_ _
        go_wp2_with fail
        go_meet
        exact ⟨_, rfl, by simp at hge ⊢; omega, hfin, hHeld.mono (by simp)⟩
    · go_simp
      have hge := hHeld.size
      refine alloc_step (fun wa hb hnew => ?_)
      refine hK.out _ _ (by repeat (first | exact bw_refl _ | assumption | apply bw_alloc | apply bw_drew | apply bw_drewN | (refine bw_trans ?_ (by assumption)) | (refine bw_set ?_ (by simp only [go_sem]; omega) _))) (fun hHeld => ?_)
      clear hK K
      try simp only [Act.put, List.setIfInBounds_toArray, List.set_cons_zero, List.set_cons_succ]
      refine wpAnyH_ready (rs := [1]) (by kernel_rfl) (by simp) ?_
      refine AllReadyH.cons (by (simp only [List.getElem?_toArray, List.getElem?_cons_succ, List.getElem?_cons_zero]; rfl)) (fun K hK => ?_) AllReadyH.nil
      go_simp
      (first | (go_at_call 18; refine (toSum_any _ _ _).mono ?_; rintro e w1 ⟨rfl, hb⟩; try replace hnew := heap_keep hb hnew) | (go_at_call 28; refine (toFormat_any _ _ _).mono ?_; rintro e w1 ⟨rfl, hb⟩; try replace hnew := heap_keep hb hnew) | (go_at_call 27; refine (specSumProduct_any v l W P a b _).mono ?_; rintro e w1 ⟨rfl, hb⟩; try replace hnew := heap_keep hb hnew))
      (try go_wp2_with fail)
      refine hK.out _ _ (by repeat (first | exact bw_refl _ | assumption | apply bw_alloc | apply bw_drew | apply bw_drewN | (refine bw_trans ?_ (by assumption)) | (refine bw_set ?_ (by simp only [go_sem]; omega) _))) (fun hHeld => ?_)
      clear hK K
      try simp only [Act.put, List.setIfInBounds_toArray, List.set_cons_zero, List.set_cons_succ]
      refine wpAnyH_ready (rs := [3]) (by kernel_rfl) (by simp) ?_
      refine AllReadyH.cons (by (simp only [List.getElem?_toArray, List.getElem?_cons_succ, List.getElem?_cons_zero]; rfl)) (fun K hK => ?_) AllReadyH.nil
      go_simp
      (first | (go_at_call 18; refine (toSum_any _ _ _).mono ?_; rintro e w1 ⟨rfl, hb⟩; try replace hnew := heap_keep hb hnew) | (go_at_call 28; refine (toFormat_any _ _ _).mono ?_; rintro e w1 ⟨rfl, hb⟩; try replace hnew := heap_keep hb hnew) | (go_at_call 27; refine (specSumProduct_any v l W P a b _).mono ?_; rintro e w1 ⟨rfl, hb⟩; try replace hnew := heap_keep hb hnew))
      (try go_wp2_with fail)
      refine hK.out _ _ (by repeat (first | exact bw_refl _ | assumption | apply bw_alloc | apply bw_drew | apply bw_drewN | (refine bw_trans ?_ (by assumption)) | (refine bw_set ?_ (by simp only [go_sem]; omega) _))) (fun hHeld => ?_)
      clear hK K
      try simp only [Act.put, List.setIfInBounds_toArray, List.set_cons_zero, List.set_cons_succ]
      refine wpAnyH_ready (rs := [6]) (by kernel_rfl) (by simp) ?_
      refine AllReadyH.cons (by (simp only [List.getElem?_toArray, List.getElem?_cons_succ, List.getElem?_cons_zero]; rfl)) (fun K hK => ?_) AllReadyH.nil
      go_simp
      (first | (go_at_call 18; refine (toSum_any _ _ _).mono ?_; rintro e w1 ⟨rfl, hb⟩; try replace hnew := heap_keep hb hnew) | (go_at_call 28; refine (toFormat_any _ _ _).mono ?_; rintro e w1 ⟨rfl, hb⟩; try replace hnew := heap_keep hb hnew) | (go_at_call 27; refine (specSumProduct_any v l W P a b _).mono ?_; rintro e w1 ⟨rfl, hb⟩; try replace hnew := heap_keep hb hnew))
      (try go_wp2_with fail)
      refine hK.out _ _ (by repeat (first | exact bw_refl _ | assumption | apply bw_alloc | apply bw_drew | apply bw_drewN | (refine bw_trans ?_ (by assumption)) | (refine bw_set ?_ (by simp only [go_sem]; omega) _))) (fun hHeld => ?_)
      clear hK K
      try simp only [Act.put, List.setIfInBounds_toArray, List.set_cons_zero, List.set_cons_succ]
      refine wpAnyH_ready (rs := [8]) (by kernel_rfl) (by simp) ?_
      refine AllReadyH.cons (by (simp only [List.getElem?_toArray, List.getElem?_cons_succ, List.getElem?_cons_zero]; rfl)) (fun K hK => ?_) AllReadyH.nil
      have n0 := Blk.cell hnew 0; have n1 := Blk.cell hnew 1; have m0 := Blk.frozen hnew 0; have m1 := Blk.frozen hnew 1; simp at n0 n1
      go_simp
      have hfin := Blk.two hnew (.int .i64 (prodV W P v a b)) (.bool (prodL W P v l a b))
      refine hK.out _ _ (by refine bw_set (bw_set ?_ ?_ _) ?_ _ <;> first | exact (by repeat (first | exact bw_refl _ | assumption | apply bw_alloc | apply bw_drew | apply bw_drewN | (refine bw_trans ?_ (by assumption)) | (refine bw_set ?_ (by simp only [go_sem]; omega) _))) | exact hge | (simp at hge ⊢; omega)) (fun hHeld => ?_)
      clear hK K
      try simp only [Act.put, List.setIfInBounds_toArray, List.set_cons_zero, List.set_cons_succ]
      refine wpAnyH_done (by kernel_rfl) ?_ _
      go_wp2_with fail
      go_meet
      exact ⟨_, rfl, by simp at hge ⊢; omega, hfin, hHeld.mono (by simp)⟩
  case rest =>
    obtain ⟨g, rfl, hg, hB, hb⟩ := hcut
    have s1 : wc.cell? ⟨w.heap.size, 0, none⟩ = some (.int .i64 v) := (hb.cell (by simp)).trans (by go_simp)
    have s2 : wc.cell? ⟨w.heap.size, 1, none⟩ = some (.bool l) := (hb.cell (by simp)).trans (by go_simp)
    have s3 : wc.cell? ⟨w.heap.size + 1, 0, none⟩ = some (.int .i64 W) := (hb.cell (by simp)).trans (by go_simp)
    have s4 : wc.cell? ⟨w.heap.size + 1, 1, none⟩ = some (.int .i64 P) := (hb.cell (by simp)).trans (by go_simp)
    have hw : Below w.heap.size w wc := Below.trans (bw_alloc (bw_alloc (bw_refl w) _) _) (hb.mono (by omega))
    have z0 : w.heap.size < wc.heap.size := World.block_lt_of_cell? _ _ s1
    have z1 : w.heap.size + 1 < wc.heap.size := World.block_lt_of_cell? _ _ s3
    go_upto_region 2 with fail
    go_cut [10] (fun s10 wx => ∃ g' : Nat, s10 = .pointer (some ⟨g', 0, none⟩) ∧ Blk wx g' 26 #[.int .i64 (prodV W P v a b), .bool (prodL W P v l a b)] ∧ Below wc.heap.size wc wx)
    case first =>
      refine wp_region_below (by kernel_rfl) (fun wD hHeld => ?_)
      refine wpAnyH_take (i := 0) (v := ?_) (by (simp only [List.getElem?_toArray, List.getElem?_cons_zero]; rfl)) (by kernel_rfl) (by kernel_rfl) (by kernel_rfl) (by exact fun _ _ _ h => h) (Or.inl ⟨by rfl, ?_⟩) (by assumption) ?_
      rotate_left
      · (intro wS hS; have hSc := (bcell hS).1; clear hS; go_simp; try with_reducible rfl)
      try simp only [Act.put, List.setIfInBounds_toArray, List.set_cons_zero, List.set_cons_succ]
      refine wpAnyH_take (i := 2) (v := ?_) (by (simp only [List.getElem?_toArray, List.getElem?_cons_succ, List.getElem?_cons_zero]; rfl)) (by kernel_rfl) (by kernel_rfl) (by kernel_rfl) (by exact fun _ _ _ h => h) (Or.inl ⟨by rfl, ?_⟩) (by assumption) ?_
      rotate_left
      · (intro wS hS; have hSc := (bcell hS).1; clear hS; go_simp; try with_reducible rfl)
      try simp only [Act.put, List.setIfInBounds_toArray, List.set_cons_zero, List.set_cons_succ]
      refine wpAnyH_take (i := 4) (v := ?_) (by (simp only [List.getElem?_toArray, List.getElem?_cons_succ, List.getElem?_cons_zero]; rfl)) (by kernel_rfl) (by kernel_rfl) (by kernel_rfl) (by exact fun _ _ _ h => h) (Or.inl ⟨by rfl, ?_⟩) (by assumption) ?_
      rotate_left
      · (intro wS hS; clear hS; go_simp; try with_reducible rfl)
      try simp only [Act.put, List.setIfInBounds_toArray, List.set_cons_zero, List.set_cons_succ]
      refine wpAnyH_take (i := 5) (v := ?_) (by (simp only [List.getElem?_toArray, List.getElem?_cons_succ, List.getElem?_cons_zero]; rfl)) (by kernel_rfl) (by kernel_rfl) (by kernel_rfl) (by exact fun _ _ _ h => h) (Or.inl ⟨by rfl, ?_⟩) (by assumption) ?_
      rotate_left
      · (intro wS hS; clear hS; go_simp; try with_reducible rfl)
      try simp only [Act.put, List.setIfInBounds_toArray, List.set_cons_zero, List.set_cons_succ]
      refine wpAnyH_ready (rs := [1, 7]) (by kernel_rfl) (by simp) ?_
      refine AllReadyH.cons (by (simp only [List.getElem?_toArray, List.getElem?_cons_succ, List.getElem?_cons_zero]; rfl)) (fun K hK => ?_) (AllReadyH.cons (by (simp only [List.getElem?_toArray, List.getElem?_cons_succ, List.getElem?_cons_zero]; rfl)) (fun K hK => ?_) AllReadyH.nil)
      · go_simp
        (first | (go_at_call 18; refine (toSum_any _ _ _).mono ?_; rintro e w1 ⟨rfl, hb⟩; try replace hnew := heap_keep hb hnew) | (go_at_call 28; refine (toFormat_any _ _ _).mono ?_; rintro e w1 ⟨rfl, hb⟩; try replace hnew := heap_keep hb hnew) | (go_at_call 29; refine (implSumProduct_any v l W P a b _).mono ?_; rintro e w1 ⟨rfl, hb⟩; try replace hnew := heap_keep hb hnew))
        (try go_wp2_with fail)
        refine hK.out _ _ (by repeat (first | exact bw_refl _ | assumption | apply bw_alloc | apply bw_drew | apply bw_drewN | (refine bw_trans ?_ (by assumption)) | (refine bw_set ?_ (by simp only [go_sem]; omega) _))) (fun hHeld => ?_)
        clear hK K
        try simp only [Act.put, List.setIfInBounds_toArray, List.set_cons_zero, List.set_cons_succ]
        refine wpAnyH_ready (rs := [3, 7]) (by kernel_rfl) (by simp) ?_
        refine AllReadyH.cons (by (simp only [List.getElem?_toArray, List.getElem?_cons_succ, List.getElem?_cons_zero]; rfl)) (fun K hK => ?_) (AllReadyH.cons (by (simp only [List.getElem?_toArray, List.getElem?_cons_succ, List.getElem?_cons_zero]; rfl)) (fun K hK => ?_) AllReadyH.nil)
        · go_simp
          (first | (go_at_call 18; refine (toSum_any _ _ _).mono ?_; rintro e w1 ⟨rfl, hb⟩; try replace hnew := heap_keep hb hnew) | (go_at_call 28; refine (toFormat_any _ _ _).mono ?_; rintro e w1 ⟨rfl, hb⟩; try replace hnew := heap_keep hb hnew) | (go_at_call 29; refine (implSumProduct_any v l W P a b _).mono ?_; rintro e w1 ⟨rfl, hb⟩; try replace hnew := heap_keep hb hnew))
          (try go_wp2_with fail)
          refine hK.out _ _ (by repeat (first | exact bw_refl _ | assumption | apply bw_alloc | apply bw_drew | apply bw_drewN | (refine bw_trans ?_ (by assumption)) | (refine bw_set ?_ (by simp only [go_sem]; omega) _))) (fun hHeld => ?_)
          clear hK K
          try simp only [Act.put, List.setIfInBounds_toArray, List.set_cons_zero, List.set_cons_succ]
          refine wpAnyH_ready (rs := [6, 7]) (by kernel_rfl) (by simp) ?_
          refine AllReadyH.cons (by (simp only [List.getElem?_toArray, List.getElem?_cons_succ, List.getElem?_cons_zero]; rfl)) (fun K hK => ?_) (AllReadyH.cons (by (simp only [List.getElem?_toArray, List.getElem?_cons_succ, List.getElem?_cons_zero]; rfl)) (fun K hK => ?_) AllReadyH.nil)
          · go_simp
            (first | (go_at_call 18; refine (toSum_any _ _ _).mono ?_; rintro e w1 ⟨rfl, hb⟩; try replace hnew := heap_keep hb hnew) | (go_at_call 28; refine (toFormat_any _ _ _).mono ?_; rintro e w1 ⟨rfl, hb⟩; try replace hnew := heap_keep hb hnew) | (go_at_call 29; refine (implSumProduct_any v l W P a b _).mono ?_; rintro e w1 ⟨rfl, hb⟩; try replace hnew := heap_keep hb hnew))
            (try go_wp2_with fail)
            refine hK.out _ _ (by repeat (first | exact bw_refl _ | assumption | apply bw_alloc | apply bw_drew | apply bw_drewN | (refine bw_trans ?_ (by assumption)) | (refine bw_set ?_ (by simp only [go_sem]; omega) _))) (fun hHeld => ?_)
            clear hK K
            try simp only [Act.put, List.setIfInBounds_toArray, List.set_cons_zero, List.set_cons_succ]
            refine wpAnyH_ready (rs := [7]) (by kernel_rfl) (by simp) ?_
            refine AllReadyH.cons (by (simp only [List.getElem?_toArray, List.getElem?_cons_succ, List.getElem?_cons_zero]; rfl)) (fun K hK => ?_) AllReadyH.nil
            go_simp
            have hge := hHeld.size
            refine alloc_step (fun wa hb hnew => ?_)
            refine hK.out _ _ (by repeat (first | exact bw_refl _ | assumption | apply bw_alloc | apply bw_drew | apply bw_drewN | (refine bw_trans ?_ (by assumption)) | (refine bw_set ?_ (by simp only [go_sem]; omega) _))) (fun hHeld => ?_)
            clear hK K
            try simp only [Act.put, List.setIfInBounds_toArray, List.set_cons_zero, List.set_cons_succ]
            refine wpAnyH_ready (rs := [8]) (by kernel_rfl) (by simp) ?_
            refine AllReadyH.cons (by (simp only [List.getElem?_toArray, List.getElem?_cons_succ, List.getElem?_cons_zero]; rfl)) (fun K hK => ?_) AllReadyH.nil
            have n0 := Blk.cell hnew 0; have n1 := Blk.cell hnew 1; have m0 := Blk.frozen hnew 0; have m1 := Blk.frozen hnew 1; simp at n0 n1
            go_simp
            have hfin := Blk.two hnew (.int .i64 (prodV W P v a b)) (.bool (prodL W P v l a b))
            refine hK.out _ _ (by refine bw_set (bw_set ?_ ?_ _) ?_ _ <;> first | exact (by repeat (first | exact bw_refl _ | assumption | apply bw_alloc | apply bw_drew | apply bw_drewN | (refine bw_trans ?_ (by assumption)) | (refine bw_set ?_ (by simp only [go_sem]; omega) _))) | exact hge | (simp at hge ⊢; omega)) (fun hHeld => ?_)
            clear hK K
            try simp only [Act.put, List.setIfInBounds_toArray, List.set_cons_zero, List.set_cons_succ]
            refine wpAnyH_done (by kernel_rfl) ?_ _
            go_wp2_with fail
            go_meet
            exact ⟨_, rfl, hfin, hHeld⟩
          · go_simp
            have hge := hHeld.size
            refine alloc_step (fun wa hb hnew => ?_)
            refine hK.out _ _ (by repeat (first | exact bw_refl _ | assumption | apply bw_alloc | apply bw_drew | apply bw_drewN | (refine bw_trans ?_ (by assumption)) | (refine bw_set ?_ (by simp only [go_sem]; omega) _))) (fun hHeld => ?_)
            clear hK K
            try simp only [Act.put, List.setIfInBounds_toArray, List.set_cons_zero, List.set_cons_succ]
            refine wpAnyH_ready (rs := [6]) (by kernel_rfl) (by simp) ?_
            refine AllReadyH.cons (by (simp only [List.getElem?_toArray, List.getElem?_cons_succ, List.getElem?_cons_zero]; rfl)) (fun K hK => ?_) AllReadyH.nil
            go_simp
            (first | (go_at_call 18; refine (toSum_any _ _ _).mono ?_; rintro e w1 ⟨rfl, hb⟩; try replace hnew := heap_keep hb hnew) | (go_at_call 28; refine (toFormat_any _ _ _).mono ?_; rintro e w1 ⟨rfl, hb⟩; try replace hnew := heap_keep hb hnew) | (go_at_call 29; refine (implSumProduct_any v l W P a b _).mono ?_; rintro e w1 ⟨rfl, hb⟩; try replace hnew := heap_keep hb hnew))
            (try go_wp2_with fail)
            refine hK.out _ _ (by repeat (first | exact bw_refl _ | assumption | apply bw_alloc | apply bw_drew | apply bw_drewN | (refine bw_trans ?_ (by assumption)) | (refine bw_set ?_ (by simp only [go_sem]; omega) _))) (fun hHeld => ?_)
            clear hK K
            try simp only [Act.put, List.setIfInBounds_toArray, List.set_cons_zero, List.set_cons_succ]
            refine wpAnyH_ready (rs := [8]) (by kernel_rfl) (by simp) ?_
            refine AllReadyH.cons (by (simp only [List.getElem?_toArray, List.getElem?_cons_succ, List.getElem?_cons_zero]; rfl)) (fun K hK => ?_) AllReadyH.nil
            have n0 := Blk.cell hnew 0; have n1 := Blk.cell hnew 1; have m0 := Blk.frozen hnew 0; have m1 := Blk.frozen hnew 1; simp at n0 n1
            go_simp
            have hfin := Blk.two hnew (.int .i64 (prodV W P v a b)) (.bool (prodL W P v l a b))
            refine hK.out _ _ (by refine bw_set (bw_set ?_ ?_ _) ?_ _ <;> first | exact (by repeat (first | exact bw_refl _ | assumption | apply bw_alloc | apply bw_drew | apply bw_drewN | (refine bw_trans ?_ (by assumption)) | (refine bw_set ?_ (by simp only [go_sem]; omega) _))) | exact hge | (simp at hge ⊢; omega)) (fun hHeld => ?_)
            clear hK K
            try simp only [Act.put, List.setIfInBounds_toArray, List.set_cons_zero, List.set_cons_succ]
            refine wpAnyH_done (by kernel_rfl) ?_ _
            go_wp2_with fail
            go_meet
            exact ⟨_, rfl, hfin, hHeld⟩
        · go_simp
          have hge := hHeld.size
          refine alloc_step (fun wa hb hnew => ?_)
          refine hK.out _ _ (by repeat (first | exact bw_refl _ | assumption | apply bw_alloc | apply bw_drew | apply bw_drewN | (refine bw_trans ?_ (by assumption)) | (refine bw_set ?_ (by simp only [go_sem]; omega) _))) (fun hHeld => ?_)
          clear hK K
          try simp only [Act.put, List.setIfInBounds_toArray, List.set_cons_zero, List.set_cons_succ]
          refine wpAnyH_ready (rs := [3]) (by kernel_rfl) (by simp) ?_
          refine AllReadyH.cons (by (simp only [List.getElem?_toArray, List.getElem?_cons_succ, List.getElem?_cons_zero]; rfl)) (fun K hK => ?_) AllReadyH.nil
          go_simp
          (first | (go_at_call 18; refine (toSum_any _ _ _).mono ?_; rintro e w1 ⟨rfl, hb⟩; try replace hnew := heap_keep hb hnew) | (go_at_call 28; refine (toFormat_any _ _ _).mono ?_; rintro e w1 ⟨rfl, hb⟩; try replace hnew := heap_keep hb hnew) | (go_at_call 29; refine (implSumProduct_any v l W P a b _).mono ?_; rintro e w1 ⟨rfl, hb⟩; try replace hnew := heap_keep hb hnew))
          (try go_wp2_with fail)
          refine hK.out _ _ (by repeat (first | exact bw_refl _ | assumption | apply bw_alloc | apply bw_drew | apply bw_drewN | (refine bw_trans ?_ (by assumption)) | (refine bw_set ?_ (by simp only [go_sem]; omega) _))) (fun hHeld => ?_)
          clear hK K
          try simp only [Act.put, List.setIfInBounds_toArray, List.set_cons_zero, List.set_cons_succ]
          refine wpAnyH_ready (rs := [6]) (by kernel_rfl) (by simp) ?_
          refine AllReadyH.cons (by (simp only [List.getElem?_toArray, List.getElem?_cons_succ, List.getElem?_cons_zero]; rfl)) (fun K hK => ?_) AllReadyH.nil
          go_simp
          (first | (go_at_call 18; refine (toSum_any _ _ _).mono ?_; rintro e w1 ⟨rfl, hb⟩; try replace hnew := heap_keep hb hnew) | (go_at_call 28; refine (toFormat_any _ _ _).mono ?_; rintro e w1 ⟨rfl, hb⟩; try replace hnew := heap_keep hb hnew) | (go_at_call 29; refine (implSumProduct_any v l W P a b _).mono ?_; rintro e w1 ⟨rfl, hb⟩; try replace hnew := heap_keep hb hnew))
          (try go_wp2_with fail)
          refine hK.out _ _ (by repeat (first | exact bw_refl _ | assumption | apply bw_alloc | apply bw_drew | apply bw_drewN | (refine bw_trans ?_ (by assumption)) | (refine bw_set ?_ (by simp only [go_sem]; omega) _))) (fun hHeld => ?_)
          clear hK K
          try simp only [Act.put, List.setIfInBounds_toArray, List.set_cons_zero, List.set_cons_succ]
          refine wpAnyH_ready (rs := [8]) (by kernel_rfl) (by simp) ?_
          refine AllReadyH.cons (by (simp only [List.getElem?_toArray, List.getElem?_cons_succ, List.getElem?_cons_zero]; rfl)) (fun K hK => ?_) AllReadyH.nil
          have n0 := Blk.cell hnew 0; have n1 := Blk.cell hnew 1; have m0 := Blk.frozen hnew 0; have m1 := Blk.frozen hnew 1; simp at n0 n1
          go_simp
          have hfin := Blk.two hnew (.int .i64 (prodV W P v a b)) (.bool (prodL W P v l a b))
          refine hK.out _ _ (by refine bw_set (bw_set ?_ ?_ _) ?_ _ <;> first | exact (by repeat (first | exact bw_refl _ | assumption | apply bw_alloc | apply bw_drew | apply bw_drewN | (refine bw_trans ?_ (by assumption)) | (refine bw_set ?_ (by simp only [go_sem]; omega) _))) | exact hge | (simp at hge ⊢; omega)) (fun hHeld => ?_)
          clear hK K
          try simp only [Act.put, List.setIfInBounds_toArray, List.set_cons_zero, List.set_cons_succ]
          refine wpAnyH_done (by kernel_rfl) ?_ _
          go_wp2_with fail
          go_meet
          exact ⟨_, rfl, hfin, hHeld⟩
      · go_simp
        have hge := hHeld.size
        refine alloc_step (fun wa hb hnew => ?_)
        refine hK.out _ _ (by repeat (first | exact bw_refl _ | assumption | apply bw_alloc | apply bw_drew | apply bw_drewN | (refine bw_trans ?_ (by assumption)) | (refine bw_set ?_ (by simp only [go_sem]; omega) _))) (fun hHeld => ?_)
        clear hK K
        try simp only [Act.put, List.setIfInBounds_toArray, List.set_cons_zero, List.set_cons_succ]
        refine wpAnyH_ready (rs := [1]) (by kernel_rfl) (by simp) ?_
        refine AllReadyH.cons (by (simp only [List.getElem?_toArray, List.getElem?_cons_succ, List.getElem?_cons_zero]; rfl)) (fun K hK => ?_) AllReadyH.nil
        go_simp
        (first | (go_at_call 18; refine (toSum_any _ _ _).mono ?_; rintro e w1 ⟨rfl, hb⟩; try replace hnew := heap_keep hb hnew) | (go_at_call 28; refine (toFormat_any _ _ _).mono ?_; rintro e w1 ⟨rfl, hb⟩; try replace hnew := heap_keep hb hnew) | (go_at_call 29; refine (implSumProduct_any v l W P a b _).mono ?_; rintro e w1 ⟨rfl, hb⟩; try replace hnew := heap_keep hb hnew))
        (try go_wp2_with fail)
        refine hK.out _ _ (by repeat (first | exact bw_refl _ | assumption | apply bw_alloc | apply bw_drew | apply bw_drewN | (refine bw_trans ?_ (by assumption)) | (refine bw_set ?_ (by simp only [go_sem]; omega) _))) (fun hHeld => ?_)
        clear hK K
        try simp only [Act.put, List.setIfInBounds_toArray, List.set_cons_zero, List.set_cons_succ]
        refine wpAnyH_ready (rs := [3]) (by kernel_rfl) (by simp) ?_
        refine AllReadyH.cons (by (simp only [List.getElem?_toArray, List.getElem?_cons_succ, List.getElem?_cons_zero]; rfl)) (fun K hK => ?_) AllReadyH.nil
        go_simp
        (first | (go_at_call 18; refine (toSum_any _ _ _).mono ?_; rintro e w1 ⟨rfl, hb⟩; try replace hnew := heap_keep hb hnew) | (go_at_call 28; refine (toFormat_any _ _ _).mono ?_; rintro e w1 ⟨rfl, hb⟩; try replace hnew := heap_keep hb hnew) | (go_at_call 29; refine (implSumProduct_any v l W P a b _).mono ?_; rintro e w1 ⟨rfl, hb⟩; try replace hnew := heap_keep hb hnew))
        (try go_wp2_with fail)
        refine hK.out _ _ (by repeat (first | exact bw_refl _ | assumption | apply bw_alloc | apply bw_drew | apply bw_drewN | (refine bw_trans ?_ (by assumption)) | (refine bw_set ?_ (by simp only [go_sem]; omega) _))) (fun hHeld => ?_)
        clear hK K
        try simp only [Act.put, List.setIfInBounds_toArray, List.set_cons_zero, List.set_cons_succ]
        refine wpAnyH_ready (rs := [6]) (by kernel_rfl) (by simp) ?_
        refine AllReadyH.cons (by (simp only [List.getElem?_toArray, List.getElem?_cons_succ, List.getElem?_cons_zero]; rfl)) (fun K hK => ?_) AllReadyH.nil
        go_simp
        (first | (go_at_call 18; refine (toSum_any _ _ _).mono ?_; rintro e w1 ⟨rfl, hb⟩; try replace hnew := heap_keep hb hnew) | (go_at_call 28; refine (toFormat_any _ _ _).mono ?_; rintro e w1 ⟨rfl, hb⟩; try replace hnew := heap_keep hb hnew) | (go_at_call 29; refine (implSumProduct_any v l W P a b _).mono ?_; rintro e w1 ⟨rfl, hb⟩; try replace hnew := heap_keep hb hnew))
        (try go_wp2_with fail)
        refine hK.out _ _ (by repeat (first | exact bw_refl _ | assumption | apply bw_alloc | apply bw_drew | apply bw_drewN | (refine bw_trans ?_ (by assumption)) | (refine bw_set ?_ (by simp only [go_sem]; omega) _))) (fun hHeld => ?_)
        clear hK K
        try simp only [Act.put, List.setIfInBounds_toArray, List.set_cons_zero, List.set_cons_succ]
        refine wpAnyH_ready (rs := [8]) (by kernel_rfl) (by simp) ?_
        refine AllReadyH.cons (by (simp only [List.getElem?_toArray, List.getElem?_cons_succ, List.getElem?_cons_zero]; rfl)) (fun K hK => ?_) AllReadyH.nil
        have n0 := Blk.cell hnew 0; have n1 := Blk.cell hnew 1; have m0 := Blk.frozen hnew 0; have m1 := Blk.frozen hnew 1; simp at n0 n1
        go_simp
        have hfin := Blk.two hnew (.int .i64 (prodV W P v a b)) (.bool (prodL W P v l a b))
        refine hK.out _ _ (by refine bw_set (bw_set ?_ ?_ _) ?_ _ <;> first | exact (by repeat (first | exact bw_refl _ | assumption | apply bw_alloc | apply bw_drew | apply bw_drewN | (refine bw_trans ?_ (by assumption)) | (refine bw_set ?_ (by simp only [go_sem]; omega) _))) | exact hge | (simp at hge ⊢; omega)) (fun hHeld => ?_)
        clear hK K
        try simp only [Act.put, List.setIfInBounds_toArray, List.set_cons_zero, List.set_cons_succ]
        refine wpAnyH_done (by kernel_rfl) ?_ _
        go_wp2_with fail
        go_meet
        exact ⟨_, rfl, hfin, hHeld⟩
    case rest =>
      obtain ⟨g', rfl, hB', hb'⟩ := hcut
      have hB2 := Blk.below hB hb' hB.lt
      have t1 := hB2.cell 0
      have t2 := hB2.cell 1
      have t3 := hB'.cell 0
      have t4 := hB'.cell 1
      simp at t1 t2 t3 t4
      go_wp2_with (go_at_call 22; refine (eqSum_same _ _ _).mono ?_; rintro e w1 ⟨rfl, hb⟩)
      go_ret
      exact ⟨rfl, (by repeat (first | exact bw_refl _ | assumption | apply bw_alloc | apply bw_drew | apply bw_drewN | (refine bw_trans ?_ (by assumption)) | (refine bw_set ?_ (by simp only [go_sem]; omega) _)))⟩
theorem pow2_16 (P : Int) (h2 : 0 ≤ P) (h3 : P ≤ 16) : 1 ≤ (2 : Int) ^ P.toNat ∧ (2 : Int) ^ P.toNat ≤ 65536 := by
  have := pow2_bd P.toNat 16 (by omega)
  have c : (2 : Int) ^ 16 = 65536 := by decide
  omega
def storedV (W P v : Int) : Int := if inB v (-1125899906842624) 1125899906842624 && fmtB W P then cutF W P (rdiv v (2 ^ P.toNat)) else 0
def storedL (W P v : Int) (l : Bool) : Bool := inB v (-1125899906842624) 1125899906842624 && fmtB W P && (cutF W P (rdiv v (2 ^ P.toNat)) == rdiv v (2 ^ P.toNat)) && !l
theorem implCutStored_ok (W P n : Int) (h0 : 1 ≤ W) (h1 : W ≤ 12) (h2 : 0 ≤ P) (h3 : P ≤ 16) (w : World) :
    Calls Try.prog 52 #[.agg #[.int .i64 W, .int .i64 P], .int .i64 n] w fun e w' => e = .returned (.tuple #[.int .i64 (cutF W P n), .bool (cutF W P n == n)]) ∧ Below w.heap.size w w' := by
  have h := (fmtB_iff W P).2 ⟨⟨h0, h1⟩, h2, h3⟩
  refine (implCutStored_any W P n w).mono ?_
  rintro e w1 ⟨rfl, hb⟩
  exact ⟨by rw [cutFv, if_pos h, cutFb, h, Bool.true_and], hb⟩
theorem implSumStored_ok (v : Int) (l : Bool) (W P : Int) (hv : inB v (-1125899906842624) 1125899906842624 = true) (v0 : -1125899906842624 ≤ v) (v1 : v ≤ 1125899906842624) (h : fmtB W P = true) (h0 : 1 ≤ W) (h1 : W ≤ 12) (h2 : 0 ≤ P) (h3 : P ≤ 16)
    (d0 : 1 ≤ (2 : Int) ^ P.toNat) (d1 : (2 : Int) ^ P.toNat ≤ 65536) (b : Bool) (hx : (cutF W P (rdiv v (2 ^ P.toNat)) == rdiv v (2 ^ P.toNat)) = b) (w : World) :
    Calls Try.prog 31 #[.agg #[.int .i64 v, .bool l], .agg #[.int .i64 W, .int .i64 P]] w fun e w' => e = .returned (.tuple #[.int .i64 (cutF W P (rdiv v (2 ^ P.toNat))), .bool (b && !l)]) ∧ Below w.heap.size w w' := by
  cases b
  · go_enter Try.func31, Try.ntmps31
    go_wp2_with (first
      | (go_at_call 19; refine (implSumValid_any _ _ _).mono ?_; rintro e w1 ⟨rfl, hb⟩; (first | (have hq := bcomp hc hf hz hb; clear hc hf hz; obtain ⟨hc, hf, hz⟩ := hq) | (obtain ⟨hc, hf⟩ := bcell hb; have hz := bsize hb)))
      | (go_at_call 51; refine (implFormatValid_any _ _ _).mono ?_; rintro e w1 ⟨rfl, hb⟩; (first | (have hq := bcomp hc hf hz hb; clear hc hf hz; obtain ⟨hc, hf, hz⟩ := hq) | (obtain ⟨hc, hf⟩ := bcell hb; have hz := bsize hb))))
    have z0 : w.heap.size < w1.heap.size := by apply hz; simp <;> omega
    have z1 : w.heap.size + 1 < w1.heap.size := by apply hz; simp <;> omega
    have s1 : w1.cell? ⟨w.heap.size, 0, none⟩ = some (.int .i64 v) := by rw [hc _ _ (by simp <;> omega)]; go_simp
    have s2 : w1.cell? ⟨w.heap.size, 1, none⟩ = some (.bool l) := by rw [hc _ _ (by simp <;> omega)]; go_simp
    have s3 : w1.cell? ⟨w.heap.size + 1, 0, none⟩ = some (.int .i64 W) := by rw [hc _ _ (by simp <;> omega)]; go_simp
    have s4 : w1.cell? ⟨w.heap.size + 1, 1, none⟩ = some (.int .i64 P) := by rw [hc _ _ (by simp <;> omega)]; go_simp
    clear hc hf hz
    refine wp_region_below (by kernel_rfl) (fun wD hHeld => ?_)
    refine wpAnyH_take (i := 0) (v := ?_) (by (simp only [List.getElem?_toArray, List.getElem?_cons_zero]; rfl)) (by kernel_rfl) (by kernel_rfl) (by kernel_rfl) (by exact fun _ _ _ h => h) (Or.inl ⟨by rfl, ?_⟩) (by assumption) ?_
    rotate_left
    · (intro wS hS; have hSc := (bcell hS).1; clear hS; go_simp; try with_reducible rfl)
    try simp only [Act.put, List.setIfInBounds_toArray, List.set_cons_zero, List.set_cons_succ]
    refine wpAnyH_take (i := 1) (v := ?_) (by (simp only [List.getElem?_toArray, List.getElem?_cons_succ, List.getElem?_cons_zero]; rfl)) (by kernel_rfl) (by kernel_rfl) (by kernel_rfl) (by exact fun _ _ _ h => h) (Or.inl ⟨by rfl, ?_⟩) (by assumption) ?_
    rotate_left
    · (intro wS hS; clear hS; go_simp; try with_reducible rfl)
    try simp only [Act.put, List.setIfInBounds_toArray, List.set_cons_zero, List.set_cons_succ]
    refine wpAnyH_take (i := 2) (v := ?_) (by (simp only [List.getElem?_toArray, List.getElem?_cons_succ, List.getElem?_cons_zero]; rfl)) (by kernel_rfl) (by kernel_rfl) (by kernel_rfl) (by exact fun _ _ _ h => h) (Or.inl ⟨by rfl, ?_⟩) (by assumption) ?_
    rotate_left
    · (intro wS hS; have hSc := (bcell hS).1; clear hS; go_simp; try with_reducible rfl)
    try simp only [Act.put, List.setIfInBounds_toArray, List.set_cons_zero, List.set_cons_succ]
    refine wpAnyH_take (i := 3) (v := ?_) (by (simp only [List.getElem?_toArray, List.getElem?_cons_succ, List.getElem?_cons_zero]; rfl)) (by kernel_rfl) (by kernel_rfl) (by kernel_rfl) (by exact fun _ _ _ h => h) (Or.inl ⟨by rfl, ?_⟩) (by assumption) ?_
    rotate_left
    · (intro wS hS; clear hS; go_simp; try with_reducible rfl)
    try simp only [Act.put, List.setIfInBounds_toArray, List.set_cons_zero, List.set_cons_succ]
    refine wpAnyH_take (i := 4) (v := ?_) (by (simp only [List.getElem?_toArray, List.getElem?_cons_succ, List.getElem?_cons_zero]; rfl)) (by kernel_rfl) (by kernel_rfl) (by kernel_rfl) (by exact fun _ _ _ h => h) (Or.inl ⟨by rfl, ?_⟩) (by assumption) ?_
    rotate_left
    · (intro wS hS; have hSc := (bcell hS).1; clear hS; go_simp; try with_reducible rfl)
    try simp only [Act.put, List.setIfInBounds_toArray, List.set_cons_zero, List.set_cons_succ]
    refine wpAnyH_ready (rs := [5]) (by kernel_rfl) (by simp) ?_
    refine AllReadyH.cons (by (simp only [List.getElem?_toArray, List.getElem?_cons_succ, List.getElem?_cons_zero]; rfl)) (fun K hK => ?_) AllReadyH.nil
    go_simp
    (first | (go_at_call 53; refine (implRoundShift_ok _ _ (by omega) (by omega) (by omega) (by omega) _).mono ?_; rintro e w' ⟨rfl, rfl⟩) | (go_at_call 52; refine (implCutStored_ok W P _ h0 h1 h2 h3 _).mono ?_; rintro e w3 ⟨rfl, hb⟩))
    (try go_wp2_with fail)
    refine hK.out _ _ (by repeat (first | exact bw_refl _ | assumption | apply bw_alloc | apply bw_drew | apply bw_drewN | (refine bw_trans ?_ (by assumption)) | (refine bw_set ?_ (by simp only [go_sem]; omega) _))) (fun hHeld => ?_)
    clear hK K
    try simp only [Act.put, List.setIfInBounds_toArray, List.set_cons_zero, List.set_cons_succ]
    refine wpAnyH_ready (rs := [6]) (by kernel_rfl) (by simp) ?_
    refine AllReadyH.cons (by (simp only [List.getElem?_toArray, List.getElem?_cons_succ, List.getElem?_cons_zero]; rfl)) (fun K hK => ?_) AllReadyH.nil
    go_simp
    (first | (go_at_call 53; refine (implRoundShift_ok _ _ (by omega) (by omega) (by omega) (by omega) _).mono ?_; rintro e w' ⟨rfl, rfl⟩) | (go_at_call 52; refine (implCutStored_ok W P _ h0 h1 h2 h3 _).mono ?_; rintro e w3 ⟨rfl, hb⟩))
    (try go_wp2_with fail)
    refine hK.out _ _ (by repeat (first | exact bw_refl _ | assumption | apply bw_alloc | apply bw_drew | apply bw_drewN | (refine bw_trans ?_ (by assumption)) | (refine bw_set ?_ (by simp only [go_sem]; omega) _))) (fun hHeld => ?_)
    clear hK K
    try simp only [Act.put, List.setIfInBounds_toArray, List.set_cons_zero, List.set_cons_succ]
    refine wpAnyH_take (i := 7) (v := ?_) (by (simp only [List.getElem?_toArray, List.getElem?_cons_succ, List.getElem?_cons_zero]; rfl)) (by kernel_rfl) (by kernel_rfl) (by kernel_rfl) (by exact fun _ _ _ h => h) (Or.inl ⟨by rfl, ?_⟩) (by assumption) ?_
    rotate_left
    · (intro wS hS; clear hS; go_simp; try with_reducible rfl)
    try simp only [Act.put, List.setIfInBounds_toArray, List.set_cons_zero, List.set_cons_succ]
    refine wpAnyH_take (i := 8) (v := ?_) (by (simp only [List.getElem?_toArray, List.getElem?_cons_succ, List.getElem?_cons_zero]; rfl)) (by kernel_rfl) (by kernel_rfl) (by kernel_rfl) (by exact fun _ _ _ h => h) (Or.inl ⟨by rfl, ?_⟩) (by assumption) ?_
    rotate_left
    · (intro wS hS; clear hS; go_simp; try with_reducible rfl)
    try simp only [Act.put, List.setIfInBounds_toArray, List.set_cons_zero, List.set_cons_succ]
    refine wpAnyH_take (i := 9) (v := ?_) (by (simp only [List.getElem?_toArray, List.getElem?_cons_succ, List.getElem?_cons_zero]; rfl)) (by kernel_rfl) (by kernel_rfl) (by kernel_rfl) (by exact fun _ _ _ h => h) (Or.inl ⟨by rfl, ?_⟩) (by assumption) ?_
    rotate_left
    · (intro wS hS; clear hS; go_simp; try with_reducible rfl)
    try simp only [Act.put, List.setIfInBounds_toArray, List.set_cons_zero, List.set_cons_succ]
    refine wpAnyH_take (i := 10) (v := ?_) (by (simp only [List.getElem?_toArray, List.getElem?_cons_succ, List.getElem?_cons_zero]; rfl)) (by kernel_rfl) (by kernel_rfl) (by kernel_rfl) (by exact fun _ _ _ h => h) (Or.inl ⟨by rfl, ?_⟩) (by assumption) ?_
    rotate_left
    · (intro wS hS; clear hS; go_simp; try with_reducible rfl)
    try simp only [Act.put, List.setIfInBounds_toArray, List.set_cons_zero, List.set_cons_succ]
    refine wpAnyH_take (i := 11) (v := ?_) (by (simp only [List.getElem?_toArray, List.getElem?_cons_succ, List.getElem?_cons_zero]; rfl)) (by kernel_rfl) (by kernel_rfl) (by kernel_rfl) (by exact fun _ _ _ h => h) (Or.inl ⟨by rfl, ?_⟩) (by assumption) ?_
    rotate_left
    · (intro wS hS; clear hS; go_simp; try with_reducible rfl)
    try simp only [Act.put, List.setIfInBounds_toArray, List.set_cons_zero, List.set_cons_succ]
    refine wpAnyH_done (by kernel_rfl) ?_ _
    have t2 : w3.cell? ⟨w.heap.size, 1, none⟩ = some (.bool l) := cell_keep hHeld s2
    have y0 : w.heap.size < w3.heap.size := lt_keep hHeld z0
    have HH := Lib.hid hHeld
    clear hHeld s1 s2 s3 s4
    go_wp2
    refine wp_region_below (by kernel_rfl) (fun wD hHeld => ?_)
    refine wpAnyH_take (i := 0) (v := ?_) (by (simp only [List.getElem?_toArray, List.getElem?_cons_zero]; rfl)) (by kernel_rfl) (by kernel_rfl) (by kernel_rfl) (by exact fun _ _ _ h => h) (Or.inl ⟨by rfl, ?_⟩) (by assumption) ?_
    rotate_left
    · (intro wS hS; clear hS; go_simp; try with_reducible rfl)
    try simp only [Act.put, List.setIfInBounds_toArray, List.set_cons_zero, List.set_cons_succ]
    refine wpAnyH_take (i := 1) (v := ?_) (by (simp only [List.getElem?_toArray, List.getElem?_cons_succ, List.getElem?_cons_zero]; rfl)) (by kernel_rfl) (by kernel_rfl) (by kernel_rfl) (by exact fun _ _ _ h => h) (Or.inl ⟨by rfl, ?_⟩) (by assumption) ?_
    rotate_left
    · (intro wS hS; clear hS; go_simp; try with_reducible rfl)
    try simp only [Act.put, List.setIfInBounds_toArray, List.set_cons_zero, List.set_cons_succ]
    refine wpAnyH_take (i := 2) (v := ?_) (by (simp only [List.getElem?_toArray, List.getElem?_cons_succ, List.getElem?_cons_zero]; rfl)) (by kernel_rfl) (by kernel_rfl) (by kernel_rfl) (by exact fun _ _ _ h => h) (Or.inl ⟨by rfl, ?_⟩) (by assumption) ?_
    rotate_left
    · (intro wS hS; clear hS; go_simp; try with_reducible rfl)
    try simp only [Act.put, List.setIfInBounds_toArray, List.set_cons_zero, List.set_cons_succ]
    refine wpAnyH_take (i := 3) (v := undef) (by (simp only [List.getElem?_toArray, List.getElem?_cons_succ, List.getElem?_cons_zero]; rfl)) (by kernel_rfl) (by kernel_rfl) (by kernel_rfl) (by exact fun _ _ _ h => h) (Or.inr ⟨by rfl, rfl⟩) (by assumption) ?_
    try simp only [Act.put, List.setIfInBounds_toArray, List.set_cons_zero, List.set_cons_succ]
    refine wpAnyH_take (i := 4) (v := undef) (by (simp only [List.getElem?_toArray, List.getElem?_cons_succ, List.getElem?_cons_zero]; rfl)) (by kernel_rfl) (by kernel_rfl) (by kernel_rfl) (by exact fun _ _ _ h => h) (Or.inr ⟨by rfl, rfl⟩) (by assumption) ?_
    try simp only [Act.put, List.setIfInBounds_toArray, List.set_cons_zero, List.set_cons_succ]
    refine wpAnyH_take (i := 5) (v := undef) (by (simp only [List.getElem?_toArray, List.getElem?_cons_succ, List.getElem?_cons_zero]; rfl)) (by kernel_rfl) (by kernel_rfl) (by kernel_rfl) (by exact fun _ _ _ h => h) (Or.inr ⟨by rfl, rfl⟩) (by assumption) ?_
    try simp only [Act.put, List.setIfInBounds_toArray, List.set_cons_zero, List.set_cons_succ]
    refine wpAnyH_take (i := 6) (v := ?_) (by (simp only [List.getElem?_toArray, List.getElem?_cons_succ, List.getElem?_cons_zero]; rfl)) (by kernel_rfl) (by kernel_rfl) (by kernel_rfl) (by exact fun _ _ _ h => h) (Or.inl ⟨by rfl, ?_⟩) (by assumption) ?_
    rotate_left
    · (intro wS hS; clear hS; go_simp; try with_reducible rfl)
    try simp only [Act.put, List.setIfInBounds_toArray, List.set_cons_zero, List.set_cons_succ]
    refine wpAnyH_take (i := 7) (v := ?_) (by (simp only [List.getElem?_toArray, List.getElem?_cons_succ, List.getElem?_cons_zero]; rfl)) (by kernel_rfl) (by kernel_rfl) (by kernel_rfl) (by exact fun _ _ _ h => h) (Or.inl ⟨by rfl, ?_⟩) (by assumption) ?_
    rotate_left
    · (intro wS hS; clear hS; go_simp; try with_reducible rfl)
    try simp only [Act.put, List.setIfInBounds_toArray, List.set_cons_zero, List.set_cons_succ]
    refine wpAnyH_take (i := 8) (v := ?_) (by (simp only [List.getElem?_toArray, List.getElem?_cons_succ, List.getElem?_cons_zero]; rfl)) (by kernel_rfl) (by kernel_rfl) (by kernel_rfl) (by exact fun _ _ _ h => h) (Or.inl ⟨by rfl, ?_⟩) (by assumption) ?_
    rotate_left
    · (intro wS hS; clear hS; go_simp; try with_reducible rfl)
    try simp only [Act.put, List.setIfInBounds_toArray, List.set_cons_zero, List.set_cons_succ]
    refine wpAnyH_done (by kernel_rfl) ?_ _
    go_wp2
    go_ret2
    have hHeld2 := HH.out
    exact ⟨by simp, (by repeat (first | exact bw_refl _ | assumption | apply bw_alloc | apply bw_drew | apply bw_drewN | (refine bw_trans ?_ (by assumption)) | (refine bw_set ?_ (by simp only [go_sem]; omega) _)))⟩
  · go_enter Try.func31, Try.ntmps31
    go_wp2_with (first
      | (go_at_call 19; refine (implSumValid_any _ _ _).mono ?_; rintro e w1 ⟨rfl, hb⟩; (first | (have hq := bcomp hc hf hz hb; clear hc hf hz; obtain ⟨hc, hf, hz⟩ := hq) | (obtain ⟨hc, hf⟩ := bcell hb; have hz := bsize hb)))
      | (go_at_call 51; refine (implFormatValid_any _ _ _).mono ?_; rintro e w1 ⟨rfl, hb⟩; (first | (have hq := bcomp hc hf hz hb; clear hc hf hz; obtain ⟨hc, hf, hz⟩ := hq) | (obtain ⟨hc, hf⟩ := bcell hb; have hz := bsize hb))))
    have z0 : w.heap.size < w1.heap.size := by apply hz; simp <;> omega
    have z1 : w.heap.size + 1 < w1.heap.size := by apply hz; simp <;> omega
    have s1 : w1.cell? ⟨w.heap.size, 0, none⟩ = some (.int .i64 v) := by rw [hc _ _ (by simp <;> omega)]; go_simp
    have s2 : w1.cell? ⟨w.heap.size, 1, none⟩ = some (.bool l) := by rw [hc _ _ (by simp <;> omega)]; go_simp
    have s3 : w1.cell? ⟨w.heap.size + 1, 0, none⟩ = some (.int .i64 W) := by rw [hc _ _ (by simp <;> omega)]; go_simp
    have s4 : w1.cell? ⟨w.heap.size + 1, 1, none⟩ = some (.int .i64 P) := by rw [hc _ _ (by simp <;> omega)]; go_simp
    clear hc hf hz
    refine wp_region_below (by kernel_rfl) (fun wD hHeld => ?_)
    refine wpAnyH_take (i := 0) (v := ?_) (by (simp only [List.getElem?_toArray, List.getElem?_cons_zero]; rfl)) (by kernel_rfl) (by kernel_rfl) (by kernel_rfl) (by exact fun _ _ _ h => h) (Or.inl ⟨by rfl, ?_⟩) (by assumption) ?_
    rotate_left
    · (intro wS hS; have hSc := (bcell hS).1; clear hS; go_simp; try with_reducible rfl)
    try simp only [Act.put, List.setIfInBounds_toArray, List.set_cons_zero, List.set_cons_succ]
    refine wpAnyH_take (i := 1) (v := ?_) (by (simp only [List.getElem?_toArray, List.getElem?_cons_succ, List.getElem?_cons_zero]; rfl)) (by kernel_rfl) (by kernel_rfl) (by kernel_rfl) (by exact fun _ _ _ h => h) (Or.inl ⟨by rfl, ?_⟩) (by assumption) ?_
    rotate_left
    · (intro wS hS; clear hS; go_simp; try with_reducible rfl)
    try simp only [Act.put, List.setIfInBounds_toArray, List.set_cons_zero, List.set_cons_succ]
    refine wpAnyH_take (i := 2) (v := ?_) (by (simp only [List.getElem?_toArray, List.getElem?_cons_succ, List.getElem?_cons_zero]; rfl)) (by kernel_rfl) (by kernel_rfl) (by kernel_rfl) (by exact fun _ _ _ h => h) (Or.inl ⟨by rfl, ?_⟩) (by assumption) ?_
    rotate_left
    · (intro wS hS; have hSc := (bcell hS).1; clear hS; go_simp; try with_reducible rfl)
    try simp only [Act.put, List.setIfInBounds_toArray, List.set_cons_zero, List.set_cons_succ]
    refine wpAnyH_take (i := 3) (v := ?_) (by (simp only [List.getElem?_toArray, List.getElem?_cons_succ, List.getElem?_cons_zero]; rfl)) (by kernel_rfl) (by kernel_rfl) (by kernel_rfl) (by exact fun _ _ _ h => h) (Or.inl ⟨by rfl, ?_⟩) (by assumption) ?_
    rotate_left
    · (intro wS hS; clear hS; go_simp; try with_reducible rfl)
    try simp only [Act.put, List.setIfInBounds_toArray, List.set_cons_zero, List.set_cons_succ]
    refine wpAnyH_take (i := 4) (v := ?_) (by (simp only [List.getElem?_toArray, List.getElem?_cons_succ, List.getElem?_cons_zero]; rfl)) (by kernel_rfl) (by kernel_rfl) (by kernel_rfl) (by exact fun _ _ _ h => h) (Or.inl ⟨by rfl, ?_⟩) (by assumption) ?_
    rotate_left
    · (intro wS hS; have hSc := (bcell hS).1; clear hS; go_simp; try with_reducible rfl)
    try simp only [Act.put, List.setIfInBounds_toArray, List.set_cons_zero, List.set_cons_succ]
    refine wpAnyH_ready (rs := [5]) (by kernel_rfl) (by simp) ?_
    refine AllReadyH.cons (by (simp only [List.getElem?_toArray, List.getElem?_cons_succ, List.getElem?_cons_zero]; rfl)) (fun K hK => ?_) AllReadyH.nil
    go_simp
    (first | (go_at_call 53; refine (implRoundShift_ok _ _ (by omega) (by omega) (by omega) (by omega) _).mono ?_; rintro e w' ⟨rfl, rfl⟩) | (go_at_call 52; refine (implCutStored_ok W P _ h0 h1 h2 h3 _).mono ?_; rintro e w3 ⟨rfl, hb⟩))
    (try go_wp2_with fail)
    refine hK.out _ _ (by repeat (first | exact bw_refl _ | assumption | apply bw_alloc | apply bw_drew | apply bw_drewN | (refine bw_trans ?_ (by assumption)) | (refine bw_set ?_ (by simp only [go_sem]; omega) _))) (fun hHeld => ?_)
    clear hK K
    try simp only [Act.put, List.setIfInBounds_toArray, List.set_cons_zero, List.set_cons_succ]
    refine wpAnyH_ready (rs := [6]) (by kernel_rfl) (by simp) ?_
    refine AllReadyH.cons (by (simp only [List.getElem?_toArray, List.getElem?_cons_succ, List.getElem?_cons_zero]; rfl)) (fun K hK => ?_) AllReadyH.nil
    go_simp
    (first | (go_at_call 53; refine (implRoundShift_ok _ _ (by omega) (by omega) (by omega) (by omega) _).mono ?_; rintro e w' ⟨rfl, rfl⟩) | (go_at_call 52; refine (implCutStored_ok W P _ h0 h1 h2 h3 _).mono ?_; rintro e w3 ⟨rfl, hb⟩))
    (try go_wp2_with fail)
    refine hK.out _ _ (by repeat (first | exact bw_refl _ | assumption | apply bw_alloc | apply bw_drew | apply bw_drewN | (refine bw_trans ?_ (by assumption)) | (refine bw_set ?_ (by simp only [go_sem]; omega) _))) (fun hHeld => ?_)
    clear hK K
    try simp only [Act.put, List.setIfInBounds_toArray, List.set_cons_zero, List.set_cons_succ]
    refine wpAnyH_take (i := 7) (v := ?_) (by (simp only [List.getElem?_toArray, List.getElem?_cons_succ, List.getElem?_cons_zero]; rfl)) (by kernel_rfl) (by kernel_rfl) (by kernel_rfl) (by exact fun _ _ _ h => h) (Or.inl ⟨by rfl, ?_⟩) (by assumption) ?_
    rotate_left
    · (intro wS hS; clear hS; go_simp; try with_reducible rfl)
    try simp only [Act.put, List.setIfInBounds_toArray, List.set_cons_zero, List.set_cons_succ]
    refine wpAnyH_take (i := 8) (v := ?_) (by (simp only [List.getElem?_toArray, List.getElem?_cons_succ, List.getElem?_cons_zero]; rfl)) (by kernel_rfl) (by kernel_rfl) (by kernel_rfl) (by exact fun _ _ _ h => h) (Or.inl ⟨by rfl, ?_⟩) (by assumption) ?_
    rotate_left
    · (intro wS hS; clear hS; go_simp; try with_reducible rfl)
    try simp only [Act.put, List.setIfInBounds_toArray, List.set_cons_zero, List.set_cons_succ]
    refine wpAnyH_take (i := 9) (v := ?_) (by (simp only [List.getElem?_toArray, List.getElem?_cons_succ, List.getElem?_cons_zero]; rfl)) (by kernel_rfl) (by kernel_rfl) (by kernel_rfl) (by exact fun _ _ _ h => h) (Or.inl ⟨by rfl, ?_⟩) (by assumption) ?_
    rotate_left
    · (intro wS hS; clear hS; go_simp; try with_reducible rfl)
    try simp only [Act.put, List.setIfInBounds_toArray, List.set_cons_zero, List.set_cons_succ]
    refine wpAnyH_take (i := 10) (v := ?_) (by (simp only [List.getElem?_toArray, List.getElem?_cons_succ, List.getElem?_cons_zero]; rfl)) (by kernel_rfl) (by kernel_rfl) (by kernel_rfl) (by exact fun _ _ _ h => h) (Or.inl ⟨by rfl, ?_⟩) (by assumption) ?_
    rotate_left
    · (intro wS hS; clear hS; go_simp; try with_reducible rfl)
    try simp only [Act.put, List.setIfInBounds_toArray, List.set_cons_zero, List.set_cons_succ]
    refine wpAnyH_take (i := 11) (v := ?_) (by (simp only [List.getElem?_toArray, List.getElem?_cons_succ, List.getElem?_cons_zero]; rfl)) (by kernel_rfl) (by kernel_rfl) (by kernel_rfl) (by exact fun _ _ _ h => h) (Or.inl ⟨by rfl, ?_⟩) (by assumption) ?_
    rotate_left
    · (intro wS hS; clear hS; go_simp; try with_reducible rfl)
    try simp only [Act.put, List.setIfInBounds_toArray, List.set_cons_zero, List.set_cons_succ]
    refine wpAnyH_done (by kernel_rfl) ?_ _
    have t2 : w3.cell? ⟨w.heap.size, 1, none⟩ = some (.bool l) := cell_keep hHeld s2
    have y0 : w.heap.size < w3.heap.size := lt_keep hHeld z0
    have HH := Lib.hid hHeld
    clear hHeld s1 s2 s3 s4
    go_wp2
    refine wp_region_below (by kernel_rfl) (fun wD hHeld => ?_)
    refine wpAnyH_take (i := 0) (v := ?_) (by (simp only [List.getElem?_toArray, List.getElem?_cons_zero]; rfl)) (by kernel_rfl) (by kernel_rfl) (by kernel_rfl) (by exact fun _ _ _ h => h) (Or.inl ⟨by rfl, ?_⟩) (by assumption) ?_
    rotate_left
    · (intro wS hS; clear hS; go_simp; try with_reducible rfl)
    try simp only [Act.put, List.setIfInBounds_toArray, List.set_cons_zero, List.set_cons_succ]
    refine wpAnyH_take (i := 1) (v := ?_) (by (simp only [List.getElem?_toArray, List.getElem?_cons_succ, List.getElem?_cons_zero]; rfl)) (by kernel_rfl) (by kernel_rfl) (by kernel_rfl) (by exact fun _ _ _ h => h) (Or.inl ⟨by rfl, ?_⟩) (by assumption) ?_
    rotate_left
    · (intro wS hS; clear hS; go_simp; try with_reducible rfl)
    try simp only [Act.put, List.setIfInBounds_toArray, List.set_cons_zero, List.set_cons_succ]
    refine wpAnyH_take (i := 2) (v := ?_) (by (simp only [List.getElem?_toArray, List.getElem?_cons_succ, List.getElem?_cons_zero]; rfl)) (by kernel_rfl) (by kernel_rfl) (by kernel_rfl) (by exact fun _ _ _ h => h) (Or.inl ⟨by rfl, ?_⟩) (by assumption) ?_
    rotate_left
    · (intro wS hS; clear hS; go_simp; try with_reducible rfl)
    try simp only [Act.put, List.setIfInBounds_toArray, List.set_cons_zero, List.set_cons_succ]
    refine wpAnyH_take (i := 3) (v := ?_) (by (simp only [List.getElem?_toArray, List.getElem?_cons_succ, List.getElem?_cons_zero]; rfl)) (by kernel_rfl) (by kernel_rfl) (by kernel_rfl) (by exact fun _ _ _ h => h) (Or.inl ⟨by rfl, ?_⟩) (by assumption) ?_
    rotate_left
    · (intro wS hS; clear hS; go_simp; try with_reducible rfl)
    try simp only [Act.put, List.setIfInBounds_toArray, List.set_cons_zero, List.set_cons_succ]
    refine wpAnyH_take (i := 4) (v := ?_) (by (simp only [List.getElem?_toArray, List.getElem?_cons_succ, List.getElem?_cons_zero]; rfl)) (by kernel_rfl) (by kernel_rfl) (by kernel_rfl) (by exact fun _ _ _ h => h) (Or.inl ⟨by rfl, ?_⟩) (by assumption) ?_
    rotate_left
    · (intro wS hS; have hSc := (bcell hS).1; clear hS; go_simp; try with_reducible rfl)
    try simp only [Act.put, List.setIfInBounds_toArray, List.set_cons_zero, List.set_cons_succ]
    refine wpAnyH_take (i := 5) (v := ?_) (by (simp only [List.getElem?_toArray, List.getElem?_cons_succ, List.getElem?_cons_zero]; rfl)) (by kernel_rfl) (by kernel_rfl) (by kernel_rfl) (by exact fun _ _ _ h => h) (Or.inl ⟨by rfl, ?_⟩) (by assumption) ?_
    rotate_left
    · (intro wS hS; clear hS; go_simp; try with_reducible rfl)
    try simp only [Act.put, List.setIfInBounds_toArray, List.set_cons_zero, List.set_cons_succ]
    refine wpAnyH_take (i := 6) (v := ?_) (by (simp only [List.getElem?_toArray, List.getElem?_cons_succ, List.getElem?_cons_zero]; rfl)) (by kernel_rfl) (by kernel_rfl) (by kernel_rfl) (by exact fun _ _ _ h => h) (Or.inl ⟨by rfl, ?_⟩) (by assumption) ?_
    rotate_left
    · (intro wS hS; clear hS; go_simp; try with_reducible rfl)
    try simp only [Act.put, List.setIfInBounds_toArray, List.set_cons_zero, List.set_cons_succ]
    refine wpAnyH_take (i := 7) (v := ?_) (by (simp only [List.getElem?_toArray, List.getElem?_cons_succ, List.getElem?_cons_zero]; rfl)) (by kernel_rfl) (by kernel_rfl) (by kernel_rfl) (by exact fun _ _ _ h => h) (Or.inl ⟨by rfl, ?_⟩) (by assumption) ?_
    rotate_left
    · (intro wS hS; clear hS; go_simp; try with_reducible rfl)
    try simp only [Act.put, List.setIfInBounds_toArray, List.set_cons_zero, List.set_cons_succ]
    refine wpAnyH_take (i := 8) (v := ?_) (by (simp only [List.getElem?_toArray, List.getElem?_cons_succ, List.getElem?_cons_zero]; rfl)) (by kernel_rfl) (by kernel_rfl) (by kernel_rfl) (by exact fun _ _ _ h => h) (Or.inl ⟨by rfl, ?_⟩) (by assumption) ?_
    rotate_left
    · (intro wS hS; clear hS; go_simp; try with_reducible rfl)
    try simp only [Act.put, List.setIfInBounds_toArray, List.set_cons_zero, List.set_cons_succ]
    refine wpAnyH_done (by kernel_rfl) ?_ _
    go_wp2
    go_ret2
    have hHeld2 := HH.out
    exact ⟨by simp, (by repeat (first | exact bw_refl _ | assumption | apply bw_alloc | apply bw_drew | apply bw_drewN | (refine bw_trans ?_ (by assumption)) | (refine bw_set ?_ (by simp only [go_sem]; omega) _)))⟩
theorem specSumStored_ok (v : Int) (l : Bool) (W P : Int) (hv : inB v (-1125899906842624) 1125899906842624 = true) (v0 : -1125899906842624 ≤ v) (v1 : v ≤ 1125899906842624) (h : fmtB W P = true) (h0 : 1 ≤ W) (h1 : W ≤ 12) (h2 : 0 ≤ P) (h3 : P ≤ 16)
    (d0 : 1 ≤ (2 : Int) ^ P.toNat) (d1 : (2 : Int) ^ P.toNat ≤ 65536) (b : Bool) (hx : (cutF W P (rdiv v (2 ^ P.toNat)) == rdiv v (2 ^ P.toNat)) = b) (w : World) :
    Calls Try.prog 30 #[.agg #[.int .i64 v, .bool l], .agg #[.int .i64 W, .int .i64 P]] w fun e w' => e = .returned (.tuple #[.int .i64 (cutF W P (rdiv v (2 ^ P.toNat))), .bool (b && !l)]) ∧ Below w.heap.size w w' := by
  have q1 : IntKind.i64.wrap (2 ^ P.toNat) = 2 ^ P.toNat := IntWalk.i64_in _ (by omega)
  cases b
  · go_enter Try.func30, Try.ntmps30
    go_wp2_with (first
      | (go_at_call 17; refine (specSumValid_any _ _ _).mono ?_; rintro e w1 ⟨rfl, hb⟩; (first | (have hq := bcomp hc hf hz hb; clear hc hf hz; obtain ⟨hc, hf, hz⟩ := hq) | (obtain ⟨hc, hf⟩ := bcell hb; have hz := bsize hb)))
      | (go_at_call 40; refine (specFormatValid_any _ _ _).mono ?_; rintro e w1 ⟨rfl, hb⟩; (first | (have hq := bcomp hc hf hz hb; clear hc hf hz; obtain ⟨hc, hf, hz⟩ := hq) | (obtain ⟨hc, hf⟩ := bcell hb; have hz := bsize hb))))
    have z0 : w.heap.size < w1.heap.size := by apply hz; simp <;> omega
    have z1 : w.heap.size + 1 < w1.heap.size := by apply hz; simp <;> omega
    have s1 : w1.cell? ⟨w.heap.size, 0, none⟩ = some (.int .i64 v) := by rw [hc _ _ (by simp <;> omega)]; go_simp
    have s2 : w1.cell? ⟨w.heap.size, 1, none⟩ = some (.bool l) := by rw [hc _ _ (by simp <;> omega)]; go_simp
    have s3 : w1.cell? ⟨w.heap.size + 1, 0, none⟩ = some (.int .i64 W) := by rw [hc _ _ (by simp <;> omega)]; go_simp
    have s4 : w1.cell? ⟨w.heap.size + 1, 1, none⟩ = some (.int .i64 P) := by rw [hc _ _ (by simp <;> omega)]; go_simp
    clear hc hf hz
    refine wp_region_below (by kernel_rfl) (fun wD hHeld => ?_)
    refine wpAnyH_take (i := 0) (v := ?_) (by (simp only [List.getElem?_toArray, List.getElem?_cons_zero]; rfl)) (by kernel_rfl) (by kernel_rfl) (by kernel_rfl) (by exact fun _ _ _ h => h) (Or.inl ⟨by rfl, ?_⟩) (by assumption) ?_
    rotate_left
    · (intro wS hS; have hSc := (bcell hS).1; clear hS; go_simp; try with_reducible rfl)
    try simp only [Act.put, List.setIfInBounds_toArray, List.set_cons_zero, List.set_cons_succ]
    refine wpAnyH_take (i := 1) (v := ?_) (by (simp only [List.getElem?_toArray, List.getElem?_cons_succ, List.getElem?_cons_zero]; rfl)) (by kernel_rfl) (by kernel_rfl) (by kernel_rfl) (by exact fun _ _ _ h => h) (Or.inl ⟨by rfl, ?_⟩) (by assumption) ?_
    rotate_left
    · (intro wS hS; clear hS; go_simp; try with_reducible rfl)
    try simp only [Act.put, List.setIfInBounds_toArray, List.set_cons_zero, List.set_cons_succ]
    refine wpAnyH_take (i := 2) (v := ?_) (by (simp only [List.getElem?_toArray, List.getElem?_cons_succ, List.getElem?_cons_zero]; rfl)) (by kernel_rfl) (by kernel_rfl) (by kernel_rfl) (by exact fun _ _ _ h => h) (Or.inl ⟨by rfl, ?_⟩) (by assumption) ?_
    rotate_left
    · (intro wS hS; have hSc := (bcell hS).1; clear hS; go_simp; try with_reducible rfl)
    try simp only [Act.put, List.setIfInBounds_toArray, List.set_cons_zero, List.set_cons_succ]
    refine wpAnyH_take (i := 3) (v := ?_) (by (simp only [List.getElem?_toArray, List.getElem?_cons_succ, List.getElem?_cons_zero]; rfl)) (by kernel_rfl) (by kernel_rfl) (by kernel_rfl) (by exact fun _ _ _ h => h) (Or.inl ⟨by rfl, ?_⟩) (by assumption) ?_
    rotate_left
    · (intro wS hS; clear hS; go_simp; try with_reducible rfl)
    try simp only [Act.put, List.setIfInBounds_toArray, List.set_cons_zero, List.set_cons_succ]
    refine wpAnyH_take (i := 4) (v := ?_) (by (simp only [List.getElem?_toArray, List.getElem?_cons_succ, List.getElem?_cons_zero]; rfl)) (by kernel_rfl) (by kernel_rfl) (by kernel_rfl) (by exact fun _ _ _ h => h) (Or.inl ⟨by rfl, ?_⟩) (by assumption) ?_
    rotate_left
    · (intro wS hS; have hSc := (bcell hS).1; clear hS; go_simp; try with_reducible rfl)
    try simp only [Act.put, List.setIfInBounds_toArray, List.set_cons_zero, List.set_cons_succ]
    refine wpAnyH_take (i := 5) (v := ?_) (by (simp only [List.getElem?_toArray, List.getElem?_cons_succ, List.getElem?_cons_zero]; rfl)) (by kernel_rfl) (by kernel_rfl) (by kernel_rfl) (by exact fun _ _ _ h => h) (Or.inl ⟨by rfl, ?_⟩) (by assumption) ?_
    rotate_left
    · (intro wS hS; clear hS; go_simp; try with_reducible rfl)
    try simp only [Act.put, List.setIfInBounds_toArray, List.set_cons_zero, List.set_cons_succ]
    refine wpAnyH_ready (rs := [6]) (by kernel_rfl) (by simp) ?_
    refine AllReadyH.cons (by (simp only [List.getElem?_toArray, List.getElem?_cons_succ, List.getElem?_cons_zero]; rfl)) (fun K hK => ?_) AllReadyH.nil
    go_simp
    (first | (go_at_call 50; refine (l1Round_any _ _ (by omega) (by omega) (by omega) (by omega) _).mono ?_; rintro e w' ⟨rfl, rfl⟩) | (go_at_call 49; refine (l4Cut_ok W P _ h0 h1 h2 h3 _).mono ?_; rintro e w3 ⟨rfl, hb⟩))
    (try go_wp2_with fail)
    refine hK.out _ _ (by repeat (first | exact bw_refl _ | assumption | apply bw_alloc | apply bw_drew | apply bw_drewN | (refine bw_trans ?_ (by assumption)) | (refine bw_set ?_ (by simp only [go_sem]; omega) _))) (fun hHeld => ?_)
    clear hK K
    try simp only [Act.put, List.setIfInBounds_toArray, List.set_cons_zero, List.set_cons_succ]
    refine wpAnyH_ready (rs := [7]) (by kernel_rfl) (by simp) ?_
    refine AllReadyH.cons (by (simp only [List.getElem?_toArray, List.getElem?_cons_succ, List.getElem?_cons_zero]; rfl)) (fun K hK => ?_) AllReadyH.nil
    go_simp
    (first | (go_at_call 50; refine (l1Round_any _ _ (by omega) (by omega) (by omega) (by omega) _).mono ?_; rintro e w' ⟨rfl, rfl⟩) | (go_at_call 49; refine (l4Cut_ok W P _ h0 h1 h2 h3 _).mono ?_; rintro e w3 ⟨rfl, hb⟩))
    (try go_wp2_with fail)
    refine hK.out _ _ (by repeat (first | exact bw_refl _ | assumption | apply bw_alloc | apply bw_drew | apply bw_drewN | (refine bw_trans ?_ (by assumption)) | (refine bw_set ?_ (by simp only [go_sem]; omega) _))) (fun hHeld => ?_)
    clear hK K
    try simp only [Act.put, List.setIfInBounds_toArray, List.set_cons_zero, List.set_cons_succ]
    refine wpAnyH_take (i := 8) (v := ?_) (by (simp only [List.getElem?_toArray, List.getElem?_cons_succ, List.getElem?_cons_zero]; rfl)) (by kernel_rfl) (by kernel_rfl) (by kernel_rfl) (by exact fun _ _ _ h => h) (Or.inl ⟨by rfl, ?_⟩) (by assumption) ?_
    rotate_left
    · (intro wS hS; clear hS; go_simp; try with_reducible rfl)
    try simp only [Act.put, List.setIfInBounds_toArray, List.set_cons_zero, List.set_cons_succ]
    refine wpAnyH_take (i := 9) (v := ?_) (by (simp only [List.getElem?_toArray, List.getElem?_cons_succ, List.getElem?_cons_zero]; rfl)) (by kernel_rfl) (by kernel_rfl) (by kernel_rfl) (by exact fun _ _ _ h => h) (Or.inl ⟨by rfl, ?_⟩) (by assumption) ?_
    rotate_left
    · (intro wS hS; clear hS; go_simp; try with_reducible rfl)
    try simp only [Act.put, List.setIfInBounds_toArray, List.set_cons_zero, List.set_cons_succ]
    refine wpAnyH_take (i := 10) (v := ?_) (by (simp only [List.getElem?_toArray, List.getElem?_cons_succ, List.getElem?_cons_zero]; rfl)) (by kernel_rfl) (by kernel_rfl) (by kernel_rfl) (by exact fun _ _ _ h => h) (Or.inl ⟨by rfl, ?_⟩) (by assumption) ?_
    rotate_left
    · (intro wS hS; clear hS; go_simp; try with_reducible rfl)
    try simp only [Act.put, List.setIfInBounds_toArray, List.set_cons_zero, List.set_cons_succ]
    refine wpAnyH_take (i := 11) (v := ?_) (by (simp only [List.getElem?_toArray, List.getElem?_cons_succ, List.getElem?_cons_zero]; rfl)) (by kernel_rfl) (by kernel_rfl) (by kernel_rfl) (by exact fun _ _ _ h => h) (Or.inl ⟨by rfl, ?_⟩) (by assumption) ?_
    rotate_left
    · (intro wS hS; clear hS; go_simp; try with_reducible rfl)
    try simp only [Act.put, List.setIfInBounds_toArray, List.set_cons_zero, List.set_cons_succ]
    refine wpAnyH_take (i := 12) (v := ?_) (by (simp only [List.getElem?_toArray, List.getElem?_cons_succ, List.getElem?_cons_zero]; rfl)) (by kernel_rfl) (by kernel_rfl) (by kernel_rfl) (by exact fun _ _ _ h => h) (Or.inl ⟨by rfl, ?_⟩) (by assumption) ?_
    rotate_left
    · (intro wS hS; clear hS; go_simp; try with_reducible rfl)
    try simp only [Act.put, List.setIfInBounds_toArray, List.set_cons_zero, List.set_cons_succ]
    refine wpAnyH_done (by kernel_rfl) ?_ _
    have t2 : w3.cell? ⟨w.heap.size, 1, none⟩ = some (.bool l) := cell_keep hHeld s2
    have y0 : w.heap.size < w3.heap.size := lt_keep hHeld z0
    have HH := Lib.hid hHeld
    clear hHeld s1 s2 s3 s4
    go_wp2
    refine wp_region_below (by kernel_rfl) (fun wD hHeld => ?_)
    refine wpAnyH_take (i := 0) (v := ?_) (by (simp only [List.getElem?_toArray, List.getElem?_cons_zero]; rfl)) (by kernel_rfl) (by kernel_rfl) (by kernel_rfl) (by exact fun _ _ _ h => h) (Or.inl ⟨by rfl, ?_⟩) (by assumption) ?_
    rotate_left
    · (intro wS hS; clear hS; go_simp; try with_reducible rfl)
    try simp only [Act.put, List.setIfInBounds_toArray, List.set_cons_zero, List.set_cons_succ]
    refine wpAnyH_take (i := 1) (v := ?_) (by (simp only [List.getElem?_toArray, List.getElem?_cons_succ, List.getElem?_cons_zero]; rfl)) (by kernel_rfl) (by kernel_rfl) (by kernel_rfl) (by exact fun _ _ _ h => h) (Or.inl ⟨by rfl, ?_⟩) (by assumption) ?_
    rotate_left
    · (intro wS hS; clear hS; go_simp; try with_reducible rfl)
    try simp only [Act.put, List.setIfInBounds_toArray, List.set_cons_zero, List.set_cons_succ]
    refine wpAnyH_take (i := 2) (v := ?_) (by (simp only [List.getElem?_toArray, List.getElem?_cons_succ, List.getElem?_cons_zero]; rfl)) (by kernel_rfl) (by kernel_rfl) (by kernel_rfl) (by exact fun _ _ _ h => h) (Or.inl ⟨by rfl, ?_⟩) (by assumption) ?_
    rotate_left
    · (intro wS hS; clear hS; go_simp; try with_reducible rfl)
    try simp only [Act.put, List.setIfInBounds_toArray, List.set_cons_zero, List.set_cons_succ]
    refine wpAnyH_take (i := 3) (v := undef) (by (simp only [List.getElem?_toArray, List.getElem?_cons_succ, List.getElem?_cons_zero]; rfl)) (by kernel_rfl) (by kernel_rfl) (by kernel_rfl) (by exact fun _ _ _ h => h) (Or.inr ⟨by rfl, rfl⟩) (by assumption) ?_
    try simp only [Act.put, List.setIfInBounds_toArray, List.set_cons_zero, List.set_cons_succ]
    refine wpAnyH_take (i := 4) (v := undef) (by (simp only [List.getElem?_toArray, List.getElem?_cons_succ, List.getElem?_cons_zero]; rfl)) (by kernel_rfl) (by kernel_rfl) (by kernel_rfl) (by exact fun _ _ _ h => h) (Or.inr ⟨by rfl, rfl⟩) (by assumption) ?_
    try simp only [Act.put, List.setIfInBounds_toArray, List.set_cons_zero, List.set_cons_succ]
    refine wpAnyH_take (i := 5) (v := undef) (by (simp only [List.getElem?_toArray, List.getElem?_cons_succ, List.getElem?_cons_zero]; rfl)) (by kernel_rfl) (by kernel_rfl) (by kernel_rfl) (by exact fun _ _ _ h => h) (Or.inr ⟨by rfl, rfl⟩) (by assumption) ?_
    try simp only [Act.put, List.setIfInBounds_toArray, List.set_cons_zero, List.set_cons_succ]
    refine wpAnyH_take (i := 6) (v := ?_) (by (simp only [List.getElem?_toArray, List.getElem?_cons_succ, List.getElem?_cons_zero]; rfl)) (by kernel_rfl) (by kernel_rfl) (by kernel_rfl) (by exact fun _ _ _ h => h) (Or.inl ⟨by rfl, ?_⟩) (by assumption) ?_
    rotate_left
    · (intro wS hS; clear hS; go_simp; try with_reducible rfl)
    try simp only [Act.put, List.setIfInBounds_toArray, List.set_cons_zero, List.set_cons_succ]
    refine wpAnyH_take (i := 7) (v := ?_) (by (simp only [List.getElem?_toArray, List.getElem?_cons_succ, List.getElem?_cons_zero]; rfl)) (by kernel_rfl) (by kernel_rfl) (by kernel_rfl) (by exact fun _ _ _ h => h) (Or.inl ⟨by rfl, ?_⟩) (by assumption) ?_
    rotate_left
    · (intro wS hS; clear hS; go_simp; try with_reducible rfl)
    try simp only [Act.put, List.setIfInBounds_toArray, List.set_cons_zero, List.set_cons_succ]
    refine wpAnyH_take (i := 8) (v := ?_) (by (simp only [List.getElem?_toArray, List.getElem?_cons_succ, List.getElem?_cons_zero]; rfl)) (by kernel_rfl) (by kernel_rfl) (by kernel_rfl) (by exact fun _ _ _ h => h) (Or.inl ⟨by rfl, ?_⟩) (by assumption) ?_
    rotate_left
    · (intro wS hS; clear hS; go_simp; try with_reducible rfl)
    try simp only [Act.put, List.setIfInBounds_toArray, List.set_cons_zero, List.set_cons_succ]
    refine wpAnyH_done (by kernel_rfl) ?_ _
    go_wp2
    go_ret2
    have hHeld2 := HH.out
    exact ⟨by simp, (by repeat (first | exact bw_refl _ | assumption | apply bw_alloc | apply bw_drew | apply bw_drewN | (refine bw_trans ?_ (by assumption)) | (refine bw_set ?_ (by simp only [go_sem]; omega) _)))⟩
  · go_enter Try.func30, Try.ntmps30
    go_wp2_with (first
      | (go_at_call 17; refine (specSumValid_any _ _ _).mono ?_; rintro e w1 ⟨rfl, hb⟩; (first | (have hq := bcomp hc hf hz hb; clear hc hf hz; obtain ⟨hc, hf, hz⟩ := hq) | (obtain ⟨hc, hf⟩ := bcell hb; have hz := bsize hb)))
      | (go_at_call 40; refine (specFormatValid_any _ _ _).mono ?_; rintro e w1 ⟨rfl, hb⟩; (first | (have hq := bcomp hc hf hz hb; clear hc hf hz; obtain ⟨hc, hf, hz⟩ := hq) | (obtain ⟨hc, hf⟩ := bcell hb; have hz := bsize hb))))
    have z0 : w.heap.size < w1.heap.size := by apply hz; simp <;> omega
    have z1 : w.heap.size + 1 < w1.heap.size := by apply hz; simp <;> omega
    have s1 : w1.cell? ⟨w.heap.size, 0, none⟩ = some (.int .i64 v) := by rw [hc _ _ (by simp <;> omega)]; go_simp
    have s2 : w1.cell? ⟨w.heap.size, 1, none⟩ = some (.bool l) := by rw [hc _ _ (by simp <;> omega)]; go_simp
    have s3 : w1.cell? ⟨w.heap.size + 1, 0, none⟩ = some (.int .i64 W) := by rw [hc _ _ (by simp <;> omega)]; go_simp
    have s4 : w1.cell? ⟨w.heap.size + 1, 1, none⟩ = some (.int .i64 P) := by rw [hc _ _ (by simp <;> omega)]; go_simp
    clear hc hf hz
    refine wp_region_below (by kernel_rfl) (fun wD hHeld => ?_)
    refine wpAnyH_take (i := 0) (v := ?_) (by (simp only [List.getElem?_toArray, List.getElem?_cons_zero]; rfl)) (by kernel_rfl) (by kernel_rfl) (by kernel_rfl) (by exact fun _ _ _ h => h) (Or.inl ⟨by rfl, ?_⟩) (by assumption) ?_
    rotate_left
    · (intro wS hS; have hSc := (bcell hS).1; clear hS; go_simp; try with_reducible rfl)
    try simp only [Act.put, List.setIfInBounds_toArray, List.set_cons_zero, List.set_cons_succ]
    refine wpAnyH_take (i := 1) (v := ?_) (by (simp only [List.getElem?_toArray, List.getElem?_cons_succ, List.getElem?_cons_zero]; rfl)) (by kernel_rfl) (by kernel_rfl) (by kernel_rfl) (by exact fun _ _ _ h => h) (Or.inl ⟨by rfl, ?_⟩) (by assumption) ?_
    rotate_left
    · (intro wS hS; clear hS; go_simp; try with_reducible rfl)
    try simp only [Act.put, List.setIfInBounds_toArray, List.set_cons_zero, List.set_cons_succ]
    refine wpAnyH_take (i := 2) (v := ?_) (by (simp only [List.getElem?_toArray, List.getElem?_cons_succ, List.getElem?_cons_zero]; rfl)) (by kernel_rfl) (by kernel_rfl) (by kernel_rfl) (by exact fun _ _ _ h => h) (Or.inl ⟨by rfl, ?_⟩) (by assumption) ?_
    rotate_left
    · (intro wS hS; have hSc := (bcell hS).1; clear hS; go_simp; try with_reducible rfl)
    try simp only [Act.put, List.setIfInBounds_toArray, List.set_cons_zero, List.set_cons_succ]
    refine wpAnyH_take (i := 3) (v := ?_) (by (simp only [List.getElem?_toArray, List.getElem?_cons_succ, List.getElem?_cons_zero]; rfl)) (by kernel_rfl) (by kernel_rfl) (by kernel_rfl) (by exact fun _ _ _ h => h) (Or.inl ⟨by rfl, ?_⟩) (by assumption) ?_
    rotate_left
    · (intro wS hS; clear hS; go_simp; try with_reducible rfl)
    try simp only [Act.put, List.setIfInBounds_toArray, List.set_cons_zero, List.set_cons_succ]
    refine wpAnyH_take (i := 4) (v := ?_) (by (simp only [List.getElem?_toArray, List.getElem?_cons_succ, List.getElem?_cons_zero]; rfl)) (by kernel_rfl) (by kernel_rfl) (by kernel_rfl) (by exact fun _ _ _ h => h) (Or.inl ⟨by rfl, ?_⟩) (by assumption) ?_
    rotate_left
    · (intro wS hS; have hSc := (bcell hS).1; clear hS; go_simp; try with_reducible rfl)
    try simp only [Act.put, List.setIfInBounds_toArray, List.set_cons_zero, List.set_cons_succ]
    refine wpAnyH_take (i := 5) (v := ?_) (by (simp only [List.getElem?_toArray, List.getElem?_cons_succ, List.getElem?_cons_zero]; rfl)) (by kernel_rfl) (by kernel_rfl) (by kernel_rfl) (by exact fun _ _ _ h => h) (Or.inl ⟨by rfl, ?_⟩) (by assumption) ?_
    rotate_left
    · (intro wS hS; clear hS; go_simp; try with_reducible rfl)
    try simp only [Act.put, List.setIfInBounds_toArray, List.set_cons_zero, List.set_cons_succ]
    refine wpAnyH_ready (rs := [6]) (by kernel_rfl) (by simp) ?_
    refine AllReadyH.cons (by (simp only [List.getElem?_toArray, List.getElem?_cons_succ, List.getElem?_cons_zero]; rfl)) (fun K hK => ?_) AllReadyH.nil
    go_simp
    (first | (go_at_call 50; refine (l1Round_any _ _ (by omega) (by omega) (by omega) (by omega) _).mono ?_; rintro e w' ⟨rfl, rfl⟩) | (go_at_call 49; refine (l4Cut_ok W P _ h0 h1 h2 h3 _).mono ?_; rintro e w3 ⟨rfl, hb⟩))
    (try go_wp2_with fail)
    refine hK.out _ _ (by repeat (first | exact bw_refl _ | assumption | apply bw_alloc | apply bw_drew | apply bw_drewN | (refine bw_trans ?_ (by assumption)) | (refine bw_set ?_ (by simp only [go_sem]; omega) _))) (fun hHeld => ?_)
    clear hK K
    try simp only [Act.put, List.setIfInBounds_toArray, List.set_cons_zero, List.set_cons_succ]
    refine wpAnyH_ready (rs := [7]) (by kernel_rfl) (by simp) ?_
    refine AllReadyH.cons (by (simp only [List.getElem?_toArray, List.getElem?_cons_succ, List.getElem?_cons_zero]; rfl)) (fun K hK => ?_) AllReadyH.nil
    go_simp
    (first | (go_at_call 50; refine (l1Round_any _ _ (by omega) (by omega) (by omega) (by omega) _).mono ?_; rintro e w' ⟨rfl, rfl⟩) | (go_at_call 49; refine (l4Cut_ok W P _ h0 h1 h2 h3 _).mono ?_; rintro e w3 ⟨rfl, hb⟩))
    (try go_wp2_with fail)
    refine hK.out _ _ (by repeat (first | exact bw_refl _ | assumption | apply bw_alloc | apply bw_drew | apply bw_drewN | (refine bw_trans ?_ (by assumption)) | (refine bw_set ?_ (by simp only [go_sem]; omega) _))) (fun hHeld => ?_)
    clear hK K
    try simp only [Act.put, List.setIfInBounds_toArray, List.set_cons_zero, List.set_cons_succ]
    refine wpAnyH_take (i := 8) (v := ?_) (by (simp only [List.getElem?_toArray, List.getElem?_cons_succ, List.getElem?_cons_zero]; rfl)) (by kernel_rfl) (by kernel_rfl) (by kernel_rfl) (by exact fun _ _ _ h => h) (Or.inl ⟨by rfl, ?_⟩) (by assumption) ?_
    rotate_left
    · (intro wS hS; clear hS; go_simp; try with_reducible rfl)
    try simp only [Act.put, List.setIfInBounds_toArray, List.set_cons_zero, List.set_cons_succ]
    refine wpAnyH_take (i := 9) (v := ?_) (by (simp only [List.getElem?_toArray, List.getElem?_cons_succ, List.getElem?_cons_zero]; rfl)) (by kernel_rfl) (by kernel_rfl) (by kernel_rfl) (by exact fun _ _ _ h => h) (Or.inl ⟨by rfl, ?_⟩) (by assumption) ?_
    rotate_left
    · (intro wS hS; clear hS; go_simp; try with_reducible rfl)
    try simp only [Act.put, List.setIfInBounds_toArray, List.set_cons_zero, List.set_cons_succ]
    refine wpAnyH_take (i := 10) (v := ?_) (by (simp only [List.getElem?_toArray, List.getElem?_cons_succ, List.getElem?_cons_zero]; rfl)) (by kernel_rfl) (by kernel_rfl) (by kernel_rfl) (by exact fun _ _ _ h => h) (Or.inl ⟨by rfl, ?_⟩) (by assumption) ?_
    rotate_left
    · (intro wS hS; clear hS; go_simp; try with_reducible rfl)
    try simp only [Act.put, List.setIfInBounds_toArray, List.set_cons_zero, List.set_cons_succ]
    refine wpAnyH_take (i := 11) (v := ?_) (by (simp only [List.getElem?_toArray, List.getElem?_cons_succ, List.getElem?_cons_zero]; rfl)) (by kernel_rfl) (by kernel_rfl) (by kernel_rfl) (by exact fun _ _ _ h => h) (Or.inl ⟨by rfl, ?_⟩) (by assumption) ?_
    rotate_left
    · (intro wS hS; clear hS; go_simp; try with_reducible rfl)
    try simp only [Act.put, List.setIfInBounds_toArray, List.set_cons_zero, List.set_cons_succ]
    refine wpAnyH_take (i := 12) (v := ?_) (by (simp only [List.getElem?_toArray, List.getElem?_cons_succ, List.getElem?_cons_zero]; rfl)) (by kernel_rfl) (by kernel_rfl) (by kernel_rfl) (by exact fun _ _ _ h => h) (Or.inl ⟨by rfl, ?_⟩) (by assumption) ?_
    rotate_left
    · (intro wS hS; clear hS; go_simp; try with_reducible rfl)
    try simp only [Act.put, List.setIfInBounds_toArray, List.set_cons_zero, List.set_cons_succ]
    refine wpAnyH_done (by kernel_rfl) ?_ _
    have t2 : w3.cell? ⟨w.heap.size, 1, none⟩ = some (.bool l) := cell_keep hHeld s2
    have y0 : w.heap.size < w3.heap.size := lt_keep hHeld z0
    have HH := Lib.hid hHeld
    clear hHeld s1 s2 s3 s4
    go_wp2
    refine wp_region_below (by kernel_rfl) (fun wD hHeld => ?_)
    refine wpAnyH_take (i := 0) (v := ?_) (by (simp only [List.getElem?_toArray, List.getElem?_cons_zero]; rfl)) (by kernel_rfl) (by kernel_rfl) (by kernel_rfl) (by exact fun _ _ _ h => h) (Or.inl ⟨by rfl, ?_⟩) (by assumption) ?_
    rotate_left
    · (intro wS hS; clear hS; go_simp; try with_reducible rfl)
    try simp only [Act.put, List.setIfInBounds_toArray, List.set_cons_zero, List.set_cons_succ]
    refine wpAnyH_take (i := 1) (v := ?_) (by (simp only [List.getElem?_toArray, List.getElem?_cons_succ, List.getElem?_cons_zero]; rfl)) (by kernel_rfl) (by kernel_rfl) (by kernel_rfl) (by exact fun _ _ _ h => h) (Or.inl ⟨by rfl, ?_⟩) (by assumption) ?_
    rotate_left
    · (intro wS hS; clear hS; go_simp; try with_reducible rfl)
    try simp only [Act.put, List.setIfInBounds_toArray, List.set_cons_zero, List.set_cons_succ]
    refine wpAnyH_take (i := 2) (v := ?_) (by (simp only [List.getElem?_toArray, List.getElem?_cons_succ, List.getElem?_cons_zero]; rfl)) (by kernel_rfl) (by kernel_rfl) (by kernel_rfl) (by exact fun _ _ _ h => h) (Or.inl ⟨by rfl, ?_⟩) (by assumption) ?_
    rotate_left
    · (intro wS hS; clear hS; go_simp; try with_reducible rfl)
    try simp only [Act.put, List.setIfInBounds_toArray, List.set_cons_zero, List.set_cons_succ]
    refine wpAnyH_take (i := 3) (v := ?_) (by (simp only [List.getElem?_toArray, List.getElem?_cons_succ, List.getElem?_cons_zero]; rfl)) (by kernel_rfl) (by kernel_rfl) (by kernel_rfl) (by exact fun _ _ _ h => h) (Or.inl ⟨by rfl, ?_⟩) (by assumption) ?_
    rotate_left
    · (intro wS hS; clear hS; go_simp; try with_reducible rfl)
    try simp only [Act.put, List.setIfInBounds_toArray, List.set_cons_zero, List.set_cons_succ]
    refine wpAnyH_take (i := 4) (v := ?_) (by (simp only [List.getElem?_toArray, List.getElem?_cons_succ, List.getElem?_cons_zero]; rfl)) (by kernel_rfl) (by kernel_rfl) (by kernel_rfl) (by exact fun _ _ _ h => h) (Or.inl ⟨by rfl, ?_⟩) (by assumption) ?_
    rotate_left
    · (intro wS hS; have hSc := (bcell hS).1; clear hS; go_simp; try with_reducible rfl)
    try simp only [Act.put, List.setIfInBounds_toArray, List.set_cons_zero, List.set_cons_succ]
    refine wpAnyH_take (i := 5) (v := ?_) (by (simp only [List.getElem?_toArray, List.getElem?_cons_succ, List.getElem?_cons_zero]; rfl)) (by kernel_rfl) (by kernel_rfl) (by kernel_rfl) (by exact fun _ _ _ h => h) (Or.inl ⟨by rfl, ?_⟩) (by assumption) ?_
    rotate_left
    · (intro wS hS; clear hS; go_simp; try with_reducible rfl)
    try simp only [Act.put, List.setIfInBounds_toArray, List.set_cons_zero, List.set_cons_succ]
    refine wpAnyH_take (i := 6) (v := ?_) (by (simp only [List.getElem?_toArray, List.getElem?_cons_succ, List.getElem?_cons_zero]; rfl)) (by kernel_rfl) (by kernel_rfl) (by kernel_rfl) (by exact fun _ _ _ h => h) (Or.inl ⟨by rfl, ?_⟩) (by assumption) ?_
    rotate_left
    · (intro wS hS; clear hS; go_simp; try with_reducible rfl)
    try simp only [Act.put, List.setIfInBounds_toArray, List.set_cons_zero, List.set_cons_succ]
    refine wpAnyH_take (i := 7) (v := ?_) (by (simp only [List.getElem?_toArray, List.getElem?_cons_succ, List.getElem?_cons_zero]; rfl)) (by kernel_rfl) (by kernel_rfl) (by kernel_rfl) (by exact fun _ _ _ h => h) (Or.inl ⟨by rfl, ?_⟩) (by assumption) ?_
    rotate_left
    · (intro wS hS; clear hS; go_simp; try with_reducible rfl)
    try simp only [Act.put, List.setIfInBounds_toArray, List.set_cons_zero, List.set_cons_succ]
    refine wpAnyH_take (i := 8) (v := ?_) (by (simp only [List.getElem?_toArray, List.getElem?_cons_succ, List.getElem?_cons_zero]; rfl)) (by kernel_rfl) (by kernel_rfl) (by kernel_rfl) (by exact fun _ _ _ h => h) (Or.inl ⟨by rfl, ?_⟩) (by assumption) ?_
    rotate_left
    · (intro wS hS; clear hS; go_simp; try with_reducible rfl)
    try simp only [Act.put, List.setIfInBounds_toArray, List.set_cons_zero, List.set_cons_succ]
    refine wpAnyH_done (by kernel_rfl) ?_ _
    go_wp2
    go_ret2
    have hHeld2 := HH.out
    exact ⟨by simp, (by repeat (first | exact bw_refl _ | assumption | apply bw_alloc | apply bw_drew | apply bw_drewN | (refine bw_trans ?_ (by assumption)) | (refine bw_set ?_ (by simp only [go_sem]; omega) _)))⟩
theorem implSumStored_any (v : Int) (l : Bool) (W P : Int) (w : World) :
    Calls Try.prog 31 #[.agg #[.int .i64 v, .bool l], .agg #[.int .i64 W, .int .i64 P]] w fun e w' => e = .returned (.tuple #[.int .i64 (storedV W P v), .bool (storedL W P v l)]) ∧ Below w.heap.size w w' := by
  rcases inB_cases v (-1125899906842624) 1125899906842624 with ⟨hv, v0, v1⟩ | ⟨hv, -⟩
  · rcases fmtB_cases W P with ⟨h, h0, h1, h2, h3⟩ | ⟨h, -⟩
    · obtain ⟨d0, d1⟩ := pow2_16 P h2 h3
      refine (implSumStored_ok v l W P hv v0 v1 h h0 h1 h2 h3 d0 d1 _ rfl w).mono ?_
      rintro e w1 ⟨rfl, hb⟩
      exact ⟨by simp [storedV, storedL, hv, h], hb⟩
    · have e1 : storedV W P v = 0 := by simp [storedV, h]
      have e2 : storedL W P v l = false := by simp [storedL, h]
      rw [e1, e2]
      clear e1 e2
      go_enter Try.func31, Try.ntmps31
      go_wp2_with (first
        | (go_at_call 19; refine (implSumValid_any _ _ _).mono ?_; rintro e w1 ⟨rfl, hb⟩; (first | (have hq := bcomp hc hf hz hb; clear hc hf hz; obtain ⟨hc, hf, hz⟩ := hq) | (obtain ⟨hc, hf⟩ := bcell hb; have hz := bsize hb)))
        | (go_at_call 51; refine (implFormatValid_any _ _ _).mono ?_; rintro e w1 ⟨rfl, hb⟩; (first | (have hq := bcomp hc hf hz hb; clear hc hf hz; obtain ⟨hc, hf, hz⟩ := hq) | (obtain ⟨hc, hf⟩ := bcell hb; have hz := bsize hb))))
      go_ret2
      exact ⟨rfl, (by repeat (first | exact bw_refl _ | assumption | apply bw_alloc | apply bw_drew | apply bw_drewN | (refine bw_trans ?_ (by assumption)) | (refine bw_set ?_ (by simp only [go_sem]; omega) _)))⟩
  · have e1 : storedV W P v = 0 := by simp [storedV, hv]
    have e2 : storedL W P v l = false := by simp [storedL, hv]
    rw [e1, e2]
    clear e1 e2
    go_enter Try.func31, Try.ntmps31
    go_wp2_with (first
      | (go_at_call 19; refine (implSumValid_any _ _ _).mono ?_; rintro e w1 ⟨rfl, hb⟩; (first | (have hq := bcomp hc hf hz hb; clear hc hf hz; obtain ⟨hc, hf, hz⟩ := hq) | (obtain ⟨hc, hf⟩ := bcell hb; have hz := bsize hb))))
    go_ret2
    exact ⟨rfl, (by repeat (first | exact bw_refl _ | assumption | apply bw_alloc | apply bw_drew | apply bw_drewN | (refine bw_trans ?_ (by assumption)) | (refine bw_set ?_ (by simp only [go_sem]; omega) _)))⟩
theorem specSumStored_any (v : Int) (l : Bool) (W P : Int) (w : World) :
    Calls Try.prog 30 #[.agg #[.int .i64 v, .bool l], .agg #[.int .i64 W, .int .i64 P]] w fun e w' => e = .returned (.tuple #[.int .i64 (storedV W P v), .bool (storedL W P v l)]) ∧ Below w.heap.size w w' := by
  rcases inB_cases v (-1125899906842624) 1125899906842624 with ⟨hv, v0, v1⟩ | ⟨hv, -⟩
  · rcases fmtB_cases W P with ⟨h, h0, h1, h2, h3⟩ | ⟨h, -⟩
    · obtain ⟨d0, d1⟩ := pow2_16 P h2 h3
      refine (specSumStored_ok v l W P hv v0 v1 h h0 h1 h2 h3 d0 d1 _ rfl w).mono ?_
      rintro e w1 ⟨rfl, hb⟩
      exact ⟨by simp [storedV, storedL, hv, h], hb⟩
    · have e1 : storedV W P v = 0 := by simp [storedV, h]
      have e2 : storedL W P v l = false := by simp [storedL, h]
      rw [e1, e2]
      clear e1 e2
      go_enter Try.func30, Try.ntmps30
      go_wp2_with (first
        | (go_at_call 17; refine (specSumValid_any _ _ _).mono ?_; rintro e w1 ⟨rfl, hb⟩; (first | (have hq := bcomp hc hf hz hb; clear hc hf hz; obtain ⟨hc, hf, hz⟩ := hq) | (obtain ⟨hc, hf⟩ := bcell hb; have hz := bsize hb)))
        | (go_at_call 40; refine (specFormatValid_any _ _ _).mono ?_; rintro e w1 ⟨rfl, hb⟩; (first | (have hq := bcomp hc hf hz hb; clear hc hf hz; obtain ⟨hc, hf, hz⟩ := hq) | (obtain ⟨hc, hf⟩ := bcell hb; have hz := bsize hb))))
      go_ret2
      exact ⟨rfl, (by repeat (first | exact bw_refl _ | assumption | apply bw_alloc | apply bw_drew | apply bw_drewN | (refine bw_trans ?_ (by assumption)) | (refine bw_set ?_ (by simp only [go_sem]; omega) _)))⟩
  · have e1 : storedV W P v = 0 := by simp [storedV, hv]
    have e2 : storedL W P v l = false := by simp [storedL, hv]
    rw [e1, e2]
    clear e1 e2
    go_enter Try.func30, Try.ntmps30
    go_wp2_with (first
      | (go_at_call 17; refine (specSumValid_any _ _ _).mono ?_; rintro e w1 ⟨rfl, hb⟩; (first | (have hq := bcomp hc hf hz hb; clear hc hf hz; obtain ⟨hc, hf, hz⟩ := hq) | (obtain ⟨hc, hf⟩ := bcell hb; have hz := bsize hb))))
    go_ret2
    exact ⟨rfl, (by repeat (first | exact bw_refl _ | assumption | apply bw_alloc | apply bw_drew | apply bw_drewN | (refine bw_trans ?_ (by assumption)) | (refine bw_set ?_ (by simp only [go_sem]; omega) _)))⟩
theorem walk_FnExactSumStored (v : Int) (l : Bool) (W P : Int) (w : World) (_ : (Lit.int .i64 v).wf = true) (_ : (Lit.int .i64 W).wf = true) (_ : (Lit.int .i64 P).wf = true) :
    Calls Try.prog 8 #[.agg #[.int .i64 v, .bool l], .agg #[.int .i64 W, .int .i64 P]] w fun e w' => e = .returned (.bool true) ∧ Below w.heap.size w w' := by
  go_enter Try.func8, Try.ntmps8
  go_wp2_with fail
  refine wp_region_below (by kernel_rfl) (fun wD hHeld => ?_)
  refine wpAnyH_take (i := 0) (v := ?_) (by (simp only [List.getElem?_toArray, List.getElem?_cons_zero]; rfl)) (by kernel_rfl) (by kernel_rfl) (by kernel_rfl) (by exact fun _ _ _ h => h) (Or.inl ⟨by rfl, ?_⟩) (by assumption) ?_
  rotate_left
  · (intro wS hS; have hSc := (bcell hS).1; clear hS; go_simp; try with_reducible rfl)
  try simp only [Act.put, List.setIfInBounds_toArray, List.set_cons_zero, List.set_cons_succ]
  refine wpAnyH_take (i := 2) (v := ?_) (by (simp only [List.getElem?_toArray, List.getElem?_cons_succ, List.getElem?_cons_zero]; rfl)) (by kernel_rfl) (by kernel_rfl) (by kernel_rfl) (by exact fun _ _ _ h => h) (Or.inl ⟨by rfl, ?_⟩) (by assumption) ?_
  rotate_left
  · (intro wS hS; have hSc := (bcell hS).1; clear hS; go_simp; try with_reducible rfl)
  try simp only [Act.put, List.setIfInBounds_toArray, List.set_cons_zero, List.set_cons_succ]
  refine wpAnyH_ready (rs := [1]) (by kernel_rfl) (by simp) ?_
  refine AllReadyH.cons (by (simp only [List.getElem?_toArray, List.getElem?_cons_succ, List.getElem?_cons_zero]; rfl)) (fun K hK => ?_) AllReadyH.nil
  go_simp
  (first | (go_at_call 18; refine (toSum_any _ _ _).mono ?_; rintro e w1 ⟨rfl, hb⟩) | (go_at_call 28; refine (toFormat_any _ _ _).mono ?_; rintro e w1 ⟨rfl, hb⟩) | (go_at_call 30; refine (specSumStored_any v l W P _).mono ?_; rintro e w3 ⟨rfl, hb⟩))
  (try go_wp2_with fail)
  refine hK.out _ _ (by repeat (first | exact bw_refl _ | assumption | apply bw_alloc | apply bw_drew | apply bw_drewN | (refine bw_trans ?_ (by assumption)) | (refine bw_set ?_ (by simp only [go_sem]; omega) _))) (fun hHeld => ?_)
  clear hK K
  try simp only [Act.put, List.setIfInBounds_toArray, List.set_cons_zero, List.set_cons_succ]
  refine wpAnyH_ready (rs := [3]) (by kernel_rfl) (by simp) ?_
  refine AllReadyH.cons (by (simp only [List.getElem?_toArray, List.getElem?_cons_succ, List.getElem?_cons_zero]; rfl)) (fun K hK => ?_) AllReadyH.nil
  go_simp
  (first | (go_at_call 18; refine (toSum_any _ _ _).mono ?_; rintro e w1 ⟨rfl, hb⟩) | (go_at_call 28; refine (toFormat_any _ _ _).mono ?_; rintro e w1 ⟨rfl, hb⟩) | (go_at_call 30; refine (specSumStored_any v l W P _).mono ?_; rintro e w3 ⟨rfl, hb⟩))
  (try go_wp2_with fail)
  refine hK.out _ _ (by repeat (first | exact bw_refl _ | assumption | apply bw_alloc | apply bw_drew | apply bw_drewN | (refine bw_trans ?_ (by assumption)) | (refine bw_set ?_ (by simp only [go_sem]; omega) _))) (fun hHeld => ?_)
  clear hK K
  try simp only [Act.put, List.setIfInBounds_toArray, List.set_cons_zero, List.set_cons_succ]
  refine wpAnyH_ready (rs := [4]) (by kernel_rfl) (by simp) ?_
  refine AllReadyH.cons (by (simp only [List.getElem?_toArray, List.getElem?_cons_succ, List.getElem?_cons_zero]; rfl)) (fun K hK => ?_) AllReadyH.nil
  go_simp
  (first | (go_at_call 18; refine (toSum_any _ _ _).mono ?_; rintro e w1 ⟨rfl, hb⟩) | (go_at_call 28; refine (toFormat_any _ _ _).mono ?_; rintro e w1 ⟨rfl, hb⟩) | (go_at_call 30; refine (specSumStored_any v l W P _).mono ?_; rintro e w3 ⟨rfl, hb⟩))
  (try go_wp2_with fail)
  refine hK.out _ _ (by repeat (first | exact bw_refl _ | assumption | apply bw_alloc | apply bw_drew | apply bw_drewN | (refine bw_trans ?_ (by assumption)) | (refine bw_set ?_ (by simp only [go_sem]; omega) _))) (fun hHeld => ?_)
  clear hK K
  try simp only [Act.put, List.setIfInBounds_toArray, List.set_cons_zero, List.set_cons_succ]
  refine wpAnyH_take (i := 5) (v := ?_) (by (simp only [List.getElem?_toArray, List.getElem?_cons_succ, List.getElem?_cons_zero]; rfl)) (by kernel_rfl) (by kernel_rfl) (by kernel_rfl) (by exact fun _ _ _ h => h) (Or.inl ⟨by rfl, ?_⟩) (by assumption) ?_
  rotate_left
  · (intro wS hS; clear hS; go_simp; try with_reducible rfl)
  try simp only [Act.put, List.setIfInBounds_toArray, List.set_cons_zero, List.set_cons_succ]
  refine wpAnyH_take (i := 6) (v := ?_) (by (simp only [List.getElem?_toArray, List.getElem?_cons_succ, List.getElem?_cons_zero]; rfl)) (by kernel_rfl) (by kernel_rfl) (by kernel_rfl) (by exact fun _ _ _ h => h) (Or.inl ⟨by rfl, ?_⟩) (by assumption) ?_
  rotate_left
  · (intro wS hS; clear hS; go_simp; try with_reducible rfl)
  try simp only [Act.put, List.setIfInBounds_toArray, List.set_cons_zero, List.set_cons_succ]
  refine wpAnyH_take (i := 7) (v := ?_) (by (simp only [List.getElem?_toArray, List.getElem?_cons_succ, List.getElem?_cons_zero]; rfl)) (by kernel_rfl) (by kernel_rfl) (by kernel_rfl) (by exact fun _ _ _ h => h) (Or.inl ⟨by rfl, ?_⟩) (by assumption) ?_
  rotate_left
  · (intro wS hS; clear hS; go_simp; try with_reducible rfl)
  try simp only [Act.put, List.setIfInBounds_toArray, List.set_cons_zero, List.set_cons_succ]
  refine wpAnyH_take (i := 8) (v := ?_) (by (simp only [List.getElem?_toArray, List.getElem?_cons_succ, List.getElem?_cons_zero]; rfl)) (by kernel_rfl) (by kernel_rfl) (by kernel_rfl) (by exact fun _ _ _ h => h) (Or.inl ⟨by rfl, ?_⟩) (by assumption) ?_
  rotate_left
  · (intro wS hS; clear hS; go_simp; try with_reducible rfl)
  try simp only [Act.put, List.setIfInBounds_toArray, List.set_cons_zero, List.set_cons_succ]
  refine wpAnyH_take (i := 9) (v := ?_) (by (simp only [List.getElem?_toArray, List.getElem?_cons_succ, List.getElem?_cons_zero]; rfl)) (by kernel_rfl) (by kernel_rfl) (by kernel_rfl) (by exact fun _ _ _ h => h) (Or.inl ⟨by rfl, ?_⟩) (by assumption) ?_
  rotate_left
  · (intro wS hS; clear hS; go_simp; try with_reducible rfl)
  try simp only [Act.put, List.setIfInBounds_toArray, List.set_cons_zero, List.set_cons_succ]
  refine wpAnyH_done (by kernel_rfl) ?_ _
  have s1 : w3.cell? ⟨w.heap.size, 0, none⟩ = some (.int .i64 v) := cell_keep hHeld (by go_simp)
  have s2 : w3.cell? ⟨w.heap.size, 1, none⟩ = some (.bool l) := cell_keep hHeld (by go_simp)
  have s3 : w3.cell? ⟨w.heap.size + 1, 0, none⟩ = some (.int .i64 W) := cell_keep hHeld (by go_simp)
  have s4 : w3.cell? ⟨w.heap.size + 1, 1, none⟩ = some (.int .i64 P) := cell_keep hHeld (by go_simp)
  have z0 : w.heap.size < w3.heap.size := World.block_lt_of_cell? _ _ s1
  have z1 : w.heap.size + 1 < w3.heap.size := World.block_lt_of_cell? _ _ s3
  have HH := Lib.hid hHeld
  clear hHeld
  go_wp2_with fail
  refine wp_region_below (by kernel_rfl) (fun wD hHeld => ?_)
  refine wpAnyH_take (i := 0) (v := ?_) (by (simp only [List.getElem?_toArray, List.getElem?_cons_zero]; rfl)) (by kernel_rfl) (by kernel_rfl) (by kernel_rfl) (by exact fun _ _ _ h => h) (Or.inl ⟨by rfl, ?_⟩) (by assumption) ?_
  rotate_left
  · (intro wS hS; have hSc := (bcell hS).1; clear hS; go_simp; try with_reducible rfl)
  try simp only [Act.put, List.setIfInBounds_toArray, List.set_cons_zero, List.set_cons_succ]
  refine wpAnyH_take (i := 2) (v := ?_) (by (simp only [List.getElem?_toArray, List.getElem?_cons_succ, List.getElem?_cons_zero]; rfl)) (by kernel_rfl) (by kernel_rfl) (by kernel_rfl) (by exact fun _ _ _ h => h) (Or.inl ⟨by rfl, ?_⟩) (by assumption) ?_
  rotate_left
  · (intro wS hS; have hSc := (bcell hS).1; clear hS; go_simp; try with_reducible rfl)
  try simp only [Act.put, List.setIfInBounds_toArray, List.set_cons_zero, List.set_cons_succ]
  refine wpAnyH_ready (rs := [1]) (by kernel_rfl) (by simp) ?_
  refine AllReadyH.cons (by (simp only [List.getElem?_toArray, List.getElem?_cons_succ, List.getElem?_cons_zero]; rfl)) (fun K hK => ?_) AllReadyH.nil
  go_simp
  (first | (go_at_call 18; refine (toSum_any _ _ _).mono ?_; rintro e w1 ⟨rfl, hb⟩) | (go_at_call 28; refine (toFormat_any _ _ _).mono ?_; rintro e w1 ⟨rfl, hb⟩) | (go_at_call 31; refine (implSumStored_any v l W P _).mono ?_; rintro e w4 ⟨rfl, hb⟩))
  (try go_wp2_with fail)
  refine hK.out _ _ (by repeat (first | exact bw_refl _ | assumption | apply bw_alloc | apply bw_drew | apply bw_drewN | (refine bw_trans ?_ (by assumption)) | (refine bw_set ?_ (by simp only [go_sem]; omega) _))) (fun hHeld => ?_)
  clear hK K
  try simp only [Act.put, List.setIfInBounds_toArray, List.set_cons_zero, List.set_cons_succ]
  refine wpAnyH_ready (rs := [3]) (by kernel_rfl) (by simp) ?_
  refine AllReadyH.cons (by (simp only [List.getElem?_toArray, List.getElem?_cons_succ, List.getElem?_cons_zero]; rfl)) (fun K hK => ?_) AllReadyH.nil
  go_simp
  (first | (go_at_call 18; refine (toSum_any _ _ _).mono ?_; rintro e w1 ⟨rfl, hb⟩) | (go_at_call 28; refine (toFormat_any _ _ _).mono ?_; rintro e w1 ⟨rfl, hb⟩) | (go_at_call 31; refine (implSumStored_any v l W P _).mono ?_; rintro e w4 ⟨rfl, hb⟩))
  (try go_wp2_with fail)
  refine hK.out _ _ (by repeat (first | exact bw_refl _ | assumption | apply bw_alloc | apply bw_drew | apply bw_drewN | (refine bw_trans ?_ (by assumption)) | (refine bw_set ?_ (by simp only [go_sem]; omega) _))) (fun hHeld => ?_)
  clear hK K
  try simp only [Act.put, List.setIfInBounds_toArray, List.set_cons_zero, List.set_cons_succ]
  refine wpAnyH_ready (rs := [4]) (by kernel_rfl) (by simp) ?_
  refine AllReadyH.cons (by (simp only [List.getElem?_toArray, List.getElem?_cons_succ, List.getElem?_cons_zero]; rfl)) (fun K hK => ?_) AllReadyH.nil
  go_simp
  (first | (go_at_call 18; refine (toSum_any _ _ _).mono ?_; rintro e w1 ⟨rfl, hb⟩) | (go_at_call 28; refine (toFormat_any _ _ _).mono ?_; rintro e w1 ⟨rfl, hb⟩) | (go_at_call 31; refine (implSumStored_any v l W P _).mono ?_; rintro e w4 ⟨rfl, hb⟩))
  (try go_wp2_with fail)
  refine hK.out _ _ (by repeat (first | exact bw_refl _ | assumption | apply bw_alloc | apply bw_drew | apply bw_drewN | (refine bw_trans ?_ (by assumption)) | (refine bw_set ?_ (by simp only [go_sem]; omega) _))) (fun hHeld => ?_)
  clear hK K
  try simp only [Act.put, List.setIfInBounds_toArray, List.set_cons_zero, List.set_cons_succ]
  refine wpAnyH_take (i := 5) (v := ?_) (by (simp only [List.getElem?_toArray, List.getElem?_cons_succ, List.getElem?_cons_zero]; rfl)) (by kernel_rfl) (by kernel_rfl) (by kernel_rfl) (by exact fun _ _ _ h => h) (Or.inl ⟨by rfl, ?_⟩) (by assumption) ?_
  rotate_left
  · (intro wS hS; clear hS; go_simp; try with_reducible rfl)
  try simp only [Act.put, List.setIfInBounds_toArray, List.set_cons_zero, List.set_cons_succ]
  refine wpAnyH_take (i := 6) (v := ?_) (by (simp only [List.getElem?_toArray, List.getElem?_cons_succ, List.getElem?_cons_zero]; rfl)) (by kernel_rfl) (by kernel_rfl) (by kernel_rfl) (by exact fun _ _ _ h => h) (Or.inl ⟨by rfl, ?_⟩) (by assumption) ?_
  rotate_left
  · (intro wS hS; clear hS; go_simp; try with_reducible rfl)
  try simp only [Act.put, List.setIfInBounds_toArray, List.set_cons_zero, List.set_cons_succ]
  refine wpAnyH_take (i := 7) (v := ?_) (by (simp only [List.getElem?_toArray, List.getElem?_cons_succ, List.getElem?_cons_zero]; rfl)) (by kernel_rfl) (by kernel_rfl) (by kernel_rfl) (by exact fun _ _ _ h => h) (Or.inl ⟨by rfl, ?_⟩) (by assumption) ?_
  rotate_left
  · (intro wS hS; clear hS; go_simp; try with_reducible rfl)
  try simp only [Act.put, List.setIfInBounds_toArray, List.set_cons_zero, List.set_cons_succ]
  refine wpAnyH_take (i := 8) (v := ?_) (by (simp only [List.getElem?_toArray, List.getElem?_cons_succ, List.getElem?_cons_zero]; rfl)) (by kernel_rfl) (by kernel_rfl) (by kernel_rfl) (by exact fun _ _ _ h => h) (Or.inl ⟨by rfl, ?_⟩) (by assumption) ?_
  rotate_left
  · (intro wS hS; clear hS; go_simp; try with_reducible rfl)
  try simp only [Act.put, List.setIfInBounds_toArray, List.set_cons_zero, List.set_cons_succ]
  refine wpAnyH_take (i := 9) (v := ?_) (by (simp only [List.getElem?_toArray, List.getElem?_cons_succ, List.getElem?_cons_zero]; rfl)) (by kernel_rfl) (by kernel_rfl) (by kernel_rfl) (by exact fun _ _ _ h => h) (Or.inl ⟨by rfl, ?_⟩) (by assumption) ?_
  rotate_left
  · (intro wS hS; clear hS; go_simp; try with_reducible rfl)
  try simp only [Act.put, List.setIfInBounds_toArray, List.set_cons_zero, List.set_cons_succ]
  refine wpAnyH_done (by kernel_rfl) ?_ _
  have hHeld2 := HH.out
  go_wp2
  go_ret
  exact ⟨rfl, (by repeat (first | exact bw_refl _ | assumption | apply bw_alloc | apply bw_drew | apply bw_drewN | (refine bw_trans ?_ (by assumption)) | (refine bw_set ?_ (by simp only [go_sem]; omega) _)))⟩
end Go.Proofs.Ytmpcoljollkfjaa
