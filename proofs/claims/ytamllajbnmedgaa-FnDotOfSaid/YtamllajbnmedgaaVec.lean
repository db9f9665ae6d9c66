/- Contracts of DotOf and of what it calls, and the walk of its exact law; no condition. -/
import Derived.Test.YtamllajbnmedgaaNum
import Derived.Deep.RegionHeld3
namespace Go.Proofs.Ytamllajbnmedgaa
open Go.RowKit
set_option linter.unusedVariables false

/-- Both numbers of a vector are in -m..m. -/
def vecB (m X Y : Int) : Bool := inB X (-m) m && inB Y (-m) m
theorem vecB_spec (m X Y : Int) (h : vecB m X Y = true) : (-m ≤ X ∧ X ≤ m) ∧ -m ≤ Y ∧ Y ≤ m := by
  unfold vecB at h
  rw [Bool.and_eq_true, inB_iff, inB_iff] at h
  exact h
theorem toVector_any (X Y : Int) (w : World) : Calls Try.prog 9 #[.agg #[.int .i64 X, .int .i64 Y]] w fun e w' => e = .returned (.agg #[.int .i64 X, .int .i64 Y]) ∧ Below w.heap.size w w' := by
  go_enter Try.func9, Try.ntmps9
  go_wp2
  exact bodyPost_ret (v := .agg #[.int .i64 X, .int .i64 Y]) (by simp [results, Try.results9, go_sem]) rfl ⟨rfl, (by repeat (first | exact bw_refl _ | assumption | apply bw_alloc | apply bw_drew | apply bw_drewN | (refine bw_trans ?_ (by assumption)) | (refine bw_set ?_ (by simp only [go_sem]; omega) _)))⟩
theorem l18Good_any (X Y : Int) (w : World) : Calls Try.prog 16 #[.agg #[.int .i64 X, .int .i64 Y]] w fun e w' => e = .returned (.bool (vecB 1048576 X Y)) ∧ Below w.heap.size w w' := by
  have e1 : vecB 1048576 X Y = (inB X (-1048576) 1048576 && inB Y (-1048576) 1048576) := rfl
  rw [e1]
  clear e1
  cases hX : inB X (-1048576) 1048576
  all_goals
    go_enter Try.func16, Try.ntmps16
    go_wp2_with (go_at_call 18; refine (l1In_any _ _ _ _).mono ?_; rintro e w' ⟨rfl, rfl⟩)
    go_ret
    exact ⟨ret_bool (by simp), (by repeat (first | exact bw_refl _ | assumption | apply bw_alloc | apply bw_drew | apply bw_drewN | (refine bw_trans ?_ (by assumption)) | (refine bw_set ?_ (by simp only [go_sem]; omega) _)))⟩
theorem vwithin_any (X Y m : Int) (h0 : 0 ≤ m) (h1 : m ≤ 2305843009213693952) (w : World) : Calls Try.prog 17 #[.agg #[.int .i64 X, .int .i64 Y], .int .i64 m] w fun e w' => e = .returned (.bool (vecB m X Y)) ∧ Below w.heap.size w w' := by
  have e1 : vecB m X Y = (inB X (-m) m && inB Y (-m) m) := rfl
  rw [e1]
  clear e1
  cases hX : inB X (-m) m
  all_goals
    go_enter Try.func17, Try.ntmps17
    go_wp2_with (go_at_call 24; refine (within_any _ _ h0 h1 _).mono ?_; rintro e w' ⟨rfl, rfl⟩)
    go_ret
    exact ⟨ret_bool (by simp), (by repeat (first | exact bw_refl _ | assumption | apply bw_alloc | apply bw_drew | apply bw_drewN | (refine bw_trans ?_ (by assumption)) | (refine bw_set ?_ (by simp only [go_sem]; omega) _)))⟩
def dotOf (X Y X2 Y2 : Int) : Int := if vecB 1048576 X Y && vecB 1048576 X2 Y2 then X * X2 + Y * Y2 else 0
theorem specDotOf_any (X Y X2 Y2 : Int) (w : World) : Calls Try.prog 8 #[.agg #[.int .i64 X, .int .i64 Y], .agg #[.int .i64 X2, .int .i64 Y2]] w fun e w' => e = .returned (.int .i64 (dotOf X Y X2 Y2)) ∧ Below w.heap.size w w' := by
  unfold dotOf
  cases ha : vecB 1048576 X Y
  · go_enter Try.func8, Try.ntmps8
    go_wp2_with (go_at_call 16; refine (l18Good_any _ _ _).mono ?_; rintro e w1 ⟨rfl, hb⟩; (first | (have hq := bcomp hc hf hz hb; clear hc hf hz; obtain ⟨hc, hf, hz⟩ := hq) | (obtain ⟨hc, hf⟩ := bcell hb; have hz := bsize hb)))
    go_ret
    exact ⟨rfl, (by repeat (first | exact bw_refl _ | assumption | apply bw_alloc | apply bw_drew | apply bw_drewN | (refine bw_trans ?_ (by assumption)) | (refine bw_set ?_ (by simp only [go_sem]; omega) _)))⟩
  · cases hb : vecB 1048576 X2 Y2
    · go_enter Try.func8, Try.ntmps8
      go_wp2_with (go_at_call 16; refine (l18Good_any _ _ _).mono ?_; rintro e w1 ⟨rfl, hb⟩; (first | (have hq := bcomp hc hf hz hb; clear hc hf hz; obtain ⟨hc, hf, hz⟩ := hq) | (obtain ⟨hc, hf⟩ := bcell hb; have hz := bsize hb)))
      go_ret
      exact ⟨rfl, (by repeat (first | exact bw_refl _ | assumption | apply bw_alloc | apply bw_drew | apply bw_drewN | (refine bw_trans ?_ (by assumption)) | (refine bw_set ?_ (by simp only [go_sem]; omega) _)))⟩
    · obtain ⟨⟨x0, x1⟩, y0, y1⟩ := vecB_spec _ _ _ ha
      obtain ⟨⟨u0, u1⟩, v0, v1⟩ := vecB_spec _ _ _ hb
      obtain ⟨p0, p1⟩ := mul_bd X X2 1048576 1048576 (by omega) (by omega) x0 x1 u0 u1
      obtain ⟨q0, q1⟩ := mul_bd Y Y2 1048576 1048576 (by omega) (by omega) y0 y1 v0 v1
      have r0 : -1099511627776 ≤ X * X2 := by omega
      have r1 : X * X2 ≤ 1099511627776 := by omega
      have r2 : -1099511627776 ≤ Y * Y2 := by omega
      have r3 : Y * Y2 ≤ 1099511627776 := by omega
      go_enter Try.func8, Try.ntmps8
      go_wp2_with (go_at_call 16; refine (l18Good_any _ _ _).mono ?_; rintro e w1 ⟨rfl, hb⟩; (first | (have hq := bcomp hc hf hz hb; clear hc hf hz; obtain ⟨hc, hf, hz⟩ := hq) | (obtain ⟨hc, hf⟩ := bcell hb; have hz := bsize hb)))
      go_ret
      exact ⟨ret_int (by simp), (by repeat (first | exact bw_refl _ | assumption | apply bw_alloc | apply bw_drew | apply bw_drewN | (refine bw_trans ?_ (by assumption)) | (refine bw_set ?_ (by simp only [go_sem]; omega) _)))⟩
theorem implDotOf_any (X Y X2 Y2 : Int) (w : World) : Calls Try.prog 10 #[.agg #[.int .i64 X, .int .i64 Y], .agg #[.int .i64 X2, .int .i64 Y2]] w fun e w' => e = .returned (.int .i64 (dotOf X Y X2 Y2)) ∧ Below w.heap.size w w' := by
  unfold dotOf
  cases ha : vecB 1048576 X Y
  · go_enter Try.func10, Try.ntmps10
    go_wp2_with (go_at_call 17; refine (vwithin_any _ _ _ (by omega) (by omega) _).mono ?_; rintro e w1 ⟨rfl, hb⟩; (first | (have hq := bcomp hc hf hz hb; clear hc hf hz; obtain ⟨hc, hf, hz⟩ := hq) | (obtain ⟨hc, hf⟩ := bcell hb; have hz := bsize hb)))
    go_ret
    exact ⟨rfl, (by repeat (first | exact bw_refl _ | assumption | apply bw_alloc | apply bw_drew | apply bw_drewN | (refine bw_trans ?_ (by assumption)) | (refine bw_set ?_ (by simp only [go_sem]; omega) _)))⟩
  · cases hb : vecB 1048576 X2 Y2
    · go_enter Try.func10, Try.ntmps10
      go_wp2_with (go_at_call 17; refine (vwithin_any _ _ _ (by omega) (by omega) _).mono ?_; rintro e w1 ⟨rfl, hb⟩; (first | (have hq := bcomp hc hf hz hb; clear hc hf hz; obtain ⟨hc, hf, hz⟩ := hq) | (obtain ⟨hc, hf⟩ := bcell hb; have hz := bsize hb)))
      go_ret
      exact ⟨rfl, (by repeat (first | exact bw_refl _ | assumption | apply bw_alloc | apply bw_drew | apply bw_drewN | (refine bw_trans ?_ (by assumption)) | (refine bw_set ?_ (by simp only [go_sem]; omega) _)))⟩
    · obtain ⟨⟨x0, x1⟩, y0, y1⟩ := vecB_spec _ _ _ ha
      obtain ⟨⟨u0, u1⟩, v0, v1⟩ := vecB_spec _ _ _ hb
      obtain ⟨p0, p1⟩ := mul_bd X X2 1048576 1048576 (by omega) (by omega) x0 x1 u0 u1
      obtain ⟨q0, q1⟩ := mul_bd Y Y2 1048576 1048576 (by omega) (by omega) y0 y1 v0 v1
      have r0 : -1099511627776 ≤ X * X2 := by omega
      have r1 : X * X2 ≤ 1099511627776 := by omega
      have r2 : -1099511627776 ≤ Y * Y2 := by omega
      have r3 : Y * Y2 ≤ 1099511627776 := by omega
      go_enter Try.func10, Try.ntmps10
      go_wp2_with (go_at_call 17; refine (vwithin_any _ _ _ (by omega) (by omega) _).mono ?_; rintro e w1 ⟨rfl, hb⟩; (first | (have hq := bcomp hc hf hz hb; clear hc hf hz; obtain ⟨hc, hf, hz⟩ := hq) | (obtain ⟨hc, hf⟩ := bcell hb; have hz := bsize hb)))
      go_ret
      exact ⟨ret_int (by simp), (by repeat (first | exact bw_refl _ | assumption | apply bw_alloc | apply bw_drew | apply bw_drewN | (refine bw_trans ?_ (by assumption)) | (refine bw_set ?_ (by simp only [go_sem]; omega) _)))⟩
theorem walk_FnExactDotOf (X Y X2 Y2 : Int) (w : World) (_ : (Lit.int .i64 X).wf = true) (_ : (Lit.int .i64 Y).wf = true) (_ : (Lit.int .i64 X2).wf = true) (_ : (Lit.int .i64 Y2).wf = true) :
    Calls Try.prog 3 #[.agg #[.int .i64 X, .int .i64 Y], .agg #[.int .i64 X2, .int .i64 Y2]] w fun e w' => e = .returned (.bool true) ∧ Below w.heap.size w w' := by
  go_enter Try.func3, Try.ntmps3
  go_upto_region 1 with fail
  go_cut [5] (fun s wx => s = .int .i64 (dotOf X Y X2 Y2) ∧ Below (w.heap.size + 2) ((w.alloc (.cells #[.int .i64 X, .int .i64 Y] 23)).alloc (.cells #[.int .i64 X2, .int .i64 Y2] 23)) wx)
  case first =>
    refine wp_region_below (by kernel_rfl) (fun wD hHeld => ?_)
    refine wpAnyH_take (i := 0) (v := ?_) (by (simp only [List.getElem?_toArray, List.getElem?_cons_zero]; rfl)) (by kernel_rfl) (by kernel_rfl) (by kernel_rfl) (by exact fun _ _ _ h => h) (Or.inl ⟨by rfl, ?_⟩) (by assumption) ?_
    rotate_left
    · (intro wS hS; have hSc := (bcell hS).1; clear hS; go_simp; try with_reducible rfl)
    try simp only [Act.put, List.setIfInBounds_toArray, List.set_cons_zero, List.set_cons_succ]
    refine wpAnyH_take (i := 2) (v := ?_) (by (simp only [List.getElem?_toArray, List.getElem?_cons_succ, List.getElem?_cons_zero]; rfl)) (by kernel_rfl) (by kernel_rfl) (by kernel_rfl) (by exact fun _ _ _ h => h) (Or.inl ⟨by rfl, ?_⟩) (by assumption) ?_
    rotate_left
    · (intro wS hS; have hSc := (bcell hS).1; clear hS; go_simp; try with_reducible rfl)
    try simp only [Act.put, List.setIfInBounds_toArray, List.set_cons_zero, List.set_cons_succ]
    refine wpAnyH_ready (rs := [1]) (by kernel_rfl) (by simp) ?_
    refine AllReadyH.cons (by (simp only [List.getElem?_toArray, List.getElem?_cons_succ, List.getElem?_cons_zero]; rfl)) (fun K hK => ?_) AllReadyH.nil
    go_simp
    ((first | (go_at_call 9; refine (toVector_any _ _ _).mono ?_; rintro e w1 ⟨rfl, hb⟩) | (go_at_call 8; refine (specDotOf_any X Y X2 Y2 _).mono ?_; rintro e w1 ⟨rfl, hb⟩)))
    (try go_wp2_with fail)
    refine hK.out _ _ (by repeat (first | exact bw_refl _ | assumption | apply bw_alloc | apply bw_drew | apply bw_drewN | (refine bw_trans ?_ (by assumption)) | (refine bw_set ?_ (by simp only [go_sem]; omega) _))) (fun hHeld => ?_)
    clear hK K
    try simp only [Act.put, List.setIfInBounds_toArray, List.set_cons_zero, List.set_cons_succ]
    refine wpAnyH_ready (rs := [3]) (by kernel_rfl) (by simp) ?_
    refine AllReadyH.cons (by (simp only [List.getElem?_toArray, List.getElem?_cons_succ, List.getElem?_cons_zero]; rfl)) (fun K hK => ?_) AllReadyH.nil
    go_simp
    ((first | (go_at_call 9; refine (toVector_any _ _ _).mono ?_; rintro e w1 ⟨rfl, hb⟩) | (go_at_call 8; refine (specDotOf_any X Y X2 Y2 _).mono ?_; rintro e w1 ⟨rfl, hb⟩)))
    (try go_wp2_with fail)
    refine hK.out _ _ (by repeat (first | exact bw_refl _ | assumption | apply bw_alloc | apply bw_drew | apply bw_drewN | (refine bw_trans ?_ (by assumption)) | (refine bw_set ?_ (by simp only [go_sem]; omega) _))) (fun hHeld => ?_)
    clear hK K
    try simp only [Act.put, List.setIfInBounds_toArray, List.set_cons_zero, List.set_cons_succ]
    refine wpAnyH_ready (rs := [4]) (by kernel_rfl) (by simp) ?_
    refine AllReadyH.cons (by (simp only [List.getElem?_toArray, List.getElem?_cons_succ, List.getElem?_cons_zero]; rfl)) (fun K hK => ?_) AllReadyH.nil
    go_simp
    ((first | (go_at_call 9; refine (toVector_any _ _ _).mono ?_; rintro e w1 ⟨rfl, hb⟩) | (go_at_call 8; refine (specDotOf_any X Y X2 Y2 _).mono ?_; rintro e w1 ⟨rfl, hb⟩)))
    (try go_wp2_with fail)
    refine hK.out _ _ (by repeat (first | exact bw_refl _ | assumption | apply bw_alloc | apply bw_drew | apply bw_drewN | (refine bw_trans ?_ (by assumption)) | (refine bw_set ?_ (by simp only [go_sem]; omega) _))) (fun hHeld => ?_)
    clear hK K
    try simp only [Act.put, List.setIfInBounds_toArray, List.set_cons_zero, List.set_cons_succ]
    refine wpAnyH_take (i := 5) (v := ?_) (by (simp only [List.getElem?_toArray, List.getElem?_cons_succ, List.getElem?_cons_zero]; rfl)) (by kernel_rfl) (by kernel_rfl) (by kernel_rfl) (by exact fun _ _ _ h => h) (Or.inl ⟨by rfl, ?_⟩) (by assumption) ?_
    rotate_left
    · (intro wS hS; clear hS; go_simp; try with_reducible rfl)
    try simp only [Act.put, List.setIfInBounds_toArray, List.set_cons_zero, List.set_cons_succ]
    refine wpAnyH_done (by kernel_rfl) ?_ _
    go_wp2_with fail
    go_meet
    exact ⟨rfl, hHeld.mono (by simp)⟩
  case rest =>
    obtain ⟨rfl, hb⟩ := hcut
    have s1 : wc.cell? ⟨w.heap.size, 0, none⟩ = some (.int .i64 X) := (hb.cell (by simp)).trans (by go_simp)
    have s2 : wc.cell? ⟨w.heap.size, 1, none⟩ = some (.int .i64 Y) := (hb.cell (by simp)).trans (by go_simp)
    have s3 : wc.cell? ⟨w.heap.size + 1, 0, none⟩ = some (.int .i64 X2) := (hb.cell (by simp)).trans (by go_simp)
    have s4 : wc.cell? ⟨w.heap.size + 1, 1, none⟩ = some (.int .i64 Y2) := (hb.cell (by simp)).trans (by go_simp)
    have hw : Below w.heap.size w wc := Below.trans (bw_alloc (bw_alloc (bw_refl w) _) _) (hb.mono (by omega))
    have z0 : w.heap.size < wc.heap.size := World.block_lt_of_cell? _ _ s1
    have z1 : w.heap.size + 1 < wc.heap.size := World.block_lt_of_cell? _ _ s3
    go_upto_region 2 with fail
    go_cut [6] (fun s wx => s = .int .i64 (dotOf X Y X2 Y2) ∧ Below wc.heap.size wc wx)
    case first =>
      refine wp_region_below (by kernel_rfl) (fun wD hHeld => ?_)
      refine wpAnyH_take (i := 0) (v := ?_) (by (simp only [List.getElem?_toArray, List.getElem?_cons_zero]; rfl)) (by kernel_rfl) (by kernel_rfl) (by kernel_rfl) (by exact fun _ _ _ h => h) (Or.inl ⟨by rfl, ?_⟩) (by assumption) ?_
      rotate_left
      · (intro wS hS; have hSc := (bcell hS).1; clear hS; go_simp; try with_reducible rfl)
      try simp only [Act.put, List.setIfInBounds_toArray, List.set_cons_zero, List.set_cons_succ]
      refine wpAnyH_take (i := 2) (v := ?_) (by (simp only [List.getElem?_toArray, List.getElem?_cons_succ, List.getElem?_cons_zero]; rfl)) (by kernel_rfl) (by kernel_rfl) (by kernel_rfl) (by exact fun _ _ _ h => h) (Or.inl ⟨by rfl, ?_⟩) (by assumption) ?_
      rotate_left
      · (intro wS hS; have hSc := (bcell hS).1; clear hS; go_simp; try with_reducible rfl)
      try simp only [Act.put, List.setIfInBounds_toArray, List.set_cons_zero, List.set_cons_succ]
      refine wpAnyH_ready (rs := [1]) (by kernel_rfl) (by simp) ?_
      refine AllReadyH.cons (by (simp only [List.getElem?_toArray, List.getElem?_cons_succ, List.getElem?_cons_zero]; rfl)) (fun K hK => ?_) AllReadyH.nil
      go_simp
      ((first | (go_at_call 9; refine (toVector_any _ _ _).mono ?_; rintro e w1 ⟨rfl, hb⟩) | (go_at_call 10; refine (implDotOf_any X Y X2 Y2 _).mono ?_; rintro e w1 ⟨rfl, hb⟩)))
      (try go_wp2_with fail)
      refine hK.out _ _ (by repeat (first | exact bw_refl _ | assumption | apply bw_alloc | apply bw_drew | apply bw_drewN | (refine bw_trans ?_ (by assumption)) | (refine bw_set ?_ (by simp only [go_sem]; omega) _))) (fun hHeld => ?_)
      clear hK K
      try simp only [Act.put, List.setIfInBounds_toArray, List.set_cons_zero, List.set_cons_succ]
      refine wpAnyH_ready (rs := [3]) (by kernel_rfl) (by simp) ?_
      refine AllReadyH.cons (by (simp only [List.getElem?_toArray, List.getElem?_cons_succ, List.getElem?_cons_zero]; rfl)) (fun K hK => ?_) AllReadyH.nil
      go_simp
      ((first | (go_at_call 9; refine (toVector_any _ _ _).mono ?_; rintro e w1 ⟨rfl, hb⟩) | (go_at_call 10; refine (implDotOf_any X Y X2 Y2 _).mono ?_; rintro e w1 ⟨rfl, hb⟩)))
      (try go_wp2_with fail)
      refine hK.out _ _ (by repeat (first | exact bw_refl _ | assumption | apply bw_alloc | apply bw_drew | apply bw_drewN | (refine bw_trans ?_ (by assumption)) | (refine bw_set ?_ (by simp only [go_sem]; omega) _))) (fun hHeld => ?_)
      clear hK K
      try simp only [Act.put, List.setIfInBounds_toArray, List.set_cons_zero, List.set_cons_succ]
      refine wpAnyH_ready (rs := [4]) (by kernel_rfl) (by simp) ?_
      refine AllReadyH.cons (by (simp only [List.getElem?_toArray, List.getElem?_cons_succ, List.getElem?_cons_zero]; rfl)) (fun K hK => ?_) AllReadyH.nil
      go_simp
      ((first | (go_at_call 9; refine (toVector_any _ _ _).mono ?_; rintro e w1 ⟨rfl, hb⟩) | (go_at_call 10; refine (implDotOf_any X Y X2 Y2 _).mono ?_; rintro e w1 ⟨rfl, hb⟩)))
      (try go_wp2_with fail)
      refine hK.out _ _ (by repeat (first | exact bw_refl _ | assumption | apply bw_alloc | apply bw_drew | apply bw_drewN | (refine bw_trans ?_ (by assumption)) | (refine bw_set ?_ (by simp only [go_sem]; omega) _))) (fun hHeld => ?_)
      clear hK K
      try simp only [Act.put, List.setIfInBounds_toArray, List.set_cons_zero, List.set_cons_succ]
      refine wpAnyH_take (i := 5) (v := ?_) (by (simp only [List.getElem?_toArray, List.getElem?_cons_succ, List.getElem?_cons_zero]; rfl)) (by kernel_rfl) (by kernel_rfl) (by kernel_rfl) (by exact fun _ _ _ h => h) (Or.inl ⟨by rfl, ?_⟩) (by assumption) ?_
      rotate_left
      · (intro wS hS; clear hS; go_simp; try with_reducible rfl)
      try simp only [Act.put, List.setIfInBounds_toArray, List.set_cons_zero, List.set_cons_succ]
      refine wpAnyH_done (by kernel_rfl) ?_ _
      go_wp2_with fail
      go_meet
      exact ⟨rfl, hHeld⟩
    case rest =>
      obtain ⟨rfl, hb'⟩ := hcut
      go_wp2
      go_ret
      exact ⟨rfl, (by repeat (first | exact bw_refl _ | assumption | apply bw_alloc | apply bw_drew | apply bw_drewN | (refine bw_trans ?_ (by assumption)) | (refine bw_set ?_ (by simp only [go_sem]; omega) _)))⟩
end Go.Proofs.Ytamllajbnmedgaa
