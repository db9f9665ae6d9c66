/- Contracts of BetweenOf, both sides, and the walks of the exact laws of directions; no condition. -/
import Derived.Test.YtocbbfogaafbiaaDir2
namespace Go.Proofs.Ytocbbfogaafbiaa
open Go.RowKit
set_option linter.unusedVariables false
set_option linter.unusedSimpArgs false
set_option maxHeartbeats 2000000

theorem vecB_more {m k X Y : Int} (h : vecB m X Y = true) (hk : m ≤ k) : vecB k X Y = true := by
  obtain ⟨⟨a, b⟩, c, d⟩ := vecB_spec _ _ _ h
  unfold vecB; rw [Bool.and_eq_true, inB_iff, inB_iff]; omega
theorem dirF_bd (x y : Int) : 0 ≤ dirF x y ∧ dirF x y < 65536 := by
  unfold dirF
  repeat' split
  all_goals omega
theorem dirT_in {x y : Int} (h : vecB 1048576 x y = true) : dirT x y = dirF x y := by unfold dirT; rw [vecB_more h (by decide), if_pos rfl]
def betw (X Y X2 Y2 : Int) : Int := if vecB 1048576 X Y && vecB 1048576 X2 Y2 then (dirF X2 Y2 - dirF X Y) % 65536 else -1
theorem specBetw_any (X Y X2 Y2 : Int) (w : World) : Calls Try.prog 10 #[.agg #[.int .i64 X, .int .i64 Y], .agg #[.int .i64 X2, .int .i64 Y2]] w fun e w' => e = .returned (.int .i64 (betw X Y X2 Y2)) ∧ Below w.heap.size w w' := by
  have l0 := Blk.alloc (Blk.new w 25 #[.int .i64 X, .int .i64 Y]) (.cells #[.int .i64 X2, .int .i64 Y2] 25)
  have l1 := Blk.new (w.alloc (.cells #[.int .i64 X, .int .i64 Y] 25)) 25 #[.int .i64 X2, .int .i64 Y2]
  rw [World.size_alloc] at l1
  cases ha : vecB 1048576 X Y
  · have e0 : Hid (betw X Y X2 Y2 = -1) := by unfold Hid betw; rw [ha]; rfl
    go_enter Try.func10, Try.ntmps10
    go_wp2_with (go_at_call 21; refine (l18Good_any X Y _).mono ?_; rintro e w1 ⟨he, hb⟩; rw [ha] at he; subst he)
    go_ret
    exact ⟨ret_int e0.out.symm, (by repeat (first | exact bw_refl _ | assumption | apply bw_alloc | apply bw_drew | apply bw_drewN | (refine bw_trans ?_ (by assumption)) | (refine bw_set ?_ (by simp only [go_sem]; omega) _)))⟩
  · go_enter Try.func10, Try.ntmps10
    go_wp2_with fail
    refine (l18Good_any X Y _).mono ?_
    rintro e w1 ⟨he, hb⟩
    rw [ha] at he
    subst he
    replace l0 := l0.up hb
    replace l1 := l1.up hb
    have b1 : Below w.heap.size w w1 := (by repeat (first | exact bw_refl _ | assumption | apply bw_alloc | apply bw_drew | apply bw_drewN | (refine bw_trans ?_ (by assumption)) | (refine bw_set ?_ (by simp only [go_sem]; omega) _)))
    clear hb
    obtain ⟨c0, c1, -, -⟩ := l1.rd2
    cases hb2 : vecB 1048576 X2 Y2
    · have e0 : Hid (betw X Y X2 Y2 = -1) := by unfold Hid betw; rw [ha, hb2]; rfl
      go_wp2_with (go_at_call 21; refine (l18Good_any X2 Y2 _).mono ?_; rintro e w2 ⟨he, hb⟩; rw [hb2] at he; subst he)
      go_ret
      exact ⟨ret_int e0.out.symm, (by repeat (first | exact bw_refl _ | assumption | apply bw_alloc | apply bw_drew | apply bw_drewN | (refine bw_trans ?_ (by assumption)) | (refine bw_set ?_ (by simp only [go_sem]; omega) _)))⟩
    · have e0 : Hid (betw X Y X2 Y2 = (dirF X2 Y2 - dirF X Y) % 65536) := by unfold Hid betw; rw [ha, hb2]; rfl
      go_wp2_with fail
      refine (l18Good_any X2 Y2 _).mono ?_
      rintro e w2 ⟨he, hb⟩
      rw [hb2] at he
      subst he
      replace l0 := l0.up hb
      replace l1 := l1.up hb
      have b2 : Below w.heap.size w w2 := (by repeat (first | exact bw_refl _ | assumption | apply bw_alloc | apply bw_drew | apply bw_drewN | (refine bw_trans ?_ (by assumption)) | (refine bw_set ?_ (by simp only [go_sem]; omega) _)))
      clear hb b1 c0 c1
      have z0 := l0.lt
      have z1 := l1.lt
      obtain ⟨c0, c1, -, -⟩ := l0.rd2
      obtain ⟨c2, c3, -, -⟩ := l1.rd2
      have M1 := specDir_any X Y
      have M2 := specDir_any X2 Y2
      rw [dirT_in ha] at M1
      rw [dirT_in hb2] at M2
      have B1 := dirF_bd X Y
      have B2 := dirF_bd X2 Y2
      generalize dirF X Y = r at *
      generalize dirF X2 Y2 = s at *
      have w9 : IntKind.i64.wrap (s - r) = s - r := IntWalk.i64_in _ (by omega)
      go_wp2_with fail
      refine wp_region_below (by kernel_rfl) (fun wD hHeld => ?_)
      refine wpAnyH_take (i := 0) (v := ?_) (by (simp only [List.getElem?_toArray, List.getElem?_cons_zero]; rfl)) (by kernel_rfl) (by kernel_rfl) (by kernel_rfl) (by exact fun _ _ _ h => h) (Or.inl ⟨by rfl, ?_⟩) (by assumption) ?_
      rotate_left
      · (intro wS hS; have hSc := (bcell hS).1; clear hS; go_simp; try with_reducible rfl)
      try simp only [Act.put, List.setIfInBounds_toArray, List.set_cons_zero, List.set_cons_succ]
      refine wpAnyH_take (i := 2) (v := ?_) (by (simp only [List.getElem?_toArray, List.getElem?_cons_succ, List.getElem?_cons_zero]; rfl)) (by kernel_rfl) (by kernel_rfl) (by kernel_rfl) (by exact fun _ _ _ h => h) (Or.inl ⟨by rfl, ?_⟩) (by assumption) ?_
      rotate_left
      · (intro wS hS; have hSc := (bcell hS).1; clear hS; go_simp; try with_reducible rfl)
      try simp only [Act.put, List.setIfInBounds_toArray, List.set_cons_zero, List.set_cons_succ]
      refine wpAnyH_ready (rs := [1]) (by kernel_rfl) (by simp) ?_
      refine AllReadyH.cons (by (simp only [List.getElem?_toArray, List.getElem?_cons_succ, List.getElem?_cons_zero]; rfl)) (fun K hK => ?_) AllReadyH.nil
      go_simp
      (first | (go_at_call 7; (with_reducible refine (M1 _).mono ?_); rintro e w5 ⟨rfl, hb5⟩) | (go_at_call 7; (with_reducible refine (M2 _).mono ?_); rintro e w6 ⟨rfl, hb6⟩) | (go_at_call 17; (with_reducible refine (l12Wrap_ok (s - r) (by omega) (by omega) _).mono ?_); rintro e w7 ⟨rfl, rfl⟩))
      (try go_wp2_with fail)
      refine hK.out _ _ (by repeat (first | exact bw_refl _ | assumption | apply bw_alloc | apply bw_drew | apply bw_drewN | (refine bw_trans ?_ (by assumption)) | (refine bw_set ?_ (by simp only [go_sem]; omega) _))) (fun hHeld => ?_)
      clear hK K
      try simp only [Act.put, List.setIfInBounds_toArray, List.set_cons_zero, List.set_cons_succ]
      refine wpAnyH_ready (rs := [3]) (by kernel_rfl) (by simp) ?_
      refine AllReadyH.cons (by (simp only [List.getElem?_toArray, List.getElem?_cons_succ, List.getElem?_cons_zero]; rfl)) (fun K hK => ?_) AllReadyH.nil
      go_simp
      (first | (go_at_call 7; (with_reducible refine (M1 _).mono ?_); rintro e w5 ⟨rfl, hb5⟩) | (go_at_call 7; (with_reducible refine (M2 _).mono ?_); rintro e w6 ⟨rfl, hb6⟩) | (go_at_call 17; (with_reducible refine (l12Wrap_ok (s - r) (by omega) (by omega) _).mono ?_); rintro e w7 ⟨rfl, rfl⟩))
      (try go_wp2_with fail)
      refine hK.out _ _ (by repeat (first | exact bw_refl _ | assumption | apply bw_alloc | apply bw_drew | apply bw_drewN | (refine bw_trans ?_ (by assumption)) | (refine bw_set ?_ (by simp only [go_sem]; omega) _))) (fun hHeld => ?_)
      clear hK K
      try simp only [Act.put, List.setIfInBounds_toArray, List.set_cons_zero, List.set_cons_succ]
      refine wpAnyH_take (i := 4) (v := ?_) (by (simp only [List.getElem?_toArray, List.getElem?_cons_succ, List.getElem?_cons_zero]; rfl)) (by kernel_rfl) (by kernel_rfl) (by kernel_rfl) (by exact fun _ _ _ h => h) (Or.inl ⟨by rfl, ?_⟩) (by assumption) ?_
      rotate_left
      · (intro wS hS; clear hS; go_simp; try with_reducible rfl)
      try simp only [Act.put, List.setIfInBounds_toArray, List.set_cons_zero, List.set_cons_succ]
      refine wpAnyH_ready (rs := [5]) (by kernel_rfl) (by simp) ?_
      refine AllReadyH.cons (by (simp only [List.getElem?_toArray, List.getElem?_cons_succ, List.getElem?_cons_zero]; rfl)) (fun K hK => ?_) AllReadyH.nil
      go_simp
      (first | (go_at_call 7; (with_reducible refine (M1 _).mono ?_); rintro e w5 ⟨rfl, hb5⟩) | (go_at_call 7; (with_reducible refine (M2 _).mono ?_); rintro e w6 ⟨rfl, hb6⟩) | (go_at_call 17; (with_reducible refine (l12Wrap_ok (s - r) (by omega) (by omega) _).mono ?_); rintro e w7 ⟨rfl, rfl⟩))
      (try go_wp2_with fail)
      refine hK.out _ _ (by repeat (first | exact bw_refl _ | assumption | apply bw_alloc | apply bw_drew | apply bw_drewN | (refine bw_trans ?_ (by assumption)) | (refine bw_set ?_ (by simp only [go_sem]; omega) _))) (fun hHeld => ?_)
      clear hK K
      try simp only [Act.put, List.setIfInBounds_toArray, List.set_cons_zero, List.set_cons_succ]
      refine wpAnyH_take (i := 6) (v := ?_) (by (simp only [List.getElem?_toArray, List.getElem?_cons_succ, List.getElem?_cons_zero]; rfl)) (by kernel_rfl) (by kernel_rfl) (by kernel_rfl) (by exact fun _ _ _ h => h) (Or.inl ⟨by rfl, ?_⟩) (by assumption) ?_
      rotate_left
      · (intro wS hS; clear hS; go_simp; try with_reducible rfl)
      try simp only [Act.put, List.setIfInBounds_toArray, List.set_cons_zero, List.set_cons_succ]
      refine wpAnyH_done (by kernel_rfl) ?_ _
      go_wp2
      go_ret
      exact ⟨ret_int e0.out.symm, (by repeat (first | exact bw_refl _ | assumption | apply bw_alloc | apply bw_drew | apply bw_drewN | (refine bw_trans ?_ (by assumption)) | (refine bw_set ?_ (by simp only [go_sem]; omega) _)))⟩
theorem implBetw_any (X Y X2 Y2 : Int) (w : World) : Calls Try.prog 11 #[.agg #[.int .i64 X, .int .i64 Y], .agg #[.int .i64 X2, .int .i64 Y2]] w fun e w' => e = .returned (.int .i64 (betw X Y X2 Y2)) ∧ Below w.heap.size w w' := by
  have l0 := Blk.alloc (Blk.new w 25 #[.int .i64 X, .int .i64 Y]) (.cells #[.int .i64 X2, .int .i64 Y2] 25)
  have l1 := Blk.new (w.alloc (.cells #[.int .i64 X, .int .i64 Y] 25)) 25 #[.int .i64 X2, .int .i64 Y2]
  rw [World.size_alloc] at l1
  cases ha : vecB 1048576 X Y
  · have e0 : Hid (betw X Y X2 Y2 = -1) := by unfold Hid betw; rw [ha]; rfl
    go_enter Try.func11, Try.ntmps11
    go_wp2_with (go_at_call 19; refine (vwithin_any X Y _ (by decide) (by decide) _).mono ?_; rintro e w1 ⟨he, hb⟩; rw [ha] at he; subst he)
    go_ret
    exact ⟨ret_int e0.out.symm, (by repeat (first | exact bw_refl _ | assumption | apply bw_alloc | apply bw_drew | apply bw_drewN | (refine bw_trans ?_ (by assumption)) | (refine bw_set ?_ (by simp only [go_sem]; omega) _)))⟩
  · go_enter Try.func11, Try.ntmps11
    go_wp2_with fail
    refine (vwithin_any X Y _ (by decide) (by decide) _).mono ?_
    rintro e w1 ⟨he, hb⟩
    rw [ha] at he
    subst he
    replace l0 := l0.up hb
    replace l1 := l1.up hb
    have b1 : Below w.heap.size w w1 := (by repeat (first | exact bw_refl _ | assumption | apply bw_alloc | apply bw_drew | apply bw_drewN | (refine bw_trans ?_ (by assumption)) | (refine bw_set ?_ (by simp only [go_sem]; omega) _)))
    clear hb
    obtain ⟨c0, c1, -, -⟩ := l1.rd2
    cases hb2 : vecB 1048576 X2 Y2
    · have e0 : Hid (betw X Y X2 Y2 = -1) := by unfold Hid betw; rw [ha, hb2]; rfl
      go_wp2_with (go_at_call 19; refine (vwithin_any X2 Y2 _ (by decide) (by decide) _).mono ?_; rintro e w2 ⟨he, hb⟩; rw [hb2] at he; subst he)
      go_ret
      exact ⟨ret_int e0.out.symm, (by repeat (first | exact bw_refl _ | assumption | apply bw_alloc | apply bw_drew | apply bw_drewN | (refine bw_trans ?_ (by assumption)) | (refine bw_set ?_ (by simp only [go_sem]; omega) _)))⟩
    · have e0 : Hid (betw X Y X2 Y2 = (dirF X2 Y2 - dirF X Y) % 65536) := by unfold Hid betw; rw [ha, hb2]; rfl
      go_wp2_with fail
      refine (vwithin_any X2 Y2 _ (by decide) (by decide) _).mono ?_
      rintro e w2 ⟨he, hb⟩
      rw [hb2] at he
      subst he
      replace l0 := l0.up hb
      replace l1 := l1.up hb
      have b2 : Below w.heap.size w w2 := (by repeat (first | exact bw_refl _ | assumption | apply bw_alloc | apply bw_drew | apply bw_drewN | (refine bw_trans ?_ (by assumption)) | (refine bw_set ?_ (by simp only [go_sem]; omega) _)))
      clear hb b1 c0 c1
      have z0 := l0.lt
      have z1 := l1.lt
      obtain ⟨c0, c1, -, -⟩ := l0.rd2
      obtain ⟨c2, c3, -, -⟩ := l1.rd2
      have M1 := implDir_any X Y
      have M2 := implDir_any X2 Y2
      rw [dirT_in ha] at M1
      rw [dirT_in hb2] at M2
      have B1 := dirF_bd X Y
      have B2 := dirF_bd X2 Y2
      generalize dirF X Y = r at *
      generalize dirF X2 Y2 = s at *
      have w9 : IntKind.i64.wrap (s - r) = s - r := IntWalk.i64_in _ (by omega)
      go_wp2_with fail
      refine wp_region_below (by kernel_rfl) (fun wD hHeld => ?_)
      refine wpAnyH_take (i := 0) (v := ?_) (by (simp only [List.getElem?_toArray, List.getElem?_cons_zero]; rfl)) (by kernel_rfl) (by kernel_rfl) (by kernel_rfl) (by exact fun _ _ _ h => h) (Or.inl ⟨by rfl, ?_⟩) (by assumption) ?_
      rotate_left
      · (intro wS hS; have hSc := (bcell hS).1; clear hS; go_simp; try with_reducible rfl)
      try simp only [Act.put, List.setIfInBounds_toArray, List.set_cons_zero, List.set_cons_succ]
      refine wpAnyH_take (i := 2) (v := ?_) (by (simp only [List.getElem?_toArray, List.getElem?_cons_succ, List.getElem?_cons_zero]; rfl)) (by kernel_rfl) (by kernel_rfl) (by kernel_rfl) (by exact fun _ _ _ h => h) (Or.inl ⟨by rfl, ?_⟩) (by assumption) ?_
      rotate_left
      · (intro wS hS; have hSc := (bcell hS).1; clear hS; go_simp; try with_reducible rfl)
      try simp only [Act.put, List.setIfInBounds_toArray, List.set_cons_zero, List.set_cons_succ]
      refine wpAnyH_ready (rs := [1]) (by kernel_rfl) (by simp) ?_
      refine AllReadyH.cons (by (simp only [List.getElem?_toArray, List.getElem?_cons_succ, List.getElem?_cons_zero]; rfl)) (fun K hK => ?_) AllReadyH.nil
      go_simp
      (first | (go_at_call 9; (with_reducible refine (M1 _).mono ?_); rintro e w5 ⟨rfl, hb5⟩) | (go_at_call 9; (with_reducible refine (M2 _).mono ?_); rintro e w6 ⟨rfl, hb6⟩) | (go_at_call 14; (with_reducible refine (implWrap_ok (s - r) (by omega) (by omega) _).mono ?_); rintro e w7 ⟨rfl, rfl⟩))
      (try go_wp2_with fail)
      refine hK.out _ _ (by repeat (first | exact bw_refl _ | assumption | apply bw_alloc | apply bw_drew | apply bw_drewN | (refine bw_trans ?_ (by assumption)) | (refine bw_set ?_ (by simp only [go_sem]; omega) _))) (fun hHeld => ?_)
      clear hK K
      try simp only [Act.put, List.setIfInBounds_toArray, List.set_cons_zero, List.set_cons_succ]
      refine wpAnyH_ready (rs := [3]) (by kernel_rfl) (by simp) ?_
      refine AllReadyH.cons (by (simp only [List.getElem?_toArray, List.getElem?_cons_succ, List.getElem?_cons_zero]; rfl)) (fun K hK => ?_) AllReadyH.nil
      go_simp
      (first | (go_at_call 9; (with_reducible refine (M1 _).mono ?_); rintro e w5 ⟨rfl, hb5⟩) | (go_at_call 9; (with_reducible refine (M2 _).mono ?_); rintro e w6 ⟨rfl, hb6⟩) | (go_at_call 14; (with_reducible refine (implWrap_ok (s - r) (by omega) (by omega) _).mono ?_); rintro e w7 ⟨rfl, rfl⟩))
      (try go_wp2_with fail)
      refine hK.out _ _ (by repeat (first | exact bw_refl _ | assumption | apply bw_alloc | apply bw_drew | apply bw_drewN | (refine bw_trans ?_ (by assumption)) | (refine bw_set ?_ (by simp only [go_sem]; omega) _))) (fun hHeld => ?_)
      clear hK K
      try simp only [Act.put, List.setIfInBounds_toArray, List.set_cons_zero, List.set_cons_succ]
      refine wpAnyH_take (i := 4) (v := ?_) (by (simp only [List.getElem?_toArray, List.getElem?_cons_succ, List.getElem?_cons_zero]; rfl)) (by kernel_rfl) (by kernel_rfl) (by kernel_rfl) (by exact fun _ _ _ h => h) (Or.inl ⟨by rfl, ?_⟩) (by assumption) ?_
      rotate_left
      · (intro wS hS; clear hS; go_simp; try with_reducible rfl)
      try simp only [Act.put, List.setIfInBounds_toArray, List.set_cons_zero, List.set_cons_succ]
      refine wpAnyH_ready (rs := [5]) (by kernel_rfl) (by simp) ?_
      refine AllReadyH.cons (by (simp only [List.getElem?_toArray, List.getElem?_cons_succ, List.getElem?_cons_zero]; rfl)) (fun K hK => ?_) AllReadyH.nil
      go_simp
      (first | (go_at_call 9; (with_reducible refine (M1 _).mono ?_); rintro e w5 ⟨rfl, hb5⟩) | (go_at_call 9; (with_reducible refine (M2 _).mono ?_); rintro e w6 ⟨rfl, hb6⟩) | (go_at_call 14; (with_reducible refine (implWrap_ok (s - r) (by omega) (by omega) _).mono ?_); rintro e w7 ⟨rfl, rfl⟩))
      (try go_wp2_with fail)
      refine hK.out _ _ (by repeat (first | exact bw_refl _ | assumption | apply bw_alloc | apply bw_drew | apply bw_drewN | (refine bw_trans ?_ (by assumption)) | (refine bw_set ?_ (by simp only [go_sem]; omega) _))) (fun hHeld => ?_)
      clear hK K
      try simp only [Act.put, List.setIfInBounds_toArray, List.set_cons_zero, List.set_cons_succ]
      refine wpAnyH_take (i := 6) (v := ?_) (by (simp only [List.getElem?_toArray, List.getElem?_cons_succ, List.getElem?_cons_zero]; rfl)) (by kernel_rfl) (by kernel_rfl) (by kernel_rfl) (by exact fun _ _ _ h => h) (Or.inl ⟨by rfl, ?_⟩) (by assumption) ?_
      rotate_left
      · (intro wS hS; clear hS; go_simp; try with_reducible rfl)
      try simp only [Act.put, List.setIfInBounds_toArray, List.set_cons_zero, List.set_cons_succ]
      refine wpAnyH_done (by kernel_rfl) ?_ _
      go_wp2
      go_ret
      exact ⟨ret_int e0.out.symm, (by repeat (first | exact bw_refl _ | assumption | apply bw_alloc | apply bw_drew | apply bw_drewN | (refine bw_trans ?_ (by assumption)) | (refine bw_set ?_ (by simp only [go_sem]; omega) _)))⟩
theorem walk_FnExactDirectionOf (X Y : Int) (w : World) (_ : (Lit.int .i64 X).wf = true) (_ : (Lit.int .i64 Y).wf = true) :
    Calls Try.prog 3 #[.agg #[.int .i64 X, .int .i64 Y]] w fun e w' => e = .returned (.bool true) ∧ Below w.heap.size w w' := by
  go_enter Try.func3, Try.ntmps3
  go_wp2_with (first
    | (go_at_call 8; refine (toVector_any _ _ _).mono ?_; rintro e w1 ⟨rfl, hb⟩; (first | (have hq := bcomp hc hf hz hb; clear hc hf hz; obtain ⟨hc, hf, hz⟩ := hq) | (obtain ⟨hc, hf⟩ := bcell hb; have hz := bsize hb)))
    | (go_at_call 7; refine (specDir_any _ _ _).mono ?_; rintro e w1 ⟨rfl, hb⟩; (first | (have hq := bcomp hc hf hz hb; clear hc hf hz; obtain ⟨hc, hf, hz⟩ := hq) | (obtain ⟨hc, hf⟩ := bcell hb; have hz := bsize hb)))
    | (go_at_call 9; refine (implDir_any _ _ _).mono ?_; rintro e w1 ⟨rfl, hb⟩; (first | (have hq := bcomp hc hf hz hb; clear hc hf hz; obtain ⟨hc, hf, hz⟩ := hq) | (obtain ⟨hc, hf⟩ := bcell hb; have hz := bsize hb))))
  go_ret
  exact ⟨ret_bool (by simp), (by repeat (first | exact bw_refl _ | assumption | apply bw_alloc | apply bw_drew | apply bw_drewN | (refine bw_trans ?_ (by assumption)) | (refine bw_set ?_ (by simp only [go_sem]; omega) _)))⟩
theorem walk_FnExactBetweenOf (X Y X2 Y2 : Int) (w : World) (_ : (Lit.int .i64 X).wf = true) (_ : (Lit.int .i64 Y).wf = true) (_ : (Lit.int .i64 X2).wf = true) (_ : (Lit.int .i64 Y2).wf = true) :
    Calls Try.prog 4 #[.agg #[.int .i64 X, .int .i64 Y], .agg #[.int .i64 X2, .int .i64 Y2]] w fun e w' => e = .returned (.bool true) ∧ Below w.heap.size w w' := by
  go_enter Try.func4, Try.ntmps4
  go_upto_region 1 with fail
  go_cut [5] (fun s wx => s = .int .i64 (betw X Y X2 Y2) ∧ Below (w.heap.size + 2) ((w.alloc (.cells #[.int .i64 X, .int .i64 Y] 23)).alloc (.cells #[.int .i64 X2, .int .i64 Y2] 23)) wx)
  case first =>
    refine wp_region_below (by kernel_rfl) (fun wD hHeld => ?_)
    refine wpAnyH_take (i := 0) (v := ?_) (by (simp only [List.getElem?_toArray, List.getElem?_cons_zero]; rfl)) (by kernel_rfl) (by kernel_rfl) (by kernel_rfl) (by exact fun _ _ _ h => h) (Or.inl ⟨by rfl, ?_⟩) (by assumption) ?_
    rotate_left
    · (intro wS hS; have hSc := (bcell hS).1; clear hS; go_simp; try with_reducible rfl)
    try simp only [Act.put, List.setIfInBounds_toArray, List.set_cons_zero, List.set_cons_succ]
    refine wpAnyH_take (i := 2) (v := ?_) (by (simp only [List.getElem?_toArray, List.getElem?_cons_succ, List.getElem?_cons_zero]; rfl)) (by kernel_rfl) (by kernel_rfl) (by kernel_rfl) (by exact fun _ _ _ h => h) (Or.inl ⟨by rfl, ?_⟩) (by assumption) ?_
    rotate_left
    · (intro wS hS; have hSc := (bcell hS).1; clear hS; go_simp; try with_reducible rfl)
    try simp only [Act.put, List.setIfInBounds_toArray, List.set_cons_zero, List.set_cons_succ]
    refine wpAnyH_ready (rs := [1]) (by kernel_rfl) (by simp) ?_
    refine AllReadyH.cons (by (simp only [List.getElem?_toArray, List.getElem?_cons_succ, List.getElem?_cons_zero]; rfl)) (fun K hK => ?_) AllReadyH.nil
    go_simp
    ((first | (go_at_call 8; refine (toVector_any _ _ _).mono ?_; rintro e w1 ⟨rfl, hb⟩) | (go_at_call 10; refine (specBetw_any X Y X2 Y2 _).mono ?_; rintro e w1 ⟨rfl, hb⟩)))
    (try go_wp2_with fail)
    refine hK.out _ _ (by repeat (first | exact bw_refl _ | assumption | apply bw_alloc | apply bw_drew | apply bw_drewN | (refine bw_trans ?_ (by assumption)) | (refine bw_set ?_ (by simp only [go_sem]; omega) _))) (fun hHeld => ?_)
    clear hK K
    try simp only [Act.put, List.setIfInBounds_toArray, List.set_cons_zero, List.set_cons_succ]
    refine wpAnyH_ready (rs := [3]) (by kernel_rfl) (by simp) ?_
    refine AllReadyH.cons (by (simp only [List.getElem?_toArray, List.getElem?_cons_succ, List.getElem?_cons_zero]; rfl)) (fun K hK => ?_) AllReadyH.nil
    go_simp
    ((first | (go_at_call 8; refine (toVector_any _ _ _).mono ?_; rintro e w1 ⟨rfl, hb⟩) | (go_at_call 10; refine (specBetw_any X Y X2 Y2 _).mono ?_; rintro e w1 ⟨rfl, hb⟩)))
    (try go_wp2_with fail)
    refine hK.out _ _ (by repeat (first | exact bw_refl _ | assumption | apply bw_alloc | apply bw_drew | apply bw_drewN | (refine bw_trans ?_ (by assumption)) | (refine bw_set ?_ (by simp only [go_sem]; omega) _))) (fun hHeld => ?_)
    clear hK K
    try simp only [Act.put, List.setIfInBounds_toArray, List.set_cons_zero, List.set_cons_succ]
    refine wpAnyH_ready (rs := [4]) (by kernel_rfl) (by simp) ?_
    refine AllReadyH.cons (by (simp only [List.getElem?_toArray, List.getElem?_cons_succ, List.getElem?_cons_zero]; rfl)) (fun K hK => ?_) AllReadyH.nil
    go_simp
    ((first | (go_at_call 8; refine (toVector_any _ _ _).mono ?_; rintro e w1 ⟨rfl, hb⟩) | (go_at_call 10; refine (specBetw_any X Y X2 Y2 _).mono ?_; rintro e w1 ⟨rfl, hb⟩)))
    (try go_wp2_with fail)
    refine hK.out _ _ (by repeat (first | exact bw_refl _ | assumption | apply bw_alloc | apply bw_drew | apply bw_drewN | (refine bw_trans ?_ (by assumption)) | (refine bw_set ?_ (by simp only [go_sem]; omega) _))) (fun hHeld => ?_)
    clear hK K
    try simp only [Act.put, List.setIfInBounds_toArray, List.set_cons_zero, List.set_cons_succ]
    refine wpAnyH_take (i := 5) (v := ?_) (by (simp only [List.getElem?_toArray, List.getElem?_cons_succ, List.getElem?_cons_zero]; rfl)) (by kernel_rfl) (by kernel_rfl) (by kernel_rfl) (by exact fun _ _ _ h => h) (Or.inl ⟨by rfl, ?_⟩) (by assumption) ?_
    rotate_left
    · (intro wS hS; clear hS; go_simp; try with_reducible rfl)
    try simp only [Act.put, List.setIfInBounds_toArray, List.set_cons_zero, List.set_cons_succ]
    refine wpAnyH_done (by kernel_rfl) ?_ _
    go_wp2_with fail
    go_meet
    exact ⟨rfl, hHeld.mono (by simp)⟩
  case rest =>
    obtain ⟨rfl, hb⟩ := hcut
    have s1 : wc.cell? ⟨w.heap.size, 0, none⟩ = some (.int .i64 X) := (hb.cell (by simp)).trans (by go_simp)
    have s2 : wc.cell? ⟨w.heap.size, 1, none⟩ = some (.int .i64 Y) := (hb.cell (by simp)).trans (by go_simp)
    have s3 : wc.cell? ⟨w.heap.size + 1, 0, none⟩ = some (.int .i64 X2) := (hb.cell (by simp)).trans (by go_simp)
    have s4 : wc.cell? ⟨w.heap.size + 1, 1, none⟩ = some (.int .i64 Y2) := (hb.cell (by simp)).trans (by go_simp)
    have hw : Below w.heap.size w wc := Below.trans (bw_alloc (bw_alloc (bw_refl w) _) _) (hb.mono (by omega))
    have z0 : w.heap.size < wc.heap.size := World.block_lt_of_cell? _ _ s1
    have z1 : w.heap.size + 1 < wc.heap.size := World.block_lt_of_cell? _ _ s3
    go_upto_region 2 with fail
    go_cut [6] (fun s wx => s = .int .i64 (betw X Y X2 Y2) ∧ Below wc.heap.size wc wx)
    case first =>
      refine wp_region_below (by kernel_rfl) (fun wD hHeld => ?_)
      refine wpAnyH_take (i := 0) (v := ?_) (by (simp only [List.getElem?_toArray, List.getElem?_cons_zero]; rfl)) (by kernel_rfl) (by kernel_rfl) (by kernel_rfl) (by exact fun _ _ _ h => h) (Or.inl ⟨by rfl, ?_⟩) (by assumption) ?_
      rotate_left
      · (intro wS hS; have hSc := (bcell hS).1; clear hS; go_simp; try with_reducible rfl)
      try simp only [Act.put, List.setIfInBounds_toArray, List.set_cons_zero, List.set_cons_succ]
      refine wpAnyH_take (i := 2) (v := ?_) (by (simp only [List.getElem?_toArray, List.getElem?_cons_succ, List.getElem?_cons_zero]; rfl)) (by kernel_rfl) (by kernel_rfl) (by kernel_rfl) (by exact fun _ _ _ h => h) (Or.inl ⟨by rfl, ?_⟩) (by assumption) ?_
      rotate_left
      · (intro wS hS; have hSc := (bcell hS).1; clear hS; go_simp; try with_reducible rfl)
      try simp only [Act.put, List.setIfInBounds_toArray, List.set_cons_zero, List.set_cons_succ]
      refine wpAnyH_ready (rs := [1]) (by kernel_rfl) (by simp) ?_
      refine AllReadyH.cons (by (simp only [List.getElem?_toArray, List.getElem?_cons_succ, List.getElem?_cons_zero]; rfl)) (fun K hK => ?_) AllReadyH.nil
      go_simp
      ((first | (go_at_call 8; refine (toVector_any _ _ _).mono ?_; rintro e w1 ⟨rfl, hb⟩) | (go_at_call 11; refine (implBetw_any X Y X2 Y2 _).mono ?_; rintro e w1 ⟨rfl, hb⟩)))
      (try go_wp2_with fail)
      refine hK.out _ _ (by repeat (first | exact bw_refl _ | assumption | apply bw_alloc | apply bw_drew | apply bw_drewN | (refine bw_trans ?_ (by assumption)) | (refine bw_set ?_ (by simp only [go_sem]; omega) _))) (fun hHeld => ?_)
      clear hK K
      try simp only [Act.put, List.setIfInBounds_toArray, List.set_cons_zero, List.set_cons_succ]
      refine wpAnyH_ready (rs := [3]) (by kernel_rfl) (by simp) ?_
      refine AllReadyH.cons (by (simp only [List.getElem?_toArray, List.getElem?_cons_succ, List.getElem?_cons_zero]; rfl)) (fun K hK => ?_) AllReadyH.nil
      go_simp
      ((first | (go_at_call 8; refine (toVector_any _ _ _).mono ?_; rintro e w1 ⟨rfl, hb⟩) | (go_at_call 11; refine (implBetw_any X Y X2 Y2 _).mono ?_; rintro e w1 ⟨rfl, hb⟩)))
      (try go_wp2_with fail)
      refine hK.out _ _ (by repeat (first | exact bw_refl _ | assumption | apply bw_alloc | apply bw_drew | apply bw_drewN | (refine bw_trans ?_ (by assumption)) | (refine bw_set ?_ (by simp only [go_sem]; omega) _))) (fun hHeld => ?_)
      clear hK K
      try simp only [Act.put, List.setIfInBounds_toArray, List.set_cons_zero, List.set_cons_succ]
      refine wpAnyH_ready (rs := [4]) (by kernel_rfl) (by simp) ?_
      refine AllReadyH.cons (by (simp only [List.getElem?_toArray, List.getElem?_cons_succ, List.getElem?_cons_zero]; rfl)) (fun K hK => ?_) AllReadyH.nil
      go_simp
      ((first | (go_at_call 8; refine (toVector_any _ _ _).mono ?_; rintro e w1 ⟨rfl, hb⟩) | (go_at_call 11; refine (implBetw_any X Y X2 Y2 _).mono ?_; rintro e w1 ⟨rfl, hb⟩)))
      (try go_wp2_with fail)
      refine hK.out _ _ (by repeat (first | exact bw_refl _ | assumption | apply bw_alloc | apply bw_drew | apply bw_drewN | (refine bw_trans ?_ (by assumption)) | (refine bw_set ?_ (by simp only [go_sem]; omega) _))) (fun hHeld => ?_)
      clear hK K
      try simp only [Act.put, List.setIfInBounds_toArray, List.set_cons_zero, List.set_cons_succ]
      refine wpAnyH_take (i := 5) (v := ?_) (by (simp only [List.getElem?_toArray, List.getElem?_cons_succ, List.getElem?_cons_zero]; rfl)) (by kernel_rfl) (by kernel_rfl) (by kernel_rfl) (by exact fun _ _ _ h => h) (Or.inl ⟨by rfl, ?_⟩) (by assumption) ?_
      rotate_left
      · (intro wS hS; clear hS; go_simp; try with_reducible rfl)
      try simp only [Act.put, List.setIfInBounds_toArray, List.set_cons_zero, List.set_cons_succ]
      refine wpAnyH_done (by kernel_rfl) ?_ _
      go_wp2_with fail
      go_meet
      exact ⟨rfl, hHeld⟩
    case rest =>
      obtain ⟨rfl, hb'⟩ := hcut
      go_wp2
      go_ret
      exact ⟨rfl, (by repeat (first | exact bw_refl _ | assumption | apply bw_alloc | apply bw_drew | apply bw_drewN | (refine bw_trans ?_ (by assumption)) | (refine bw_set ?_ (by simp only [go_sem]; omega) _)))⟩
end Go.Proofs.Ytocbbfogaafbiaa
