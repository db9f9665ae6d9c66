/- Contracts of MulStored and AddStored, of the program's and the reference's; no condition. -/
import Derived.Test.YtdnklndemoinaaaFmt
namespace Go.Proofs.Ytdnklndemoinaaa
open Go.RowKit
set_option linter.unusedVariables false
set_option linter.unusedSimpArgs false
set_option maxHeartbeats 1000000

theorem sfits_bd (W P n : Int) (h : fitsB W P n = true) : -268435456 ≤ n ∧ n ≤ 268435456 := by
  unfold fitsB at h
  rw [Bool.and_eq_true] at h
  obtain ⟨⟨a1, a2⟩, a3, a4⟩ := (fmtB_iff W P).1 h.1
  have := pw_bd W P a1 a2 a3 a4
  have := (inB_iff _ _ _).1 h.2
  omega
theorem sfits_fmt (W P n : Int) (h : fitsB W P n = true) : fmtB W P = true := by
  unfold fitsB at h
  rw [Bool.and_eq_true] at h
  exact h.1
theorem sboth_any (W P a b : Int) (w : World) : Calls Try.prog 50 #[.agg #[.int .i64 W, .int .i64 P], .int .i64 a, .int .i64 b] w fun e w' => e = .returned (.bool (fitsB W P a && fitsB W P b)) ∧ Below w.heap.size w w' := by
  cases ha : fitsB W P a
  all_goals
    go_enter Try.func50, Try.ntmps50
    go_wp2_with (go_at_call 34; refine (specStoredFits_any _ _ _ _).mono ?_; rintro e w1 ⟨rfl, hb⟩; (first | (have hq := bcomp hc hf hz hb; clear hc hf hz; obtain ⟨hc, hf, hz⟩ := hq) | (obtain ⟨hc, hf⟩ := bcell hb; have hz := bsize hb)))
    go_ret
    exact ⟨ret_bool (by first | rfl | (simp; done) | (simp <;> omega) | (simp [*] <;> omega) | (rw [Bool.eq_iff_iff]; simp [inB] <;> omega)), (by repeat (first | exact bw_refl _ | assumption | apply bw_alloc | apply bw_drew | apply bw_drewN | (refine bw_trans ?_ (by assumption)) | (refine bw_set ?_ (by simp only [go_sem]; omega) _)))⟩
/-- What is stored of a number. -/
def putV (W P a b r : Int) : Int := if (fitsB W P a && fitsB W P b) = true then cutF W P r else 0
def putB (W P a b r : Int) : Bool := (fitsB W P a && fitsB W P b) && cutF W P r == r
theorem sfour {W P n : Int} (h : fmtB W P = true) : 1 ≤ W ∧ W ≤ 12 ∧ 0 ≤ P ∧ P ≤ 16 := by
  obtain ⟨⟨a, b⟩, c, d⟩ := (fmtB_iff W P).1 h; exact ⟨a, b, c, d⟩
theorem cutFix {W P r : Int} (h : fmtB W P = true) : cutFv W P r = cutF W P r ∧ cutFb W P r = (cutF W P r == r) := by
  unfold cutFv cutFb; rw [h]; exact ⟨rfl, rfl⟩
theorem p216 (P : Int) (h2 : 0 ≤ P) (h3 : P ≤ 16) : 1 ≤ (2 : Int) ^ P.toNat ∧ (2 : Int) ^ P.toNat ≤ 65536 := by
  have := pow2_bd P.toNat 16 (by omega)
  have d : (2 : Int) ^ 16 = 65536 := by decide
  omega
theorem closMulStored (a b W P : Int) (g : Nat) (a0 : -268435456 ≤ a) (a1 : a ≤ 268435456) (b0 : -268435456 ≤ b) (b1 : b ≤ 268435456) (h2 : 0 ≤ P) (h3 : P ≤ 16) (w : World) (hg : w.cell? ⟨g, 1, none⟩ = some (.int .i64 P)) :
    Calls Try.prog 54 #[.int .i64 a, .int .i64 b, .pointer (some ⟨g, 0, none⟩)] w fun e w' => e = .returned (.int .i64 (rdiv (a * b) (2 ^ P.toNat))) ∧ w = w' := by
  have hm := mul_bd a b 268435456 268435456 (by omega) (by omega) a0 a1 b0 b1
  obtain ⟨m0', m1'⟩ := hm
  have m0 : -72057594037927936 ≤ a * b := by omega
  have m1 : a * b ≤ 72057594037927936 := by omega
  clear m0' m1'
  go_enter Try.func54, Try.ntmps54
  go_wp2_with (go_at_call 55; refine (implRoundShift_ok (a * b) P h2 (by omega) (by omega) (by omega) _).mono ?_; rintro e w' ⟨rfl, rfl⟩)
  go_ret
  exact ⟨rfl, rfl⟩
theorem joinMulStored (W P a b : Int) (g : Nat) (w : World) (hg : w.cell? ⟨g, 1, none⟩ = some (.int .i64 P)) (hgl : g < w.heap.size) :
    Calls Try.prog 53 #[.agg #[.int .i64 W, .int .i64 P, .int .i64 a], .int .i64 b, .func (.func 54) #[] #[.pointer (some ⟨g, 0, none⟩)]] w fun e w' => e = .returned (.tuple #[.int .i64 (putV W P a b (rdiv (a * b) (2 ^ P.toNat))), .bool (putB W P a b (rdiv (a * b) (2 ^ P.toNat)))]) ∧ Below w.heap.size w w' := by
  cases ha : fitsB W P a
  · have E : Hid (putV W P a b (rdiv (a * b) (2 ^ P.toNat)) = 0 ∧ putB W P a b (rdiv (a * b) (2 ^ P.toNat)) = false) := by unfold Hid putV putB; rw [ha]; exact ⟨rfl, rfl⟩
    have HA := Lib.hid ha
    clear ha
    go_enter Try.func53, Try.ntmps53
    go_wp2_with (go_at_call 31; refine (implStoredFits_any _ _ _ _).mono ?_; rintro e w1 ⟨he, hb⟩; rw [HA.out] at he; subst he; have hcc := bcell hb; obtain ⟨hc, hf⟩ := hcc; have hz := bsize hb)
    go_ret2
    refine ⟨?_, (by repeat (first | exact bw_refl _ | assumption | apply bw_alloc | apply bw_drew | apply bw_drewN | (refine bw_trans ?_ (by assumption)) | (refine bw_set ?_ (by simp only [go_sem]; omega) _)))⟩
    rw [E.out.1, E.out.2]; rfl
  · cases hb0 : fitsB W P b
    · have E : Hid (putV W P a b (rdiv (a * b) (2 ^ P.toNat)) = 0 ∧ putB W P a b (rdiv (a * b) (2 ^ P.toNat)) = false) := by unfold Hid putV putB; rw [ha, hb0]; exact ⟨rfl, rfl⟩
      have HA := Lib.hid ha
      have HB := Lib.hid hb0
      clear ha hb0
      go_enter Try.func53, Try.ntmps53
      go_wp2_with (go_at_call 31; refine (implStoredFits_any _ _ _ _).mono ?_; rintro e w1 ⟨he, hb⟩; (first | rw [HA.out] at he | rw [HB.out] at he); subst he; (first | (have hq := bcomp hc hf hz hb; clear hc hf hz; obtain ⟨hc, hf, hz⟩ := hq) | (obtain ⟨hc, hf⟩ := bcell hb; have hz := bsize hb)))
      go_ret2
      refine ⟨?_, (by repeat (first | exact bw_refl _ | assumption | apply bw_alloc | apply bw_drew | apply bw_drewN | (refine bw_trans ?_ (by assumption)) | (refine bw_set ?_ (by simp only [go_sem]; omega) _)))⟩
      rw [E.out.1, E.out.2]; rfl
    · have E : Hid (putV W P a b (rdiv (a * b) (2 ^ P.toNat)) = cutF W P (rdiv (a * b) (2 ^ P.toNat)) ∧ putB W P a b (rdiv (a * b) (2 ^ P.toNat)) = (cutF W P (rdiv (a * b) (2 ^ P.toNat)) == (rdiv (a * b) (2 ^ P.toNat)))) := by unfold Hid putV putB; rw [ha, hb0]; exact ⟨rfl, rfl⟩
      have hfm := sfits_fmt W P a ha
      obtain ⟨a0, a1⟩ := sfits_bd W P a ha
      obtain ⟨b0, b1⟩ := sfits_bd W P b hb0
      obtain ⟨h0, h1, h2, h3⟩ := sfour (n := 0) hfm
      have HC := Lib.hid (cutFix (r := rdiv (a * b) (2 ^ P.toNat)) hfm)
      have HA := Lib.hid ha
      have HB := Lib.hid hb0
      clear ha hb0 hfm
      obtain ⟨r, hr⟩ : ∃ r, rdiv (a * b) (2 ^ P.toNat) = r := ⟨_, rfl⟩
      have HR := Lib.hid hr
      rw [hr] at E HC ⊢
      clear hr
      go_enter Try.func53, Try.ntmps53
      go_upto_region 1 with fail
      go_cut [3, 20] (fun s t wx => s = .pointer (some ⟨w.heap.size, 0, none⟩) ∧ t = .bool false ∧ Below (w.alloc (.cells #[.int .i64 W, .int .i64 P, .int .i64 a] 60)).heap.size (w.alloc (.cells #[.int .i64 W, .int .i64 P, .int .i64 a] 60)) wx)
      case first =>
        go_wp2_with (go_at_call 31; refine (implStoredFits_any _ _ _ _).mono ?_; rintro e w1 ⟨he, hb⟩; (first | rw [HA.out] at he | rw [HB.out] at he); subst he; (first | (have hq := bcomp hc hf hz hb; clear hc hf hz; obtain ⟨hc, hf, hz⟩ := hq) | (obtain ⟨hc, hf⟩ := bcell hb; have hz := bsize hb)))
        go_meet
        exact ⟨rfl, by simp, (by repeat (first | exact bw_refl _ | assumption | apply bw_alloc | apply bw_drew | apply bw_drewN | (refine bw_trans ?_ (by assumption)) | (refine bw_set ?_ (by simp only [go_sem]; omega) _)))⟩
      case rest =>
        obtain ⟨rfl, rfl, hbk⟩ := hcut
        have hnew := heap_keep hbk (heap_alloc_new w (.cells #[.int .i64 W, .int .i64 P, .int .i64 a] 60))
        have q0 : wc.cell? ⟨w.heap.size, 0, none⟩ = some (.int .i64 W) := cell_of_row wc _ 0 _ _ (0, 0) hnew
        have q1 : wc.cell? ⟨w.heap.size, 1, none⟩ = some (.int .i64 P) := cell_of_row wc _ 1 _ _ (0, 0) hnew
        have q2 : wc.cell? ⟨w.heap.size, 2, none⟩ = some (.int .i64 a) := cell_of_row wc _ 2 _ _ (0, 0) hnew
        have hbw : Below w.heap.size w wc := Below.trans (bw_alloc (bw_refl w) _) (hbk.mono (by rw [World.size_alloc]; exact Nat.le_succ _))
        have hgc : wc.cell? ⟨g, 1, none⟩ = some (.int .i64 P) := (hbw.cell (p := ⟨g, 1, none⟩) hgl).trans hg
        have z0 : w.heap.size < wc.heap.size := World.block_lt_of_cell? _ _ q0
        clear hnew hbk
        go_upto_region 3 with fail
        refine wp_region_below (by kernel_rfl) (fun wD hHeld => ?_)
        refine wpAnyH_take (i := 0) (v := ?_) (by (simp only [List.getElem?_toArray, List.getElem?_cons_zero]; rfl)) (by kernel_rfl) (by kernel_rfl) (by kernel_rfl) (by exact fun _ _ _ h => h) (Or.inl ⟨by rfl, ?_⟩) (by assumption) ?_
        rotate_left
        · (intro wS hS; clear hS; go_simp; try with_reducible rfl)
        try simp only [Act.put, List.setIfInBounds_toArray, List.set_cons_zero, List.set_cons_succ]
        refine wpAnyH_take (i := 1) (v := ?_) (by (simp only [List.getElem?_toArray, List.getElem?_cons_succ, List.getElem?_cons_zero]; rfl)) (by kernel_rfl) (by kernel_rfl) (by kernel_rfl) (by exact fun _ _ _ h => h) (Or.inl ⟨by rfl, ?_⟩) (by assumption) ?_
        rotate_left
        · (intro wS hS; have hSc := (bcell hS).1; clear hS; go_simp; try with_reducible rfl)
        try simp only [Act.put, List.setIfInBounds_toArray, List.set_cons_zero, List.set_cons_succ]
        refine wpAnyH_take (i := 2) (v := ?_) (by (simp only [List.getElem?_toArray, List.getElem?_cons_succ, List.getElem?_cons_zero]; rfl)) (by kernel_rfl) (by kernel_rfl) (by kernel_rfl) (by exact fun _ _ _ h => h) (Or.inl ⟨by rfl, ?_⟩) (by assumption) ?_
        rotate_left
        · (intro wS hS; clear hS; go_simp; try with_reducible rfl)
        try simp only [Act.put, List.setIfInBounds_toArray, List.set_cons_zero, List.set_cons_succ]
        refine wpAnyH_take (i := 3) (v := ?_) (by (simp only [List.getElem?_toArray, List.getElem?_cons_succ, List.getElem?_cons_zero]; rfl)) (by kernel_rfl) (by kernel_rfl) (by kernel_rfl) (by exact fun _ _ _ h => h) (Or.inl ⟨by rfl, ?_⟩) (by assumption) ?_
        rotate_left
        · (intro wS hS; clear hS; go_simp; try with_reducible rfl)
        try simp only [Act.put, List.setIfInBounds_toArray, List.set_cons_zero, List.set_cons_succ]
        refine wpAnyH_take (i := 4) (v := ?_) (by (simp only [List.getElem?_toArray, List.getElem?_cons_succ, List.getElem?_cons_zero]; rfl)) (by kernel_rfl) (by kernel_rfl) (by kernel_rfl) (by exact fun _ _ _ h => h) (Or.inl ⟨by rfl, ?_⟩) (by assumption) ?_
        rotate_left
        · (intro wS hS; have hSc := (bcell hS).1; clear hS; go_simp; try with_reducible rfl)
        try simp only [Act.put, List.setIfInBounds_toArray, List.set_cons_zero, List.set_cons_succ]
        refine wpAnyH_take (i := 5) (v := ?_) (by (simp only [List.getElem?_toArray, List.getElem?_cons_succ, List.getElem?_cons_zero]; rfl)) (by kernel_rfl) (by kernel_rfl) (by kernel_rfl) (by exact fun _ _ _ h => h) (Or.inl ⟨by rfl, ?_⟩) (by assumption) ?_
        rotate_left
        · (intro wS hS; clear hS; go_simp; try with_reducible rfl)
        try simp only [Act.put, List.setIfInBounds_toArray, List.set_cons_zero, List.set_cons_succ]
        refine wpAnyH_ready (rs := [6]) (by kernel_rfl) (by simp) ?_
        refine AllReadyH.cons (by (simp only [List.getElem?_toArray, List.getElem?_cons_succ, List.getElem?_cons_zero]; rfl)) (fun K hK => ?_) AllReadyH.nil
        go_simp
        ((first | (go_at_call 54; refine (closMulStored a b W P g a0 a1 b0 b1 h2 h3 _ (cell_keep hHeld hgc)).mono ?_; rintro e w1 ⟨he, rfl⟩; rw [HR.out] at he; subst he) | (go_at_call 60; refine (implCutStored_any W P r _).mono ?_; rintro e w1 ⟨he, hb⟩; rw [HC.out.1, HC.out.2] at he; subst he)))
        (try go_wp2_with fail)
        refine hK.out _ _ (by repeat (first | exact bw_refl _ | assumption | apply bw_alloc | apply bw_drew | apply bw_drewN | (refine bw_trans ?_ (by assumption)) | (refine bw_set ?_ (by simp only [go_sem]; omega) _))) (fun hHeld => ?_)
        clear hK K
        try simp only [Act.put, List.setIfInBounds_toArray, List.set_cons_zero, List.set_cons_succ]
        refine wpAnyH_ready (rs := [7]) (by kernel_rfl) (by simp) ?_
        refine AllReadyH.cons (by (simp only [List.getElem?_toArray, List.getElem?_cons_succ, List.getElem?_cons_zero]; rfl)) (fun K hK => ?_) AllReadyH.nil
        go_simp
        ((first | (go_at_call 54; refine (closMulStored a b W P g a0 a1 b0 b1 h2 h3 _ (cell_keep hHeld hgc)).mono ?_; rintro e w1 ⟨he, rfl⟩; rw [HR.out] at he; subst he) | (go_at_call 60; refine (implCutStored_any W P r _).mono ?_; rintro e w1 ⟨he, hb⟩; rw [HC.out.1, HC.out.2] at he; subst he)))
        (try go_wp2_with fail)
        refine hK.out _ _ (by repeat (first | exact bw_refl _ | assumption | apply bw_alloc | apply bw_drew | apply bw_drewN | (refine bw_trans ?_ (by assumption)) | (refine bw_set ?_ (by simp only [go_sem]; omega) _))) (fun hHeld => ?_)
        clear hK K
        try simp only [Act.put, List.setIfInBounds_toArray, List.set_cons_zero, List.set_cons_succ]
        refine wpAnyH_take (i := 8) (v := ?_) (by (simp only [List.getElem?_toArray, List.getElem?_cons_succ, List.getElem?_cons_zero]; rfl)) (by kernel_rfl) (by kernel_rfl) (by kernel_rfl) (by exact fun _ _ _ h => h) (Or.inl ⟨by rfl, ?_⟩) (by assumption) ?_
        rotate_left
        · (intro wS hS; clear hS; go_simp; try with_reducible rfl)
        try simp only [Act.put, List.setIfInBounds_toArray, List.set_cons_zero, List.set_cons_succ]
        refine wpAnyH_take (i := 9) (v := ?_) (by (simp only [List.getElem?_toArray, List.getElem?_cons_succ, List.getElem?_cons_zero]; rfl)) (by kernel_rfl) (by kernel_rfl) (by kernel_rfl) (by exact fun _ _ _ h => h) (Or.inl ⟨by rfl, ?_⟩) (by assumption) ?_
        rotate_left
        · (intro wS hS; clear hS; go_simp; try with_reducible rfl)
        try simp only [Act.put, List.setIfInBounds_toArray, List.set_cons_zero, List.set_cons_succ]
        refine wpAnyH_take (i := 10) (v := ?_) (by (simp only [List.getElem?_toArray, List.getElem?_cons_succ, List.getElem?_cons_zero]; rfl)) (by kernel_rfl) (by kernel_rfl) (by kernel_rfl) (by exact fun _ _ _ h => h) (Or.inl ⟨by rfl, ?_⟩) (by assumption) ?_
        rotate_left
        · (intro wS hS; clear hS; go_simp; try with_reducible rfl)
        try simp only [Act.put, List.setIfInBounds_toArray, List.set_cons_zero, List.set_cons_succ]
        refine wpAnyH_take (i := 11) (v := ?_) (by (simp only [List.getElem?_toArray, List.getElem?_cons_succ, List.getElem?_cons_zero]; rfl)) (by kernel_rfl) (by kernel_rfl) (by kernel_rfl) (by exact fun _ _ _ h => h) (Or.inl ⟨by rfl, ?_⟩) (by assumption) ?_
        rotate_left
        · (intro wS hS; clear hS; go_simp; try with_reducible rfl)
        try simp only [Act.put, List.setIfInBounds_toArray, List.set_cons_zero, List.set_cons_succ]
        refine wpAnyH_done (by kernel_rfl) ?_ _
        go_wp2
        go_ret2
        refine ⟨?_, (by repeat (first | exact bw_refl _ | assumption | apply bw_alloc | apply bw_drew | apply bw_drewN | (refine bw_trans ?_ (by assumption)) | (refine bw_set ?_ (by simp only [go_sem]; omega) _)))⟩
        rw [E.out.1, E.out.2]
        rfl
theorem implMulStored_any (W P a b : Int) (w : World) :
    Calls Try.prog 37 #[.agg #[.int .i64 W, .int .i64 P], .int .i64 a, .int .i64 b] w fun e w' => e = .returned (.tuple #[.int .i64 (putV W P a b (rdiv (a * b) (2 ^ P.toNat))), .bool (putB W P a b (rdiv (a * b) (2 ^ P.toNat)))]) ∧ Below w.heap.size w w' := by
  have hl := Blk.new w 32 #[.int .i64 W, .int .i64 P]
  have h1 := hl.cell 1
  go_enter Try.func37, Try.ntmps37
  go_wp2_with fail
  refine (joinMulStored W P a b w.heap.size _ h1 hl.lt).mono ?_
  rintro e w1 ⟨rfl, hb⟩
  clear hl h1
  go_wp2
  go_ret2
  exact ⟨rfl, (by repeat (first | exact bw_refl _ | assumption | apply bw_alloc | apply bw_drew | apply bw_drewN | (refine bw_trans ?_ (by assumption)) | (refine bw_set ?_ (by simp only [go_sem]; omega) _)))⟩
theorem specMulStored_any (W P a b : Int) (w : World) :
    Calls Try.prog 35 #[.agg #[.int .i64 W, .int .i64 P], .int .i64 a, .int .i64 b] w fun e w' => e = .returned (.tuple #[.int .i64 (putV W P a b (rdiv (a * b) (2 ^ P.toNat))), .bool (putB W P a b (rdiv (a * b) (2 ^ P.toNat)))]) ∧ Below w.heap.size w w' := by
  cases hf : (fitsB W P a && fitsB W P b)
  · have E : Hid (putV W P a b (rdiv (a * b) (2 ^ P.toNat)) = 0 ∧ putB W P a b (rdiv (a * b) (2 ^ P.toNat)) = false) := by unfold Hid putV putB; rw [hf]; exact ⟨rfl, rfl⟩
    have HF := Lib.hid hf
    clear hf
    go_enter Try.func35, Try.ntmps35
    go_wp2_with (go_at_call 50; refine (sboth_any _ _ _ _ _).mono ?_; rintro e w1 ⟨he, hb⟩; rw [HF.out] at he; subst he; (first | (have hq := bcomp hc hf hz hb; clear hc hf hz; obtain ⟨hc, hf, hz⟩ := hq) | (obtain ⟨hc, hf⟩ := bcell hb; have hz := bsize hb)))
    go_ret2
    refine ⟨?_, (by repeat (first | exact bw_refl _ | assumption | apply bw_alloc | apply bw_drew | apply bw_drewN | (refine bw_trans ?_ (by assumption)) | (refine bw_set ?_ (by simp only [go_sem]; omega) _)))⟩
    rw [E.out.1, E.out.2]; rfl
  · have E : Hid (putV W P a b (rdiv (a * b) (2 ^ P.toNat)) = cutF W P (rdiv (a * b) (2 ^ P.toNat)) ∧ putB W P a b (rdiv (a * b) (2 ^ P.toNat)) = (cutF W P (rdiv (a * b) (2 ^ P.toNat)) == (rdiv (a * b) (2 ^ P.toNat)))) := by unfold Hid putV putB; rw [hf]; exact ⟨rfl, rfl⟩
    have hf2 := hf
    rw [Bool.and_eq_true] at hf2
    have hfm := sfits_fmt W P a hf2.1
    obtain ⟨a0, a1⟩ := sfits_bd W P a hf2.1
    obtain ⟨b0, b1⟩ := sfits_bd W P b hf2.2
    obtain ⟨h0, h1, h2, h3⟩ := sfour (n := 0) hfm
    have HF := Lib.hid hf
    clear hf hf2 hfm
    have hm := mul_bd a b 268435456 268435456 (by omega) (by omega) a0 a1 b0 b1
    obtain ⟨m0', m1'⟩ := hm
    have m0 : -72057594037927936 ≤ a * b := by omega
    have m1 : a * b ≤ 72057594037927936 := by omega
    clear m0' m1'
    obtain ⟨e0, e1⟩ := p216 P h2 h3
    have K1 := Blk.new w 32 #[.int .i64 W, .int .i64 P]
    go_enter Try.func35, Try.ntmps35
    go_upto_region 3 with (go_at_call 50; refine (sboth_any _ _ _ _ _).mono ?_; rintro e w1 ⟨he, hb⟩; rw [HF.out] at he; subst he; have hcc := bcell hb; obtain ⟨hc, hf⟩ := hcc; have hz := bsize hb)
    have K2 : Blk w1 w.heap.size 32 #[.int .i64 W, .int .i64 P] := heap_keep hb K1
    have n0 : w1.cell? ⟨w.heap.size, 0, none⟩ = some (.int .i64 W) := K2.cell 0
    have n1 : w1.cell? ⟨w.heap.size, 1, none⟩ = some (.int .i64 P) := K2.cell 1
    have z0 := K2.lt
    have hbw : Below w.heap.size w w1 := Below.trans (bw_alloc (bw_refl w) _) (hb.mono (by rw [World.size_alloc]; exact Nat.le_succ _))
    have ew : IntKind.i64.wrap ((2 : Int) ^ P.toNat) = (2 : Int) ^ P.toNat := IntWalk.i64_in _ (by omega)
    have em : IntKind.i64.wrap (a * b) = a * b := IntWalk.i64_in _ (by omega)
    clear hc hf hz hb K1
    refine wp_region_below (by kernel_rfl) (fun wD hHeld => ?_)
    refine wpAnyH_take (i := 0) (v := ?_) (by (simp only [List.getElem?_toArray, List.getElem?_cons_zero]; rfl)) (by kernel_rfl) (by kernel_rfl) (by kernel_rfl) (by exact fun _ _ _ h => h) (Or.inl ⟨by rfl, ?_⟩) (by assumption) ?_
    rotate_left
    · (intro wS hS; have hSc := (bcell hS).1; clear hS; go_simp; try with_reducible rfl)
    try simp only [Act.put, List.setIfInBounds_toArray, List.set_cons_zero, List.set_cons_succ]
    refine wpAnyH_take (i := 1) (v := ?_) (by (simp only [List.getElem?_toArray, List.getElem?_cons_succ, List.getElem?_cons_zero]; rfl)) (by kernel_rfl) (by kernel_rfl) (by kernel_rfl) (by exact fun _ _ _ h => h) (Or.inl ⟨by rfl, ?_⟩) (by assumption) ?_
    rotate_left
    · (intro wS hS; clear hS; go_simp; try with_reducible rfl)
    try simp only [Act.put, List.setIfInBounds_toArray, List.set_cons_zero, List.set_cons_succ]
    refine wpAnyH_take (i := 2) (v := ?_) (by (simp only [List.getElem?_toArray, List.getElem?_cons_succ, List.getElem?_cons_zero]; rfl)) (by kernel_rfl) (by kernel_rfl) (by kernel_rfl) (by exact fun _ _ _ h => h) (Or.inl ⟨by rfl, ?_⟩) (by assumption) ?_
    rotate_left
    · (intro wS hS; clear hS; go_simp; try with_reducible rfl)
    try simp only [Act.put, List.setIfInBounds_toArray, List.set_cons_zero, List.set_cons_succ]
    refine wpAnyH_take (i := 3) (v := ?_) (by (simp only [List.getElem?_toArray, List.getElem?_cons_succ, List.getElem?_cons_zero]; rfl)) (by kernel_rfl) (by kernel_rfl) (by kernel_rfl) (by exact fun _ _ _ h => h) (Or.inl ⟨by rfl, ?_⟩) (by assumption) ?_
    rotate_left
    · (intro wS hS; clear hS; go_simp; try with_reducible rfl)
    try simp only [Act.put, List.setIfInBounds_toArray, List.set_cons_zero, List.set_cons_succ]
    refine wpAnyH_take (i := 4) (v := ?_) (by (simp only [List.getElem?_toArray, List.getElem?_cons_succ, List.getElem?_cons_zero]; rfl)) (by kernel_rfl) (by kernel_rfl) (by kernel_rfl) (by exact fun _ _ _ h => h) (Or.inl ⟨by rfl, ?_⟩) (by assumption) ?_
    rotate_left
    · (intro wS hS; clear hS; go_simp; try with_reducible rfl)
    try simp only [Act.put, List.setIfInBounds_toArray, List.set_cons_zero, List.set_cons_succ]
    refine wpAnyH_take (i := 5) (v := ?_) (by (simp only [List.getElem?_toArray, List.getElem?_cons_succ, List.getElem?_cons_zero]; rfl)) (by kernel_rfl) (by kernel_rfl) (by kernel_rfl) (by exact fun _ _ _ h => h) (Or.inl ⟨by rfl, ?_⟩) (by assumption) ?_
    rotate_left
    · (intro wS hS; have hSc := (bcell hS).1; clear hS; go_simp; try with_reducible rfl)
    try simp only [Act.put, List.setIfInBounds_toArray, List.set_cons_zero, List.set_cons_succ]
    refine wpAnyH_take (i := 6) (v := ?_) (by (simp only [List.getElem?_toArray, List.getElem?_cons_succ, List.getElem?_cons_zero]; rfl)) (by kernel_rfl) (by kernel_rfl) (by kernel_rfl) (by exact fun _ _ _ h => h) (Or.inl ⟨by rfl, ?_⟩) (by assumption) ?_
    rotate_left
    · (intro wS hS; clear hS; go_simp; try with_reducible rfl)
    try simp only [Act.put, List.setIfInBounds_toArray, List.set_cons_zero, List.set_cons_succ]
    refine wpAnyH_ready (rs := [7]) (by kernel_rfl) (by simp) ?_
    refine AllReadyH.cons (by (simp only [List.getElem?_toArray, List.getElem?_cons_succ, List.getElem?_cons_zero]; rfl)) (fun K hK => ?_) AllReadyH.nil
    go_simp
    ((first | (go_at_call 52; refine (l1Round_any (a * b) (2 ^ P.toNat) (by omega) (by omega) (by omega) (by omega) _).mono ?_; rintro e w' ⟨rfl, rfl⟩) | (go_at_call 51; refine (l4Cut_ok W P (rdiv (a * b) (2 ^ P.toNat)) h0 h1 h2 h3 _).mono ?_; rintro e w3 ⟨rfl, hb⟩)))
    (try go_wp2_with fail)
    refine hK.out _ _ (by repeat (first | exact bw_refl _ | assumption | apply bw_alloc | apply bw_drew | apply bw_drewN | (refine bw_trans ?_ (by assumption)) | (refine bw_set ?_ (by simp only [go_sem]; omega) _))) (fun hHeld => ?_)
    clear hK K
    try simp only [Act.put, List.setIfInBounds_toArray, List.set_cons_zero, List.set_cons_succ]
    refine wpAnyH_ready (rs := [8]) (by kernel_rfl) (by simp) ?_
    refine AllReadyH.cons (by (simp only [List.getElem?_toArray, List.getElem?_cons_succ, List.getElem?_cons_zero]; rfl)) (fun K hK => ?_) AllReadyH.nil
    go_simp
    ((first | (go_at_call 52; refine (l1Round_any (a * b) (2 ^ P.toNat) (by omega) (by omega) (by omega) (by omega) _).mono ?_; rintro e w' ⟨rfl, rfl⟩) | (go_at_call 51; refine (l4Cut_ok W P (rdiv (a * b) (2 ^ P.toNat)) h0 h1 h2 h3 _).mono ?_; rintro e w3 ⟨rfl, hb⟩)))
    (try go_wp2_with fail)
    refine hK.out _ _ (by repeat (first | exact bw_refl _ | assumption | apply bw_alloc | apply bw_drew | apply bw_drewN | (refine bw_trans ?_ (by assumption)) | (refine bw_set ?_ (by simp only [go_sem]; omega) _))) (fun hHeld => ?_)
    clear hK K
    try simp only [Act.put, List.setIfInBounds_toArray, List.set_cons_zero, List.set_cons_succ]
    refine wpAnyH_take (i := 9) (v := ?_) (by (simp only [List.getElem?_toArray, List.getElem?_cons_succ, List.getElem?_cons_zero]; rfl)) (by kernel_rfl) (by kernel_rfl) (by kernel_rfl) (by exact fun _ _ _ h => h) (Or.inl ⟨by rfl, ?_⟩) (by assumption) ?_
    rotate_left
    · (intro wS hS; clear hS; go_simp; try with_reducible rfl)
    try simp only [Act.put, List.setIfInBounds_toArray, List.set_cons_zero, List.set_cons_succ]
    refine wpAnyH_take (i := 10) (v := ?_) (by (simp only [List.getElem?_toArray, List.getElem?_cons_succ, List.getElem?_cons_zero]; rfl)) (by kernel_rfl) (by kernel_rfl) (by kernel_rfl) (by exact fun _ _ _ h => h) (Or.inl ⟨by rfl, ?_⟩) (by assumption) ?_
    rotate_left
    · (intro wS hS; clear hS; go_simp; try with_reducible rfl)
    try simp only [Act.put, List.setIfInBounds_toArray, List.set_cons_zero, List.set_cons_succ]
    refine wpAnyH_take (i := 11) (v := ?_) (by (simp only [List.getElem?_toArray, List.getElem?_cons_succ, List.getElem?_cons_zero]; rfl)) (by kernel_rfl) (by kernel_rfl) (by kernel_rfl) (by exact fun _ _ _ h => h) (Or.inl ⟨by rfl, ?_⟩) (by assumption) ?_
    rotate_left
    · (intro wS hS; clear hS; go_simp; try with_reducible rfl)
    try simp only [Act.put, List.setIfInBounds_toArray, List.set_cons_zero, List.set_cons_succ]
    refine wpAnyH_take (i := 12) (v := ?_) (by (simp only [List.getElem?_toArray, List.getElem?_cons_succ, List.getElem?_cons_zero]; rfl)) (by kernel_rfl) (by kernel_rfl) (by kernel_rfl) (by exact fun _ _ _ h => h) (Or.inl ⟨by rfl, ?_⟩) (by assumption) ?_
    rotate_left
    · (intro wS hS; clear hS; go_simp; try with_reducible rfl)
    try simp only [Act.put, List.setIfInBounds_toArray, List.set_cons_zero, List.set_cons_succ]
    refine wpAnyH_done (by kernel_rfl) ?_ _
    go_wp2
    go_ret2
    refine ⟨?_, (by repeat (first | exact bw_refl _ | assumption | apply bw_alloc | apply bw_drew | apply bw_drewN | (refine bw_trans ?_ (by assumption)) | (refine bw_set ?_ (by simp only [go_sem]; omega) _)))⟩
    rw [E.out.1, E.out.2]
    rfl
theorem closAddStored (a b W P : Int) (g : Nat) (a0 : -268435456 ≤ a) (a1 : a ≤ 268435456) (b0 : -268435456 ≤ b) (b1 : b ≤ 268435456) (h2 : 0 ≤ P) (h3 : P ≤ 16) (w : World) (hg : w.cell? ⟨g, 1, none⟩ = some (.int .i64 P)) :
    Calls Try.prog 56 #[.int .i64 a, .int .i64 b] w fun e w' => e = .returned (.int .i64 (a + b)) ∧ w = w' := by

  go_enter Try.func56, Try.ntmps56
  go_wp2_with fail
  go_ret
  exact ⟨rfl, rfl⟩
theorem joinAddStored (W P a b : Int) (g : Nat) (w : World) (hg : w.cell? ⟨g, 1, none⟩ = some (.int .i64 P)) (hgl : g < w.heap.size) :
    Calls Try.prog 53 #[.agg #[.int .i64 W, .int .i64 P, .int .i64 a], .int .i64 b, .func (.func 56) #[] #[]] w fun e w' => e = .returned (.tuple #[.int .i64 (putV W P a b (a + b)), .bool (putB W P a b (a + b))]) ∧ Below w.heap.size w w' := by
  cases ha : fitsB W P a
  · have E : Hid (putV W P a b (a + b) = 0 ∧ putB W P a b (a + b) = false) := by unfold Hid putV putB; rw [ha]; exact ⟨rfl, rfl⟩
    have HA := Lib.hid ha
    clear ha
    go_enter Try.func53, Try.ntmps53
    go_wp2_with (go_at_call 31; refine (implStoredFits_any _ _ _ _).mono ?_; rintro e w1 ⟨he, hb⟩; rw [HA.out] at he; subst he; have hcc := bcell hb; obtain ⟨hc, hf⟩ := hcc; have hz := bsize hb)
    go_ret2
    refine ⟨?_, (by repeat (first | exact bw_refl _ | assumption | apply bw_alloc | apply bw_drew | apply bw_drewN | (refine bw_trans ?_ (by assumption)) | (refine bw_set ?_ (by simp only [go_sem]; omega) _)))⟩
    rw [E.out.1, E.out.2]; rfl
  · cases hb0 : fitsB W P b
    · have E : Hid (putV W P a b (a + b) = 0 ∧ putB W P a b (a + b) = false) := by unfold Hid putV putB; rw [ha, hb0]; exact ⟨rfl, rfl⟩
      have HA := Lib.hid ha
      have HB := Lib.hid hb0
      clear ha hb0
      go_enter Try.func53, Try.ntmps53
      go_wp2_with (go_at_call 31; refine (implStoredFits_any _ _ _ _).mono ?_; rintro e w1 ⟨he, hb⟩; (first | rw [HA.out] at he | rw [HB.out] at he); subst he; (first | (have hq := bcomp hc hf hz hb; clear hc hf hz; obtain ⟨hc, hf, hz⟩ := hq) | (obtain ⟨hc, hf⟩ := bcell hb; have hz := bsize hb)))
      go_ret2
      refine ⟨?_, (by repeat (first | exact bw_refl _ | assumption | apply bw_alloc | apply bw_drew | apply bw_drewN | (refine bw_trans ?_ (by assumption)) | (refine bw_set ?_ (by simp only [go_sem]; omega) _)))⟩
      rw [E.out.1, E.out.2]; rfl
    · have E : Hid (putV W P a b (a + b) = cutF W P (a + b) ∧ putB W P a b (a + b) = (cutF W P (a + b) == (a + b))) := by unfold Hid putV putB; rw [ha, hb0]; exact ⟨rfl, rfl⟩
      have hfm := sfits_fmt W P a ha
      obtain ⟨a0, a1⟩ := sfits_bd W P a ha
      obtain ⟨b0, b1⟩ := sfits_bd W P b hb0
      obtain ⟨h0, h1, h2, h3⟩ := sfour (n := 0) hfm
      have HC := Lib.hid (cutFix (r := a + b) hfm)
      have HA := Lib.hid ha
      have HB := Lib.hid hb0
      clear ha hb0 hfm
      obtain ⟨r, hr⟩ : ∃ r, a + b = r := ⟨_, rfl⟩
      have HR := Lib.hid hr
      rw [hr] at E HC ⊢
      clear hr
      go_enter Try.func53, Try.ntmps53
      go_upto_region 1 with fail
      go_cut [3, 20] (fun s t wx => s = .pointer (some ⟨w.heap.size, 0, none⟩) ∧ t = .bool false ∧ Below (w.alloc (.cells #[.int .i64 W, .int .i64 P, .int .i64 a] 60)).heap.size (w.alloc (.cells #[.int .i64 W, .int .i64 P, .int .i64 a] 60)) wx)
      case first =>
        go_wp2_with (go_at_call 31; refine (implStoredFits_any _ _ _ _).mono ?_; rintro e w1 ⟨he, hb⟩; (first | rw [HA.out] at he | rw [HB.out] at he); subst he; (first | (have hq := bcomp hc hf hz hb; clear hc hf hz; obtain ⟨hc, hf, hz⟩ := hq) | (obtain ⟨hc, hf⟩ := bcell hb; have hz := bsize hb)))
        go_meet
        exact ⟨rfl, by simp, (by repeat (first | exact bw_refl _ | assumption | apply bw_alloc | apply bw_drew | apply bw_drewN | (refine bw_trans ?_ (by assumption)) | (refine bw_set ?_ (by simp only [go_sem]; omega) _)))⟩
      case rest =>
        obtain ⟨rfl, rfl, hbk⟩ := hcut
        have hnew := heap_keep hbk (heap_alloc_new w (.cells #[.int .i64 W, .int .i64 P, .int .i64 a] 60))
        have q0 : wc.cell? ⟨w.heap.size, 0, none⟩ = some (.int .i64 W) := cell_of_row wc _ 0 _ _ (0, 0) hnew
        have q1 : wc.cell? ⟨w.heap.size, 1, none⟩ = some (.int .i64 P) := cell_of_row wc _ 1 _ _ (0, 0) hnew
        have q2 : wc.cell? ⟨w.heap.size, 2, none⟩ = some (.int .i64 a) := cell_of_row wc _ 2 _ _ (0, 0) hnew
        have hbw : Below w.heap.size w wc := Below.trans (bw_alloc (bw_refl w) _) (hbk.mono (by rw [World.size_alloc]; exact Nat.le_succ _))
        have hgc : wc.cell? ⟨g, 1, none⟩ = some (.int .i64 P) := (hbw.cell (p := ⟨g, 1, none⟩) hgl).trans hg
        have z0 : w.heap.size < wc.heap.size := World.block_lt_of_cell? _ _ q0
        clear hnew hbk
        go_upto_region 3 with fail
        refine wp_region_below (by kernel_rfl) (fun wD hHeld => ?_)
        refine wpAnyH_take (i := 0) (v := ?_) (by (simp only [List.getElem?_toArray, List.getElem?_cons_zero]; rfl)) (by kernel_rfl) (by kernel_rfl) (by kernel_rfl) (by exact fun _ _ _ h => h) (Or.inl ⟨by rfl, ?_⟩) (by assumption) ?_
        rotate_left
        · (intro wS hS; clear hS; go_simp; try with_reducible rfl)
        try simp only [Act.put, List.setIfInBounds_toArray, List.set_cons_zero, List.set_cons_succ]
        refine wpAnyH_take (i := 1) (v := ?_) (by (simp only [List.getElem?_toArray, List.getElem?_cons_succ, List.getElem?_cons_zero]; rfl)) (by kernel_rfl) (by kernel_rfl) (by kernel_rfl) (by exact fun _ _ _ h => h) (Or.inl ⟨by rfl, ?_⟩) (by assumption) ?_
        rotate_left
        · (intro wS hS; have hSc := (bcell hS).1; clear hS; go_simp; try with_reducible rfl)
        try simp only [Act.put, List.setIfInBounds_toArray, List.set_cons_zero, List.set_cons_succ]
        refine wpAnyH_take (i := 2) (v := ?_) (by (simp only [List.getElem?_toArray, List.getElem?_cons_succ, List.getElem?_cons_zero]; rfl)) (by kernel_rfl) (by kernel_rfl) (by kernel_rfl) (by exact fun _ _ _ h => h) (Or.inl ⟨by rfl, ?_⟩) (by assumption) ?_
        rotate_left
        · (intro wS hS; clear hS; go_simp; try with_reducible rfl)
        try simp only [Act.put, List.setIfInBounds_toArray, List.set_cons_zero, List.set_cons_succ]
        refine wpAnyH_take (i := 3) (v := ?_) (by (simp only [List.getElem?_toArray, List.getElem?_cons_succ, List.getElem?_cons_zero]; rfl)) (by kernel_rfl) (by kernel_rfl) (by kernel_rfl) (by exact fun _ _ _ h => h) (Or.inl ⟨by rfl, ?_⟩) (by assumption) ?_
        rotate_left
        · (intro wS hS; clear hS; go_simp; try with_reducible rfl)
        try simp only [Act.put, List.setIfInBounds_toArray, List.set_cons_zero, List.set_cons_succ]
        refine wpAnyH_take (i := 4) (v := ?_) (by (simp only [List.getElem?_toArray, List.getElem?_cons_succ, List.getElem?_cons_zero]; rfl)) (by kernel_rfl) (by kernel_rfl) (by kernel_rfl) (by exact fun _ _ _ h => h) (Or.inl ⟨by rfl, ?_⟩) (by assumption) ?_
        rotate_left
        · (intro wS hS; have hSc := (bcell hS).1; clear hS; go_simp; try with_reducible rfl)
        try simp only [Act.put, List.setIfInBounds_toArray, List.set_cons_zero, List.set_cons_succ]
        refine wpAnyH_take (i := 5) (v := ?_) (by (simp only [List.getElem?_toArray, List.getElem?_cons_succ, List.getElem?_cons_zero]; rfl)) (by kernel_rfl) (by kernel_rfl) (by kernel_rfl) (by exact fun _ _ _ h => h) (Or.inl ⟨by rfl, ?_⟩) (by assumption) ?_
        rotate_left
        · (intro wS hS; clear hS; go_simp; try with_reducible rfl)
        try simp only [Act.put, List.setIfInBounds_toArray, List.set_cons_zero, List.set_cons_succ]
        refine wpAnyH_ready (rs := [6]) (by kernel_rfl) (by simp) ?_
        refine AllReadyH.cons (by (simp only [List.getElem?_toArray, List.getElem?_cons_succ, List.getElem?_cons_zero]; rfl)) (fun K hK => ?_) AllReadyH.nil
        go_simp
        ((first | (go_at_call 56; refine (closAddStored a b W P g a0 a1 b0 b1 h2 h3 _ (cell_keep hHeld hgc)).mono ?_; rintro e w1 ⟨he, rfl⟩; rw [HR.out] at he; subst he) | (go_at_call 60; refine (implCutStored_any W P r _).mono ?_; rintro e w1 ⟨he, hb⟩; rw [HC.out.1, HC.out.2] at he; subst he)))
        (try go_wp2_with fail)
        refine hK.out _ _ (by repeat (first | exact bw_refl _ | assumption | apply bw_alloc | apply bw_drew | apply bw_drewN | (refine bw_trans ?_ (by assumption)) | (refine bw_set ?_ (by simp only [go_sem]; omega) _))) (fun hHeld => ?_)
        clear hK K
        try simp only [Act.put, List.setIfInBounds_toArray, List.set_cons_zero, List.set_cons_succ]
        refine wpAnyH_ready (rs := [7]) (by kernel_rfl) (by simp) ?_
        refine AllReadyH.cons (by (simp only [List.getElem?_toArray, List.getElem?_cons_succ, List.getElem?_cons_zero]; rfl)) (fun K hK => ?_) AllReadyH.nil
        go_simp
        ((first | (go_at_call 56; refine (closAddStored a b W P g a0 a1 b0 b1 h2 h3 _ (cell_keep hHeld hgc)).mono ?_; rintro e w1 ⟨he, rfl⟩; rw [HR.out] at he; subst he) | (go_at_call 60; refine (implCutStored_any W P r _).mono ?_; rintro e w1 ⟨he, hb⟩; rw [HC.out.1, HC.out.2] at he; subst he)))
        (try go_wp2_with fail)
        refine hK.out _ _ (by repeat (first | exact bw_refl _ | assumption | apply bw_alloc | apply bw_drew | apply bw_drewN | (refine bw_trans ?_ (by assumption)) | (refine bw_set ?_ (by simp only [go_sem]; omega) _))) (fun hHeld => ?_)
        clear hK K
        try simp only [Act.put, List.setIfInBounds_toArray, List.set_cons_zero, List.set_cons_succ]
        refine wpAnyH_take (i := 8) (v := ?_) (by (simp only [List.getElem?_toArray, List.getElem?_cons_succ, List.getElem?_cons_zero]; rfl)) (by kernel_rfl) (by kernel_rfl) (by kernel_rfl) (by exact fun _ _ _ h => h) (Or.inl ⟨by rfl, ?_⟩) (by assumption) ?_
        rotate_left
        · (intro wS hS; clear hS; go_simp; try with_reducible rfl)
        try simp only [Act.put, List.setIfInBounds_toArray, List.set_cons_zero, List.set_cons_succ]
        refine wpAnyH_take (i := 9) (v := ?_) (by (simp only [List.getElem?_toArray, List.getElem?_cons_succ, List.getElem?_cons_zero]; rfl)) (by kernel_rfl) (by kernel_rfl) (by kernel_rfl) (by exact fun _ _ _ h => h) (Or.inl ⟨by rfl, ?_⟩) (by assumption) ?_
        rotate_left
        · (intro wS hS; clear hS; go_simp; try with_reducible rfl)
        try simp only [Act.put, List.setIfInBounds_toArray, List.set_cons_zero, List.set_cons_succ]
        refine wpAnyH_take (i := 10) (v := ?_) (by (simp only [List.getElem?_toArray, List.getElem?_cons_succ, List.getElem?_cons_zero]; rfl)) (by kernel_rfl) (by kernel_rfl) (by kernel_rfl) (by exact fun _ _ _ h => h) (Or.inl ⟨by rfl, ?_⟩) (by assumption) ?_
        rotate_left
        · (intro wS hS; clear hS; go_simp; try with_reducible rfl)
        try simp only [Act.put, List.setIfInBounds_toArray, List.set_cons_zero, List.set_cons_succ]
        refine wpAnyH_take (i := 11) (v := ?_) (by (simp only [List.getElem?_toArray, List.getElem?_cons_succ, List.getElem?_cons_zero]; rfl)) (by kernel_rfl) (by kernel_rfl) (by kernel_rfl) (by exact fun _ _ _ h => h) (Or.inl ⟨by rfl, ?_⟩) (by assumption) ?_
        rotate_left
        · (intro wS hS; clear hS; go_simp; try with_reducible rfl)
        try simp only [Act.put, List.setIfInBounds_toArray, List.set_cons_zero, List.set_cons_succ]
        refine wpAnyH_done (by kernel_rfl) ?_ _
        go_wp2
        go_ret2
        refine ⟨?_, (by repeat (first | exact bw_refl _ | assumption | apply bw_alloc | apply bw_drew | apply bw_drewN | (refine bw_trans ?_ (by assumption)) | (refine bw_set ?_ (by simp only [go_sem]; omega) _)))⟩
        rw [E.out.1, E.out.2]
        rfl
theorem implAddStored_any (W P a b : Int) (w : World) :
    Calls Try.prog 38 #[.agg #[.int .i64 W, .int .i64 P], .int .i64 a, .int .i64 b] w fun e w' => e = .returned (.tuple #[.int .i64 (putV W P a b (a + b)), .bool (putB W P a b (a + b))]) ∧ Below w.heap.size w w' := by
  have hl := Blk.new w 32 #[.int .i64 W, .int .i64 P]
  have h1 := hl.cell 1
  go_enter Try.func38, Try.ntmps38
  go_wp2_with fail
  refine (joinAddStored W P a b w.heap.size _ h1 hl.lt).mono ?_
  rintro e w1 ⟨rfl, hb⟩
  clear hl h1
  go_wp2
  go_ret2
  exact ⟨rfl, (by repeat (first | exact bw_refl _ | assumption | apply bw_alloc | apply bw_drew | apply bw_drewN | (refine bw_trans ?_ (by assumption)) | (refine bw_set ?_ (by simp only [go_sem]; omega) _)))⟩
theorem specAddStored_any (W P a b : Int) (w : World) :
    Calls Try.prog 36 #[.agg #[.int .i64 W, .int .i64 P], .int .i64 a, .int .i64 b] w fun e w' => e = .returned (.tuple #[.int .i64 (putV W P a b (a + b)), .bool (putB W P a b (a + b))]) ∧ Below w.heap.size w w' := by
  cases hf : (fitsB W P a && fitsB W P b)
  · have E : Hid (putV W P a b (a + b) = 0 ∧ putB W P a b (a + b) = false) := by unfold Hid putV putB; rw [hf]; exact ⟨rfl, rfl⟩
    have HF := Lib.hid hf
    clear hf
    go_enter Try.func36, Try.ntmps36
    go_wp2_with (go_at_call 50; refine (sboth_any _ _ _ _ _).mono ?_; rintro e w1 ⟨he, hb⟩; rw [HF.out] at he; subst he; (first | (have hq := bcomp hc hf hz hb; clear hc hf hz; obtain ⟨hc, hf, hz⟩ := hq) | (obtain ⟨hc, hf⟩ := bcell hb; have hz := bsize hb)))
    go_ret2
    refine ⟨?_, (by repeat (first | exact bw_refl _ | assumption | apply bw_alloc | apply bw_drew | apply bw_drewN | (refine bw_trans ?_ (by assumption)) | (refine bw_set ?_ (by simp only [go_sem]; omega) _)))⟩
    rw [E.out.1, E.out.2]; rfl
  · have E : Hid (putV W P a b (a + b) = cutF W P (a + b) ∧ putB W P a b (a + b) = (cutF W P (a + b) == (a + b))) := by unfold Hid putV putB; rw [hf]; exact ⟨rfl, rfl⟩
    have hf2 := hf
    rw [Bool.and_eq_true] at hf2
    have hfm := sfits_fmt W P a hf2.1
    obtain ⟨a0, a1⟩ := sfits_bd W P a hf2.1
    obtain ⟨b0, b1⟩ := sfits_bd W P b hf2.2
    obtain ⟨h0, h1, h2, h3⟩ := sfour (n := 0) hfm
    have HF := Lib.hid hf
    clear hf hf2 hfm
    go_enter Try.func36, Try.ntmps36
    go_wp2_with (first
      | (go_at_call 50; refine (sboth_any _ _ _ _ _).mono ?_; rintro e w1 ⟨he, hb⟩; rw [HF.out] at he; subst he; (first | (have hq := bcomp hc hf hz hb; clear hc hf hz; obtain ⟨hc, hf, hz⟩ := hq) | (obtain ⟨hc, hf⟩ := bcell hb; have hz := bsize hb)))
      | (go_at_call 51; refine (l4Cut_ok W P (a + b) h0 h1 h2 h3 _).mono ?_; rintro e w1 ⟨rfl, hb⟩; (first | (have hq := bcomp hc hf hz hb; clear hc hf hz; obtain ⟨hc, hf, hz⟩ := hq) | (obtain ⟨hc, hf⟩ := bcell hb; have hz := bsize hb))))
    go_ret2
    refine ⟨?_, (by repeat (first | exact bw_refl _ | assumption | apply bw_alloc | apply bw_drew | apply bw_drewN | (refine bw_trans ?_ (by assumption)) | (refine bw_set ?_ (by simp only [go_sem]; omega) _)))⟩
    rw [E.out.1, E.out.2]; rfl
end Go.Proofs.Ytdnklndemoinaaa
