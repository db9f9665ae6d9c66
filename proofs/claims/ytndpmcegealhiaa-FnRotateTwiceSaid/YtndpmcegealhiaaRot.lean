/- Contracts of RotateVector, both sides, and the walk of ExactRotateVector; no condition. -/
import Derived.Test.YtndpmcegealhiaaCos
namespace Go.Proofs.Ytndpmcegealhiaa
open Go.RowKit
set_option linter.unusedVariables false
set_option linter.unusedSimpArgs false
set_option maxHeartbeats 2000000

theorem eigh_bd3 (a : Int) (h0 : 0 ≤ a) (h1 : a ≤ 8192) : (-17179869185 ≤ eighC a ∧ eighC a ≤ 17179869185) ∧ (-17179869185 ≤ eighS a ∧ eighS a ≤ 17179869185) := by
  obtain ⟨h, h2, -⟩ := turnS_bd 163008216 0 (a * 1024) 268435456 67108864 (by omega) (by omega) (by omega) (by omega) 20 (by omega)
  have hp : (268435456 : Int) * 2 ^ 20 = 281474976710656 := by decide
  rw [hp] at h h2
  unfold eighC eighS rdiv
  constructor
  · split
    · omega
    · split <;> omega
  · split
    · omega
    · split <;> omega
theorem cs_bd (a : Int) : (-17179869185 ≤ (csT a).1 ∧ (csT a).1 ≤ 17179869185) ∧ (-17179869185 ≤ (csT a).2 ∧ (csT a).2 ≤ 17179869185) := by
  unfold csT
  split
  · have h := fold_bd (a % 65536)
    have hb := eigh_bd3 (foldR (a % 65536)) h.1 h.2
    refine rotQ_bd ?_ ?_ _
    · unfold baseP; split <;> simp only <;> omega
    · unfold baseP; split <;> simp only <;> omega
  · decide
def rotF (x y a : Int) : Int × Int := if (vecB 1048576 x y && inB a (-1152921504606846976) 1152921504606846976) = true then (rdiv ((csT a).1 * x - (csT a).2 * y) 16384, rdiv ((csT a).2 * x + (csT a).1 * y) 16384) else (0, 0)
def IsVec (X Y : Int) (w : World) (e : Ending) (w' : World) : Prop := e = .returned (.agg #[.int .i64 X, .int .i64 Y]) ∧ Below w.heap.size w w'

theorem implRot_any (x y a : Int) (w : World) : Calls Try.prog 8 #[.agg #[.int .i64 x, .int .i64 y], .int .i64 a] w (IsVec (rotF x y a).1 (rotF x y a).2 w) := by
  have l0 := Blk.alloc (Blk.new w 24 #[.int .i64 x, .int .i64 y]) (.cells #[.int .i64 0, .int .i64 0] 24)
  have l1 := Blk.new (w.alloc (.cells #[.int .i64 x, .int .i64 y] 24)) 24 #[.int .i64 0, .int .i64 0]
  rw [World.size_alloc] at l1
  cases hv : vecB 1048576 x y
  · have e0 : Hid (rotF x y a = (0, 0)) := by unfold Hid rotF; rw [hv]; rfl
    go_enter Try.func8, Try.ntmps8
    go_wp2_with fail
    refine (vwithin_any x y _ (by decide) (by decide) _).mono ?_
    rintro e w1 ⟨he, hb⟩
    rw [hv] at he
    subst he
    replace l1 := l1.up hb
    have b1 : Below w.heap.size w w1 := (by repeat (first | exact bw_refl _ | assumption | apply bw_alloc | apply bw_drew | apply bw_drewN | (refine bw_trans ?_ (by assumption)) | (refine bw_set ?_ (by simp only [go_sem]; omega) _)))
    clear hb
    obtain ⟨g0, g1, f0, f1⟩ := l1.rd2
    go_wp2
    unfold IsVec
    rw [e0.out]
    refine bodyPost_ret (by simp only [results, Try.results8]; go_simp; all_goals (first | exact rfl | exact ⟨rfl, rfl⟩ | skip)) rfl ⟨rfl, (by repeat (first | exact bw_refl _ | assumption | apply bw_alloc | apply bw_drew | apply bw_drewN | (refine bw_trans ?_ (by assumption)) | (refine bw_set ?_ (by simp only [go_sem]; omega) _)))⟩
  · cases hi : inB a (-1152921504606846976) 1152921504606846976
    · have e0 : Hid (rotF x y a = (0, 0)) := by unfold Hid rotF; rw [hv, hi]; rfl
      go_enter Try.func8, Try.ntmps8
      go_wp2_with fail
      refine (vwithin_any x y _ (by decide) (by decide) _).mono ?_
      rintro e w1 ⟨he, hb⟩
      rw [hv] at he
      subst he
      replace l1 := l1.up hb
      have b1 : Below w.heap.size w w1 := (by repeat (first | exact bw_refl _ | assumption | apply bw_alloc | apply bw_drew | apply bw_drewN | (refine bw_trans ?_ (by assumption)) | (refine bw_set ?_ (by simp only [go_sem]; omega) _)))
      clear hb
      obtain ⟨g0, g1, f0, f1⟩ := l1.rd2
      go_wp2_with (go_at_call 24; refine (workable_any _ _).mono ?_; rintro e w' ⟨he, rfl⟩; rw [hi] at he; subst he)
      unfold IsVec
      rw [e0.out]
      refine bodyPost_ret (by simp only [results, Try.results8]; go_simp; all_goals (first | exact rfl | exact ⟨rfl, rfl⟩ | skip)) rfl ⟨rfl, (by repeat (first | exact bw_refl _ | assumption | apply bw_alloc | apply bw_drew | apply bw_drewN | (refine bw_trans ?_ (by assumption)) | (refine bw_set ?_ (by simp only [go_sem]; omega) _)))⟩
    · have e0 : Hid (rotF x y a = (rdiv ((csT a).1 * x - (csT a).2 * y) 16384, rdiv ((csT a).2 * x + (csT a).1 * y) 16384)) := by unfold Hid rotF; rw [hv, hi]; rfl
      obtain ⟨⟨x0, x1⟩, y0, y1⟩ := vecB_spec _ _ _ hv
      obtain ⟨⟨c0, c1⟩, s0, s1⟩ := cs_bd a
      have M := implCs_any a
      unfold IsCs at M
      generalize (csT a).1 = c at *
      generalize (csT a).2 = s at *
      have k1 := mul_bd c x 17179869185 1048576 (by omega) (by omega) c0 c1 x0 x1
      have k2 := mul_bd s y 17179869185 1048576 (by omega) (by omega) s0 s1 y0 y1
      have k3 := mul_bd s x 17179869185 1048576 (by omega) (by omega) s0 s1 x0 x1
      have k4 := mul_bd c y 17179869185 1048576 (by omega) (by omega) c0 c1 y0 y1
      obtain ⟨p, hp⟩ : ∃ p, c * x = p := ⟨_, rfl⟩
      obtain ⟨q, hq⟩ : ∃ p, s * y = p := ⟨_, rfl⟩
      obtain ⟨r, hr⟩ : ∃ p, s * x = p := ⟨_, rfl⟩
      obtain ⟨t, ht⟩ : ∃ p, c * y = p := ⟨_, rfl⟩
      rw [hp] at k1; rw [hq] at k2; rw [hr] at k3; rw [ht] at k4
      rw [hp, hq, hr, ht] at e0
      have w1 : IntKind.i64.wrap p = p := IntWalk.i64_in _ (by omega)
      have w2 : IntKind.i64.wrap q = q := IntWalk.i64_in _ (by omega)
      have w3 : IntKind.i64.wrap r = r := IntWalk.i64_in _ (by omega)
      have w4 : IntKind.i64.wrap t = t := IntWalk.i64_in _ (by omega)
      have w5 : IntKind.i64.wrap (p - q) = p - q := IntWalk.i64_in _ (by omega)
      have w6 : IntKind.i64.wrap (r + t) = r + t := IntWalk.i64_in _ (by omega)
      have R1 := implRoundShift_ok (p - q) 14 (by decide) (by decide) (by omega) (by omega)
      have R2 := implRoundShift_ok (r + t) 14 (by decide) (by decide) (by omega) (by omega)
      have ep : (2 : Int) ^ (14 : Int).toNat = 16384 := rfl
      rw [ep] at R1 R2
      clear ep
      generalize rdiv (p - q) 16384 = u at *
      generalize rdiv (r + t) 16384 = v at *
      clear k1 k2 k3 k4 x0 x1 y0 y1 c0 c1 s0 s1
      go_enter Try.func8, Try.ntmps8
      go_wp2_with fail
      refine (vwithin_any x y _ (by decide) (by decide) _).mono ?_
      rintro e w1' ⟨he, hb⟩
      rw [hv] at he
      subst he
      replace l0 := l0.up hb
      replace l1 := l1.up hb
      have b1 : Below w.heap.size w w1' := (by repeat (first | exact bw_refl _ | assumption | apply bw_alloc | apply bw_drew | apply bw_drewN | (refine bw_trans ?_ (by assumption)) | (refine bw_set ?_ (by simp only [go_sem]; omega) _)))
      clear hb
      go_wp2_with (go_at_call 24; refine (workable_any _ _).mono ?_; rintro e w' ⟨he, rfl⟩; rw [hi] at he; subst he)
      refine (M _).mono ?_
      rintro e w2' ⟨rfl, hb⟩
      replace l0 := l0.up hb
      replace l1 := l1.up hb
      have b2 := bw_trans b1 hb
      clear hb b1 M
      go_wp2_with fail
      have z0 := l0.lt
      have z1 := l1.lt
      obtain ⟨g4, g5, -, -⟩ := l0.rd2
      have ne1 : w.heap.size + 1 ≠ w.heap.size := by omega
      have ne2 : w.heap.size ≠ w.heap.size + 1 := by omega
      refine wp_region_keep _ _ l1 (by kernel_rfl) (fun wD hHeld => ?_)
      refine wpAnyH_take (i := 0) (v := ?_) (by (simp only [List.getElem?_toArray, List.getElem?_cons_zero]; rfl)) (by kernel_rfl) (by kernel_rfl) (by kernel_rfl) (by exact fun _ _ _ h => h) (Or.inl ⟨by rfl, ?_⟩) (by assumption) ?_
      rotate_left
      · (intro wS hS; clear hS; go_simp; try with_reducible rfl)
      try simp only [Act.put, List.setIfInBounds_toArray, List.set_cons_zero, List.set_cons_succ]
      refine wpAnyH_take (i := 1) (v := ?_) (by (simp only [List.getElem?_toArray, List.getElem?_cons_succ, List.getElem?_cons_zero]; rfl)) (by kernel_rfl) (by kernel_rfl) (by kernel_rfl) (by exact fun _ _ _ h => h) (Or.inl ⟨by rfl, ?_⟩) (by assumption) ?_
      rotate_left
      · (intro wS hS; clear hS; go_simp; try with_reducible rfl)
      try simp only [Act.put, List.setIfInBounds_toArray, List.set_cons_zero, List.set_cons_succ]
      refine wpAnyH_take (i := 2) (v := ?_) (by (simp only [List.getElem?_toArray, List.getElem?_cons_succ, List.getElem?_cons_zero]; rfl)) (by kernel_rfl) (by kernel_rfl) (by kernel_rfl) (by exact fun _ _ _ h => h) (Or.inl ⟨by rfl, ?_⟩) (by assumption) ?_
      rotate_left
      · (intro wS hS; have hSc := hS.cells; clear hS; go_simp; try with_reducible rfl)
      try simp only [Act.put, List.setIfInBounds_toArray, List.set_cons_zero, List.set_cons_succ]
      refine wpAnyH_take (i := 3) (v := ?_) (by (simp only [List.getElem?_toArray, List.getElem?_cons_succ, List.getElem?_cons_zero]; rfl)) (by kernel_rfl) (by kernel_rfl) (by kernel_rfl) (by exact fun _ _ _ h => h) (Or.inl ⟨by rfl, ?_⟩) (by assumption) ?_
      rotate_left
      · (intro wS hS; clear hS; go_simp; try with_reducible rfl)
      try simp only [Act.put, List.setIfInBounds_toArray, List.set_cons_zero, List.set_cons_succ]
      refine wpAnyH_take (i := 4) (v := ?_) (by (simp only [List.getElem?_toArray, List.getElem?_cons_succ, List.getElem?_cons_zero]; rfl)) (by kernel_rfl) (by kernel_rfl) (by kernel_rfl) (by exact fun _ _ _ h => h) (Or.inl ⟨by rfl, ?_⟩) (by assumption) ?_
      rotate_left
      · (intro wS hS; clear hS; go_simp; try with_reducible rfl)
      try simp only [Act.put, List.setIfInBounds_toArray, List.set_cons_zero, List.set_cons_succ]
      refine wpAnyH_take (i := 5) (v := ?_) (by (simp only [List.getElem?_toArray, List.getElem?_cons_succ, List.getElem?_cons_zero]; rfl)) (by kernel_rfl) (by kernel_rfl) (by kernel_rfl) (by exact fun _ _ _ h => h) (Or.inl ⟨by rfl, ?_⟩) (by assumption) ?_
      rotate_left
      · (intro wS hS; clear hS; go_simp; try with_reducible rfl)
      try simp only [Act.put, List.setIfInBounds_toArray, List.set_cons_zero, List.set_cons_succ]
      refine wpAnyH_take (i := 6) (v := ?_) (by (simp only [List.getElem?_toArray, List.getElem?_cons_succ, List.getElem?_cons_zero]; rfl)) (by kernel_rfl) (by kernel_rfl) (by kernel_rfl) (by exact fun _ _ _ h => h) (Or.inl ⟨by rfl, ?_⟩) (by assumption) ?_
      rotate_left
      · (intro wS hS; have hSc := hS.cells; clear hS; go_simp; try with_reducible rfl)
      try simp only [Act.put, List.setIfInBounds_toArray, List.set_cons_zero, List.set_cons_succ]
      refine wpAnyH_take (i := 7) (v := ?_) (by (simp only [List.getElem?_toArray, List.getElem?_cons_succ, List.getElem?_cons_zero]; rfl)) (by kernel_rfl) (by kernel_rfl) (by kernel_rfl) (by exact fun _ _ _ h => h) (Or.inl ⟨by rfl, ?_⟩) (by assumption) ?_
      rotate_left
      · (intro wS hS; clear hS; go_simp; try with_reducible rfl)
      try simp only [Act.put, List.setIfInBounds_toArray, List.set_cons_zero, List.set_cons_succ]
      refine wpAnyH_take (i := 8) (v := ?_) (by (simp only [List.getElem?_toArray, List.getElem?_cons_succ, List.getElem?_cons_zero]; rfl)) (by kernel_rfl) (by kernel_rfl) (by kernel_rfl) (by exact fun _ _ _ h => h) (Or.inl ⟨by rfl, ?_⟩) (by assumption) ?_
      rotate_left
      · (intro wS hS; clear hS; go_simp; try with_reducible rfl)
      try simp only [Act.put, List.setIfInBounds_toArray, List.set_cons_zero, List.set_cons_succ]
      refine wpAnyH_take (i := 10) (v := ?_) (by (simp only [List.getElem?_toArray, List.getElem?_cons_succ, List.getElem?_cons_zero]; rfl)) (by kernel_rfl) (by kernel_rfl) (by kernel_rfl) (by exact fun _ _ _ h => h) (Or.inl ⟨by rfl, ?_⟩) (by assumption) ?_
      rotate_left
      · (intro wS hS; clear hS; go_simp; try with_reducible rfl)
      try simp only [Act.put, List.setIfInBounds_toArray, List.set_cons_zero, List.set_cons_succ]
      refine wpAnyH_take (i := 11) (v := ?_) (by (simp only [List.getElem?_toArray, List.getElem?_cons_succ, List.getElem?_cons_zero]; rfl)) (by kernel_rfl) (by kernel_rfl) (by kernel_rfl) (by exact fun _ _ _ h => h) (Or.inl ⟨by rfl, ?_⟩) (by assumption) ?_
      rotate_left
      · (intro wS hS; clear hS; go_simp; try with_reducible rfl)
      try simp only [Act.put, List.setIfInBounds_toArray, List.set_cons_zero, List.set_cons_succ]
      refine wpAnyH_take (i := 12) (v := ?_) (by (simp only [List.getElem?_toArray, List.getElem?_cons_succ, List.getElem?_cons_zero]; rfl)) (by kernel_rfl) (by kernel_rfl) (by kernel_rfl) (by exact fun _ _ _ h => h) (Or.inl ⟨by rfl, ?_⟩) (by assumption) ?_
      rotate_left
      · (intro wS hS; have hSc := hS.cells; clear hS; go_simp; try with_reducible rfl)
      try simp only [Act.put, List.setIfInBounds_toArray, List.set_cons_zero, List.set_cons_succ]
      refine wpAnyH_take (i := 13) (v := ?_) (by (simp only [List.getElem?_toArray, List.getElem?_cons_succ, List.getElem?_cons_zero]; rfl)) (by kernel_rfl) (by kernel_rfl) (by kernel_rfl) (by exact fun _ _ _ h => h) (Or.inl ⟨by rfl, ?_⟩) (by assumption) ?_
      rotate_left
      · (intro wS hS; clear hS; go_simp; try with_reducible rfl)
      try simp only [Act.put, List.setIfInBounds_toArray, List.set_cons_zero, List.set_cons_succ]
      refine wpAnyH_take (i := 14) (v := ?_) (by (simp only [List.getElem?_toArray, List.getElem?_cons_succ, List.getElem?_cons_zero]; rfl)) (by kernel_rfl) (by kernel_rfl) (by kernel_rfl) (by exact fun _ _ _ h => h) (Or.inl ⟨by rfl, ?_⟩) (by assumption) ?_
      rotate_left
      · (intro wS hS; clear hS; go_simp; try with_reducible rfl)
      try simp only [Act.put, List.setIfInBounds_toArray, List.set_cons_zero, List.set_cons_succ]
      refine wpAnyH_take (i := 15) (v := ?_) (by (simp only [List.getElem?_toArray, List.getElem?_cons_succ, List.getElem?_cons_zero]; rfl)) (by kernel_rfl) (by kernel_rfl) (by kernel_rfl) (by exact fun _ _ _ h => h) (Or.inl ⟨by rfl, ?_⟩) (by assumption) ?_
      rotate_left
      · (intro wS hS; clear hS; go_simp; try with_reducible rfl)
      try simp only [Act.put, List.setIfInBounds_toArray, List.set_cons_zero, List.set_cons_succ]
      refine wpAnyH_take (i := 16) (v := ?_) (by (simp only [List.getElem?_toArray, List.getElem?_cons_succ, List.getElem?_cons_zero]; rfl)) (by kernel_rfl) (by kernel_rfl) (by kernel_rfl) (by exact fun _ _ _ h => h) (Or.inl ⟨by rfl, ?_⟩) (by assumption) ?_
      rotate_left
      · (intro wS hS; have hSc := hS.cells; clear hS; go_simp; try with_reducible rfl)
      try simp only [Act.put, List.setIfInBounds_toArray, List.set_cons_zero, List.set_cons_succ]
      refine wpAnyH_take (i := 17) (v := ?_) (by (simp only [List.getElem?_toArray, List.getElem?_cons_succ, List.getElem?_cons_zero]; rfl)) (by kernel_rfl) (by kernel_rfl) (by kernel_rfl) (by exact fun _ _ _ h => h) (Or.inl ⟨by rfl, ?_⟩) (by assumption) ?_
      rotate_left
      · (intro wS hS; clear hS; go_simp; try with_reducible rfl)
      try simp only [Act.put, List.setIfInBounds_toArray, List.set_cons_zero, List.set_cons_succ]
      refine wpAnyH_take (i := 18) (v := ?_) (by (simp only [List.getElem?_toArray, List.getElem?_cons_succ, List.getElem?_cons_zero]; rfl)) (by kernel_rfl) (by kernel_rfl) (by kernel_rfl) (by exact fun _ _ _ h => h) (Or.inl ⟨by rfl, ?_⟩) (by assumption) ?_
      rotate_left
      · (intro wS hS; clear hS; go_simp; try with_reducible rfl)
      try simp only [Act.put, List.setIfInBounds_toArray, List.set_cons_zero, List.set_cons_succ]
      refine wpAnyH_ready (rs := [9]) (by kernel_rfl) (by simp) ?_
      refine AllReadyH.cons (by (simp only [List.getElem?_toArray, List.getElem?_cons_succ, List.getElem?_cons_zero]; rfl)) (fun K hK => ?_) AllReadyH.nil
      go_simp
      (first | (go_at_call 25; (with_reducible refine (R1 _).mono ?_); rintro e w5 ⟨rfl, rfl⟩) | (go_at_call 25; (with_reducible refine (R2 _).mono ?_); rintro e w5 ⟨rfl, rfl⟩))
      (try go_wp2_with fail)
      refine hK.out _ _ (by first | exact hHeld | exact hHeld.up hb) (fun hHeld => ?_)
      clear hK K
      try simp only [Act.put, List.setIfInBounds_toArray, List.set_cons_zero, List.set_cons_succ]
      refine wpAnyH_ready (rs := [19]) (by kernel_rfl) (by simp) ?_
      refine AllReadyH.cons (by (simp only [List.getElem?_toArray, List.getElem?_cons_succ, List.getElem?_cons_zero]; rfl)) (fun K hK => ?_) AllReadyH.nil
      go_simp
      (first | (go_at_call 25; (with_reducible refine (R1 _).mono ?_); rintro e w5 ⟨rfl, rfl⟩) | (go_at_call 25; (with_reducible refine (R2 _).mono ?_); rintro e w5 ⟨rfl, rfl⟩))
      (try go_wp2_with fail)
      refine hK.out _ _ (by first | exact hHeld | exact hHeld.up hb) (fun hHeld => ?_)
      clear hK K
      try simp only [Act.put, List.setIfInBounds_toArray, List.set_cons_zero, List.set_cons_succ]
      refine wpAnyH_take (i := 20) (v := ?_) (by (simp only [List.getElem?_toArray, List.getElem?_cons_succ, List.getElem?_cons_zero]; rfl)) (by kernel_rfl) (by kernel_rfl) (by kernel_rfl) (by exact fun _ _ _ h => h) (Or.inl ⟨by rfl, ?_⟩) (by assumption) ?_
      rotate_left
      · (intro wS hS; clear hS; go_simp; try with_reducible rfl)
      try simp only [Act.put, List.setIfInBounds_toArray, List.set_cons_zero, List.set_cons_succ]
      refine wpAnyH_ready (rs := [21]) (by kernel_rfl) (by simp) ?_
      refine AllReadyH.cons (by (simp only [List.getElem?_toArray, List.getElem?_cons_succ, List.getElem?_cons_zero]; rfl)) (fun K hK => ?_) AllReadyH.nil
      obtain ⟨ra, rb, hRB⟩ := hHeld.res
      obtain ⟨rn0, rn1, rn2, rn3⟩ := hRB.rd2
      clear hRB
      go_simp
      refine hK.out _ _ (hHeld.two _ _) (fun hHeld => ?_)
      clear hK K
      try simp only [Act.put, List.setIfInBounds_toArray, List.set_cons_zero, List.set_cons_succ]
      refine wpAnyH_done (by kernel_rfl) ?_ _
      go_wp2
      unfold IsVec
      rw [e0.out]
      refine bodyPost_ret (by simp only [results, Try.results8]; go_simp; all_goals (first | exact rfl | exact ⟨rfl, rfl⟩ | skip)) rfl ⟨rfl, hHeld.bw b2 (Nat.le_succ _)⟩
theorem specRot_any (x y a : Int) (w : World) : Calls Try.prog 9 #[.agg #[.int .i64 x, .int .i64 y], .int .i64 a] w (IsVec (rotF x y a).1 (rotF x y a).2 w) := by
  have l0 := Blk.alloc (Blk.new w 24 #[.int .i64 x, .int .i64 y]) (.cells #[.int .i64 0, .int .i64 0] 24)
  have l1 := Blk.new (w.alloc (.cells #[.int .i64 x, .int .i64 y] 24)) 24 #[.int .i64 0, .int .i64 0]
  rw [World.size_alloc] at l1
  cases hv : vecB 1048576 x y
  · have e0 : Hid (rotF x y a = (0, 0)) := by unfold Hid rotF; rw [hv]; rfl
    go_enter Try.func9, Try.ntmps9
    go_wp2_with fail
    refine (l18Good_any x y _).mono ?_
    rintro e w1 ⟨he, hb⟩
    rw [hv] at he
    subst he
    replace l1 := l1.up hb
    have b1 : Below w.heap.size w w1 := (by repeat (first | exact bw_refl _ | assumption | apply bw_alloc | apply bw_drew | apply bw_drewN | (refine bw_trans ?_ (by assumption)) | (refine bw_set ?_ (by simp only [go_sem]; omega) _)))
    clear hb
    obtain ⟨g0, g1, f0, f1⟩ := l1.rd2
    go_wp2
    unfold IsVec
    rw [e0.out]
    refine bodyPost_ret (by simp only [results, Try.results9]; go_simp; all_goals (first | exact rfl | exact ⟨rfl, rfl⟩ | skip)) rfl ⟨rfl, (by repeat (first | exact bw_refl _ | assumption | apply bw_alloc | apply bw_drew | apply bw_drewN | (refine bw_trans ?_ (by assumption)) | (refine bw_set ?_ (by simp only [go_sem]; omega) _)))⟩
  · cases hi : inB a (-1152921504606846976) 1152921504606846976
    · have e0 : Hid (rotF x y a = (0, 0)) := by unfold Hid rotF; rw [hv, hi]; rfl
      go_enter Try.func9, Try.ntmps9
      go_wp2_with fail
      refine (l18Good_any x y _).mono ?_
      rintro e w1 ⟨he, hb⟩
      rw [hv] at he
      subst he
      replace l1 := l1.up hb
      have b1 : Below w.heap.size w w1 := (by repeat (first | exact bw_refl _ | assumption | apply bw_alloc | apply bw_drew | apply bw_drewN | (refine bw_trans ?_ (by assumption)) | (refine bw_set ?_ (by simp only [go_sem]; omega) _)))
      clear hb
      obtain ⟨g0, g1, f0, f1⟩ := l1.rd2
      go_wp2_with (go_at_call 27; refine (l1In_any _ _ _ _).mono ?_; rintro e w' ⟨he, rfl⟩; rw [hi] at he; subst he)
      unfold IsVec
      rw [e0.out]
      refine bodyPost_ret (by simp only [results, Try.results9]; go_simp; all_goals (first | exact rfl | exact ⟨rfl, rfl⟩ | skip)) rfl ⟨rfl, (by repeat (first | exact bw_refl _ | assumption | apply bw_alloc | apply bw_drew | apply bw_drewN | (refine bw_trans ?_ (by assumption)) | (refine bw_set ?_ (by simp only [go_sem]; omega) _)))⟩
    · have e0 : Hid (rotF x y a = (rdiv ((csT a).1 * x - (csT a).2 * y) 16384, rdiv ((csT a).2 * x + (csT a).1 * y) 16384)) := by unfold Hid rotF; rw [hv, hi]; rfl
      obtain ⟨⟨x0, x1⟩, y0, y1⟩ := vecB_spec _ _ _ hv
      obtain ⟨⟨c0, c1⟩, s0, s1⟩ := cs_bd a
      have M := specCs_any a
      unfold IsCs at M
      generalize (csT a).1 = c at *
      generalize (csT a).2 = s at *
      have k1 := mul_bd c x 17179869185 1048576 (by omega) (by omega) c0 c1 x0 x1
      have k2 := mul_bd s y 17179869185 1048576 (by omega) (by omega) s0 s1 y0 y1
      have k3 := mul_bd s x 17179869185 1048576 (by omega) (by omega) s0 s1 x0 x1
      have k4 := mul_bd c y 17179869185 1048576 (by omega) (by omega) c0 c1 y0 y1
      obtain ⟨p, hp⟩ : ∃ p, c * x = p := ⟨_, rfl⟩
      obtain ⟨q, hq⟩ : ∃ p, s * y = p := ⟨_, rfl⟩
      obtain ⟨r, hr⟩ : ∃ p, s * x = p := ⟨_, rfl⟩
      obtain ⟨t, ht⟩ : ∃ p, c * y = p := ⟨_, rfl⟩
      rw [hp] at k1; rw [hq] at k2; rw [hr] at k3; rw [ht] at k4
      rw [hp, hq, hr, ht] at e0
      have w1 : IntKind.i64.wrap p = p := IntWalk.i64_in _ (by omega)
      have w2 : IntKind.i64.wrap q = q := IntWalk.i64_in _ (by omega)
      have w3 : IntKind.i64.wrap r = r := IntWalk.i64_in _ (by omega)
      have w4 : IntKind.i64.wrap t = t := IntWalk.i64_in _ (by omega)
      have w5 : IntKind.i64.wrap (p - q) = p - q := IntWalk.i64_in _ (by omega)
      have w6 : IntKind.i64.wrap (r + t) = r + t := IntWalk.i64_in _ (by omega)
      have R1 := l1Round_any (p - q) 16384 (by decide) (by decide) (by omega) (by omega)
      have R2 := l1Round_any (r + t) 16384 (by decide) (by decide) (by omega) (by omega)
      generalize rdiv (p - q) 16384 = u at *
      generalize rdiv (r + t) 16384 = v at *
      clear k1 k2 k3 k4 x0 x1 y0 y1 c0 c1 s0 s1
      go_enter Try.func9, Try.ntmps9
      go_wp2_with fail
      refine (l18Good_any x y _).mono ?_
      rintro e w1' ⟨he, hb⟩
      rw [hv] at he
      subst he
      replace l0 := l0.up hb
      replace l1 := l1.up hb
      have b1 : Below w.heap.size w w1' := (by repeat (first | exact bw_refl _ | assumption | apply bw_alloc | apply bw_drew | apply bw_drewN | (refine bw_trans ?_ (by assumption)) | (refine bw_set ?_ (by simp only [go_sem]; omega) _)))
      clear hb
      go_wp2_with (go_at_call 27; refine (l1In_any _ _ _ _).mono ?_; rintro e w' ⟨he, rfl⟩; rw [hi] at he; subst he)
      refine (M _).mono ?_
      rintro e w2' ⟨rfl, hb⟩
      replace l0 := l0.up hb
      replace l1 := l1.up hb
      have b2 := bw_trans b1 hb
      clear hb b1 M
      go_wp2_with fail
      have z0 := l0.lt
      have z1 := l1.lt
      obtain ⟨g4, g5, -, -⟩ := l0.rd2
      have ne1 : w.heap.size + 1 ≠ w.heap.size := by omega
      have ne2 : w.heap.size ≠ w.heap.size + 1 := by omega
      refine wp_region_keep _ _ l1 (by kernel_rfl) (fun wD hHeld => ?_)
      refine wpAnyH_take (i := 0) (v := ?_) (by (simp only [List.getElem?_toArray, List.getElem?_cons_zero]; rfl)) (by kernel_rfl) (by kernel_rfl) (by kernel_rfl) (by exact fun _ _ _ h => h) (Or.inl ⟨by rfl, ?_⟩) (by assumption) ?_
      rotate_left
      · (intro wS hS; clear hS; go_simp; try with_reducible rfl)
      try simp only [Act.put, List.setIfInBounds_toArray, List.set_cons_zero, List.set_cons_succ]
      refine wpAnyH_take (i := 1) (v := ?_) (by (simp only [List.getElem?_toArray, List.getElem?_cons_succ, List.getElem?_cons_zero]; rfl)) (by kernel_rfl) (by kernel_rfl) (by kernel_rfl) (by exact fun _ _ _ h => h) (Or.inl ⟨by rfl, ?_⟩) (by assumption) ?_
      rotate_left
      · (intro wS hS; clear hS; go_simp; try with_reducible rfl)
      try simp only [Act.put, List.setIfInBounds_toArray, List.set_cons_zero, List.set_cons_succ]
      refine wpAnyH_take (i := 2) (v := ?_) (by (simp only [List.getElem?_toArray, List.getElem?_cons_succ, List.getElem?_cons_zero]; rfl)) (by kernel_rfl) (by kernel_rfl) (by kernel_rfl) (by exact fun _ _ _ h => h) (Or.inl ⟨by rfl, ?_⟩) (by assumption) ?_
      rotate_left
      · (intro wS hS; have hSc := hS.cells; clear hS; go_simp; try with_reducible rfl)
      try simp only [Act.put, List.setIfInBounds_toArray, List.set_cons_zero, List.set_cons_succ]
      refine wpAnyH_take (i := 3) (v := ?_) (by (simp only [List.getElem?_toArray, List.getElem?_cons_succ, List.getElem?_cons_zero]; rfl)) (by kernel_rfl) (by kernel_rfl) (by kernel_rfl) (by exact fun _ _ _ h => h) (Or.inl ⟨by rfl, ?_⟩) (by assumption) ?_
      rotate_left
      · (intro wS hS; clear hS; go_simp; try with_reducible rfl)
      try simp only [Act.put, List.setIfInBounds_toArray, List.set_cons_zero, List.set_cons_succ]
      refine wpAnyH_take (i := 4) (v := ?_) (by (simp only [List.getElem?_toArray, List.getElem?_cons_succ, List.getElem?_cons_zero]; rfl)) (by kernel_rfl) (by kernel_rfl) (by kernel_rfl) (by exact fun _ _ _ h => h) (Or.inl ⟨by rfl, ?_⟩) (by assumption) ?_
      rotate_left
      · (intro wS hS; clear hS; go_simp; try with_reducible rfl)
      try simp only [Act.put, List.setIfInBounds_toArray, List.set_cons_zero, List.set_cons_succ]
      refine wpAnyH_take (i := 5) (v := ?_) (by (simp only [List.getElem?_toArray, List.getElem?_cons_succ, List.getElem?_cons_zero]; rfl)) (by kernel_rfl) (by kernel_rfl) (by kernel_rfl) (by exact fun _ _ _ h => h) (Or.inl ⟨by rfl, ?_⟩) (by assumption) ?_
      rotate_left
      · (intro wS hS; clear hS; go_simp; try with_reducible rfl)
      try simp only [Act.put, List.setIfInBounds_toArray, List.set_cons_zero, List.set_cons_succ]
      refine wpAnyH_take (i := 6) (v := ?_) (by (simp only [List.getElem?_toArray, List.getElem?_cons_succ, List.getElem?_cons_zero]; rfl)) (by kernel_rfl) (by kernel_rfl) (by kernel_rfl) (by exact fun _ _ _ h => h) (Or.inl ⟨by rfl, ?_⟩) (by assumption) ?_
      rotate_left
      · (intro wS hS; have hSc := hS.cells; clear hS; go_simp; try with_reducible rfl)
      try simp only [Act.put, List.setIfInBounds_toArray, List.set_cons_zero, List.set_cons_succ]
      refine wpAnyH_take (i := 7) (v := ?_) (by (simp only [List.getElem?_toArray, List.getElem?_cons_succ, List.getElem?_cons_zero]; rfl)) (by kernel_rfl) (by kernel_rfl) (by kernel_rfl) (by exact fun _ _ _ h => h) (Or.inl ⟨by rfl, ?_⟩) (by assumption) ?_
      rotate_left
      · (intro wS hS; clear hS; go_simp; try with_reducible rfl)
      try simp only [Act.put, List.setIfInBounds_toArray, List.set_cons_zero, List.set_cons_succ]
      refine wpAnyH_take (i := 8) (v := ?_) (by (simp only [List.getElem?_toArray, List.getElem?_cons_succ, List.getElem?_cons_zero]; rfl)) (by kernel_rfl) (by kernel_rfl) (by kernel_rfl) (by exact fun _ _ _ h => h) (Or.inl ⟨by rfl, ?_⟩) (by assumption) ?_
      rotate_left
      · (intro wS hS; clear hS; go_simp; try with_reducible rfl)
      try simp only [Act.put, List.setIfInBounds_toArray, List.set_cons_zero, List.set_cons_succ]
      refine wpAnyH_take (i := 10) (v := ?_) (by (simp only [List.getElem?_toArray, List.getElem?_cons_succ, List.getElem?_cons_zero]; rfl)) (by kernel_rfl) (by kernel_rfl) (by kernel_rfl) (by exact fun _ _ _ h => h) (Or.inl ⟨by rfl, ?_⟩) (by assumption) ?_
      rotate_left
      · (intro wS hS; clear hS; go_simp; try with_reducible rfl)
      try simp only [Act.put, List.setIfInBounds_toArray, List.set_cons_zero, List.set_cons_succ]
      refine wpAnyH_take (i := 11) (v := ?_) (by (simp only [List.getElem?_toArray, List.getElem?_cons_succ, List.getElem?_cons_zero]; rfl)) (by kernel_rfl) (by kernel_rfl) (by kernel_rfl) (by exact fun _ _ _ h => h) (Or.inl ⟨by rfl, ?_⟩) (by assumption) ?_
      rotate_left
      · (intro wS hS; clear hS; go_simp; try with_reducible rfl)
      try simp only [Act.put, List.setIfInBounds_toArray, List.set_cons_zero, List.set_cons_succ]
      refine wpAnyH_take (i := 12) (v := ?_) (by (simp only [List.getElem?_toArray, List.getElem?_cons_succ, List.getElem?_cons_zero]; rfl)) (by kernel_rfl) (by kernel_rfl) (by kernel_rfl) (by exact fun _ _ _ h => h) (Or.inl ⟨by rfl, ?_⟩) (by assumption) ?_
      rotate_left
      · (intro wS hS; have hSc := hS.cells; clear hS; go_simp; try with_reducible rfl)
      try simp only [Act.put, List.setIfInBounds_toArray, List.set_cons_zero, List.set_cons_succ]
      refine wpAnyH_take (i := 13) (v := ?_) (by (simp only [List.getElem?_toArray, List.getElem?_cons_succ, List.getElem?_cons_zero]; rfl)) (by kernel_rfl) (by kernel_rfl) (by kernel_rfl) (by exact fun _ _ _ h => h) (Or.inl ⟨by rfl, ?_⟩) (by assumption) ?_
      rotate_left
      · (intro wS hS; clear hS; go_simp; try with_reducible rfl)
      try simp only [Act.put, List.setIfInBounds_toArray, List.set_cons_zero, List.set_cons_succ]
      refine wpAnyH_take (i := 14) (v := ?_) (by (simp only [List.getElem?_toArray, List.getElem?_cons_succ, List.getElem?_cons_zero]; rfl)) (by kernel_rfl) (by kernel_rfl) (by kernel_rfl) (by exact fun _ _ _ h => h) (Or.inl ⟨by rfl, ?_⟩) (by assumption) ?_
      rotate_left
      · (intro wS hS; clear hS; go_simp; try with_reducible rfl)
      try simp only [Act.put, List.setIfInBounds_toArray, List.set_cons_zero, List.set_cons_succ]
      refine wpAnyH_take (i := 15) (v := ?_) (by (simp only [List.getElem?_toArray, List.getElem?_cons_succ, List.getElem?_cons_zero]; rfl)) (by kernel_rfl) (by kernel_rfl) (by kernel_rfl) (by exact fun _ _ _ h => h) (Or.inl ⟨by rfl, ?_⟩) (by assumption) ?_
      rotate_left
      · (intro wS hS; clear hS; go_simp; try with_reducible rfl)
      try simp only [Act.put, List.setIfInBounds_toArray, List.set_cons_zero, List.set_cons_succ]
      refine wpAnyH_take (i := 16) (v := ?_) (by (simp only [List.getElem?_toArray, List.getElem?_cons_succ, List.getElem?_cons_zero]; rfl)) (by kernel_rfl) (by kernel_rfl) (by kernel_rfl) (by exact fun _ _ _ h => h) (Or.inl ⟨by rfl, ?_⟩) (by assumption) ?_
      rotate_left
      · (intro wS hS; have hSc := hS.cells; clear hS; go_simp; try with_reducible rfl)
      try simp only [Act.put, List.setIfInBounds_toArray, List.set_cons_zero, List.set_cons_succ]
      refine wpAnyH_take (i := 17) (v := ?_) (by (simp only [List.getElem?_toArray, List.getElem?_cons_succ, List.getElem?_cons_zero]; rfl)) (by kernel_rfl) (by kernel_rfl) (by kernel_rfl) (by exact fun _ _ _ h => h) (Or.inl ⟨by rfl, ?_⟩) (by assumption) ?_
      rotate_left
      · (intro wS hS; clear hS; go_simp; try with_reducible rfl)
      try simp only [Act.put, List.setIfInBounds_toArray, List.set_cons_zero, List.set_cons_succ]
      refine wpAnyH_take (i := 18) (v := ?_) (by (simp only [List.getElem?_toArray, List.getElem?_cons_succ, List.getElem?_cons_zero]; rfl)) (by kernel_rfl) (by kernel_rfl) (by kernel_rfl) (by exact fun _ _ _ h => h) (Or.inl ⟨by rfl, ?_⟩) (by assumption) ?_
      rotate_left
      · (intro wS hS; clear hS; go_simp; try with_reducible rfl)
      try simp only [Act.put, List.setIfInBounds_toArray, List.set_cons_zero, List.set_cons_succ]
      refine wpAnyH_ready (rs := [9]) (by kernel_rfl) (by simp) ?_
      refine AllReadyH.cons (by (simp only [List.getElem?_toArray, List.getElem?_cons_succ, List.getElem?_cons_zero]; rfl)) (fun K hK => ?_) AllReadyH.nil
      go_simp
      (first | (go_at_call 28; (with_reducible refine (R1 _).mono ?_); rintro e w5 ⟨rfl, rfl⟩) | (go_at_call 28; (with_reducible refine (R2 _).mono ?_); rintro e w5 ⟨rfl, rfl⟩))
      (try go_wp2_with fail)
      refine hK.out _ _ (by first | exact hHeld | exact hHeld.up hb) (fun hHeld => ?_)
      clear hK K
      try simp only [Act.put, List.setIfInBounds_toArray, List.set_cons_zero, List.set_cons_succ]
      refine wpAnyH_ready (rs := [19]) (by kernel_rfl) (by simp) ?_
      refine AllReadyH.cons (by (simp only [List.getElem?_toArray, List.getElem?_cons_succ, List.getElem?_cons_zero]; rfl)) (fun K hK => ?_) AllReadyH.nil
      go_simp
      (first | (go_at_call 28; (with_reducible refine (R1 _).mono ?_); rintro e w5 ⟨rfl, rfl⟩) | (go_at_call 28; (with_reducible refine (R2 _).mono ?_); rintro e w5 ⟨rfl, rfl⟩))
      (try go_wp2_with fail)
      refine hK.out _ _ (by first | exact hHeld | exact hHeld.up hb) (fun hHeld => ?_)
      clear hK K
      try simp only [Act.put, List.setIfInBounds_toArray, List.set_cons_zero, List.set_cons_succ]
      refine wpAnyH_take (i := 20) (v := ?_) (by (simp only [List.getElem?_toArray, List.getElem?_cons_succ, List.getElem?_cons_zero]; rfl)) (by kernel_rfl) (by kernel_rfl) (by kernel_rfl) (by exact fun _ _ _ h => h) (Or.inl ⟨by rfl, ?_⟩) (by assumption) ?_
      rotate_left
      · (intro wS hS; clear hS; go_simp; try with_reducible rfl)
      try simp only [Act.put, List.setIfInBounds_toArray, List.set_cons_zero, List.set_cons_succ]
      refine wpAnyH_ready (rs := [21]) (by kernel_rfl) (by simp) ?_
      refine AllReadyH.cons (by (simp only [List.getElem?_toArray, List.getElem?_cons_succ, List.getElem?_cons_zero]; rfl)) (fun K hK => ?_) AllReadyH.nil
      obtain ⟨ra, rb, hRB⟩ := hHeld.res
      obtain ⟨rn0, rn1, rn2, rn3⟩ := hRB.rd2
      clear hRB
      go_simp
      refine hK.out _ _ (hHeld.two _ _) (fun hHeld => ?_)
      clear hK K
      try simp only [Act.put, List.setIfInBounds_toArray, List.set_cons_zero, List.set_cons_succ]
      refine wpAnyH_done (by kernel_rfl) ?_ _
      go_wp2
      unfold IsVec
      rw [e0.out]
      refine bodyPost_ret (by simp only [results, Try.results9]; go_simp; all_goals (first | exact rfl | exact ⟨rfl, rfl⟩ | skip)) rfl ⟨rfl, hHeld.bw b2 (Nat.le_succ _)⟩
theorem eqVector_any (x y u v : Int) (w : World) : Calls Try.prog 14 #[.agg #[.int .i64 x, .int .i64 y], .agg #[.int .i64 u, .int .i64 v]] w fun e w' => e = .returned (.bool (x == u && y == v)) ∧ Below w.heap.size w w' := by
  by_cases h1 : x = u
  · subst h1
    by_cases h2 : y = v
    · subst h2
      go_enter Try.func14, Try.ntmps14
      go_wp2
      go_ret
      exact ⟨ret_bool (by simp), (by repeat (first | exact bw_refl _ | assumption | apply bw_alloc | apply bw_drew | apply bw_drewN | (refine bw_trans ?_ (by assumption)) | (refine bw_set ?_ (by simp only [go_sem]; omega) _)))⟩
    · have h3 : (y != v) = true := bne_iff_ne.2 h2
      go_enter Try.func14, Try.ntmps14
      go_wp2
      go_ret
      exact ⟨ret_bool (by simp [h2]), (by repeat (first | exact bw_refl _ | assumption | apply bw_alloc | apply bw_drew | apply bw_drewN | (refine bw_trans ?_ (by assumption)) | (refine bw_set ?_ (by simp only [go_sem]; omega) _)))⟩
  · have h3 : (x != u) = true := bne_iff_ne.2 h1
    go_enter Try.func14, Try.ntmps14
    go_wp2
    go_ret
    exact ⟨ret_bool (by simp [h1]), (by repeat (first | exact bw_refl _ | assumption | apply bw_alloc | apply bw_drew | apply bw_drewN | (refine bw_trans ?_ (by assumption)) | (refine bw_set ?_ (by simp only [go_sem]; omega) _)))⟩
theorem walk_FnExactRotateVector (x y a : Int) (w : World) (_ : (Lit.int .i64 x).wf = true) (_ : (Lit.int .i64 y).wf = true) (_ : (Lit.int .i64 a).wf = true) :
    Calls Try.prog 4 #[.agg #[.int .i64 x, .int .i64 y], .int .i64 a] w fun e w' => e = .returned (.bool true) ∧ Below w.heap.size w w' := by
  have M1 := specRot_any x y a
  have M2 := implRot_any x y a
  unfold IsVec at M1 M2
  generalize (rotF x y a).1 = X at *
  generalize (rotF x y a).2 = Y at *
  have hxx : (X == X && Y == Y) = true := by simp
  have HX := Lib.hid hxx
  clear hxx
  have l0 := Blk.new w 32 #[.int .i64 x, .int .i64 y]
  go_enter Try.func4, Try.ntmps4
  go_wp2_with fail
  refine (toVector_any x y _).mono ?_
  rintro e w1 ⟨rfl, hb⟩
  replace l0 := l0.up hb
  have b1 : Below w.heap.size w w1 := (by repeat (first | exact bw_refl _ | assumption | apply bw_alloc | apply bw_drew | apply bw_drewN | (refine bw_trans ?_ (by assumption)) | (refine bw_set ?_ (by simp only [go_sem]; omega) _)))
  clear hb
  go_wp2_with fail
  refine (M1 _).mono ?_
  rintro e w2 ⟨rfl, hb⟩
  replace l0 := (l0.up hb).alloc (.cells #[.int .i64 X, .int .i64 Y] 24)
  have l1 := Blk.new w2 24 #[.int .i64 X, .int .i64 Y]
  have b2 : Below w.heap.size w w2 := (by repeat (first | exact bw_refl _ | assumption | apply bw_alloc | apply bw_drew | apply bw_drewN | (refine bw_trans ?_ (by assumption)) | (refine bw_set ?_ (by simp only [go_sem]; omega) _)))
  clear hb b1
  have z0 := l0.lt
  obtain ⟨g0, g1, -, -⟩ := l0.rd2
  go_wp2_with fail
  refine (toVector_any x y _).mono ?_
  rintro e w3 ⟨rfl, hb⟩
  replace l1 := l1.up hb
  have b3 : Below w.heap.size w w3 := (by repeat (first | exact bw_refl _ | assumption | apply bw_alloc | apply bw_drew | apply bw_drewN | (refine bw_trans ?_ (by assumption)) | (refine bw_set ?_ (by simp only [go_sem]; omega) _)))
  clear hb b2 g0 g1 z0 l0
  go_wp2_with fail
  refine (M2 _).mono ?_
  rintro e w4 ⟨rfl, hb⟩
  replace l1 := (l1.up hb).alloc (.cells #[.int .i64 X, .int .i64 Y] 24)
  have b4 : Below w.heap.size w w4 := (by repeat (first | exact bw_refl _ | assumption | apply bw_alloc | apply bw_drew | apply bw_drewN | (refine bw_trans ?_ (by assumption)) | (refine bw_set ?_ (by simp only [go_sem]; omega) _)))
  clear hb b3
  have z1 := l1.lt
  obtain ⟨g0, g1, -, -⟩ := l1.rd2
  go_wp2_with fail
  refine (eqVector_any X Y X Y _).mono ?_
  rintro e w5 ⟨he, hb⟩
  rw [HX.out] at he
  subst he
  go_wp2
  go_ret
  exact ⟨rfl, (by repeat (first | exact bw_refl _ | assumption | apply bw_alloc | apply bw_drew | apply bw_drewN | (refine bw_trans ?_ (by assumption)) | (refine bw_set ?_ (by simp only [go_sem]; omega) _)))⟩
end Go.Proofs.Ytndpmcegealhiaa
