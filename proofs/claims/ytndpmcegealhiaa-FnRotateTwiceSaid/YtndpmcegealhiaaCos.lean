/- Contracts of cosines and sines, both sides; condition: none, or an eighth. -/
import Derived.Test.YtndpmcegealhiaaGrow2
import Derived.Test.YtndpmcegealhiaaTurnV
import Derived.Test.YtndpmcegealhiaaDir
namespace Go.Proofs.Ytndpmcegealhiaa
open Go.RowKit
set_option linter.unusedVariables false
set_option linter.unusedSimpArgs false
set_option maxHeartbeats 2000000

theorem run_min2 (p q : Int) (ts : Array TypeId) (t : TypeId) (W : World) : (Builtin.min_ ts t #[.int .i64 p, .int .i64 q]).run Try.prog W = .ok (.int .i64 (min p q)) W := by
  have e : ∀ x y : Int, (if y < x then y else x) = min x y := fun x y => by split <;> omega
  simp [Builtin.min_, Builtin.min2, e]
theorem run_max2 (p q : Int) (ts : Array TypeId) (t : TypeId) (W : World) : (Builtin.max_ ts t #[.int .i64 p, .int .i64 q]).run Try.prog W = .ok (.int .i64 (max p q)) W := by
  have e : ∀ x y : Int, (if x < y then y else x) = max x y := fun x y => by split <;> omega
  simp [Builtin.max_, Builtin.max2, e]
def IsTwo (c s : Int) (w : World) (e : Ending) (w' : World) : Prop := e = .returned (.tuple #[.int .i64 c, .int .i64 s]) ∧ Below w.heap.size w w'
theorem eigh_bd (a : Int) : eighC a ≤ 16384 ∧ 0 ≤ eighS a := by
  unfold eighC eighS
  split <;> omega
theorem implEigh_ok (a : Int) (h0 : 0 ≤ a) (h1 : a ≤ 8192) (w : World) : Calls Try.prog 32 #[.int .i64 a] w (IsTwo (eighC a) (eighS a) w) := by
  by_cases hz : a = 0
  · subst hz
    have e0 : Hid (eighC 0 = 16384 ∧ eighS 0 = 0) := by unfold Hid eighC eighS; exact ⟨rfl, rfl⟩
    go_enter Try.func32, Try.ntmps32
    go_wp2
    go_ret2
    unfold IsTwo
    rw [e0.out.1, e0.out.2]
    exact ⟨rfl, (by repeat (first | exact bw_refl _ | assumption | apply bw_alloc | apply bw_drew | apply bw_drewN | (refine bw_trans ?_ (by assumption)) | (refine bw_set ?_ (by simp only [go_sem]; omega) _)))⟩
  · have q0 : (a == 0) = false := beq_eq_false_iff_ne.2 hz
    have M := implTurn_20 163008216 0 (a * 1024) (by omega) (by omega) (by omega)
    have Bd := Lib.hid (turn_end 163008216 0 (a * 1024) (by omega) (by omega) (by omega))
    unfold turnPost at M
    have e1 : eighC a = min (rdiv (turnS 163008216 0 (a * 1024) 20).1 16384) 16384 := by unfold eighC; rw [if_neg hz]
    have e2 : eighS a = max (rdiv (turnS 163008216 0 (a * 1024) 20).2.1 16384) 0 := by unfold eighS; rw [if_neg hz]
    rw [e1, e2]
    clear e1 e2
    generalize (turnS 163008216 0 (a * 1024) 20).1 = X at *
    generalize (turnS 163008216 0 (a * 1024) 20).2.1 = Y at *
    generalize (turnS 163008216 0 (a * 1024) 20).2.2 = Z at *
    obtain ⟨⟨X0, X1⟩, Y0, Y1⟩ := Bd.out
    have R1 := implRoundShift_ok X 14 (by decide) (by decide) (by omega) (by omega)
    have R2 := implRoundShift_ok Y 14 (by decide) (by decide) (by omega) (by omega)
    clear Bd X0 X1 Y0 Y1
    have ep : (2 : Int) ^ (14 : Int).toNat = 16384 := rfl
    rw [ep] at R1 R2
    clear ep
    generalize rdiv X 16384 = r at *
    generalize rdiv Y 16384 = s at *
    have m1 := run_min2 r 16384
    have m2 := run_max2 s 0
    generalize min r 16384 = c at *
    generalize max s 0 = d at *
    have w1 : IntKind.i64.wrap (a * 1024) = a * 1024 := IntWalk.i64_in _ (by omega)
    go_enter Try.func32, Try.ntmps32
    go_wp2_with fail
    refine (implStart_20 _).mono ?_
    rintro e w1 ⟨rfl, b1⟩
    go_wp2_with fail
    refine (M _).mono ?_
    rintro e w2 ⟨rfl, b2⟩
    clear M
    have b3 : Below w.heap.size w (w2.alloc (.cells #[.int .i64 X, .int .i64 Y] 24)) := (by repeat (first | exact bw_refl _ | assumption | apply bw_alloc | apply bw_drew | apply bw_drewN | (refine bw_trans ?_ (by assumption)) | (refine bw_set ?_ (by simp only [go_sem]; omega) _)))
    have l4 := Blk.new w2 24 #[.int .i64 X, .int .i64 Y]
    obtain ⟨g4, hg4⟩ : ∃ g, w2.heap.size = g := ⟨_, rfl⟩
    rw [hg4] at l4
    go_upto_region 4 with fail
    clear b1 b2
    generalize w2.alloc (.cells #[.int .i64 X, .int .i64 Y] 24) = W at *
    clear hg4
    obtain ⟨c0, c1, -, -⟩ := l4.rd2
    have z4 := l4.lt
    refine wp_region_below (by kernel_rfl) (fun wD hHeld => ?_)
    refine wpAnyH_take (i := 0) (v := ?_) (by (simp only [List.getElem?_toArray, List.getElem?_cons_zero]; rfl)) (by kernel_rfl) (by kernel_rfl) (by kernel_rfl) (by exact fun _ _ _ h => h) (Or.inl ⟨by rfl, ?_⟩) (by assumption) ?_
    rotate_left
    · (intro wS hS; clear hS; go_simp; try with_reducible rfl)
    try simp only [Act.put, List.setIfInBounds_toArray, List.set_cons_zero, List.set_cons_succ]
    refine wpAnyH_take (i := 1) (v := ?_) (by (simp only [List.getElem?_toArray, List.getElem?_cons_succ, List.getElem?_cons_zero]; rfl)) (by kernel_rfl) (by kernel_rfl) (by kernel_rfl) (by exact fun _ _ _ h => h) (Or.inl ⟨by rfl, ?_⟩) (by assumption) ?_
    rotate_left
    · (intro wS hS; have hSc := (bcell hS).1; clear hS; go_simp; try with_reducible rfl)
    try simp only [Act.put, List.setIfInBounds_toArray, List.set_cons_zero, List.set_cons_succ]
    refine wpAnyH_take (i := 4) (v := ?_) (by (simp only [List.getElem?_toArray, List.getElem?_cons_succ, List.getElem?_cons_zero]; rfl)) (by kernel_rfl) (by kernel_rfl) (by kernel_rfl) (by exact fun _ _ _ h => h) (Or.inl ⟨by rfl, ?_⟩) (by assumption) ?_
    rotate_left
    · (intro wS hS; clear hS; go_simp; try with_reducible rfl)
    try simp only [Act.put, List.setIfInBounds_toArray, List.set_cons_zero, List.set_cons_succ]
    refine wpAnyH_take (i := 5) (v := ?_) (by (simp only [List.getElem?_toArray, List.getElem?_cons_succ, List.getElem?_cons_zero]; rfl)) (by kernel_rfl) (by kernel_rfl) (by kernel_rfl) (by exact fun _ _ _ h => h) (Or.inl ⟨by rfl, ?_⟩) (by assumption) ?_
    rotate_left
    · (intro wS hS; have hSc := (bcell hS).1; clear hS; go_simp; try with_reducible rfl)
    try simp only [Act.put, List.setIfInBounds_toArray, List.set_cons_zero, List.set_cons_succ]
    refine wpAnyH_ready (rs := [2]) (by kernel_rfl) (by simp) ?_
    refine AllReadyH.cons (by (simp only [List.getElem?_toArray, List.getElem?_cons_succ, List.getElem?_cons_zero]; rfl)) (fun K hK => ?_) AllReadyH.nil
    go_simp
    (first | (go_at_call 25; (with_reducible refine (R1 _).mono ?_); rintro e w5 ⟨rfl, rfl⟩) | (go_at_call 25; (with_reducible refine (R2 _).mono ?_); rintro e w5 ⟨rfl, rfl⟩))
    (try go_wp2_with fail)
    refine hK.out _ _ (by repeat (first | exact bw_refl _ | assumption | apply bw_alloc | apply bw_drew | apply bw_drewN | (refine bw_trans ?_ (by assumption)) | (refine bw_set ?_ (by simp only [go_sem]; omega) _))) (fun hHeld => ?_)
    clear hK K
    try simp only [Act.put, List.setIfInBounds_toArray, List.set_cons_zero, List.set_cons_succ]
    refine wpAnyH_take (i := 3) (v := ?_) (by (simp only [List.getElem?_toArray, List.getElem?_cons_succ, List.getElem?_cons_zero]; rfl)) (by kernel_rfl) (by kernel_rfl) (by kernel_rfl) (by exact fun _ _ _ h => h) (Or.inl ⟨by rfl, ?_⟩) (by assumption) ?_
    rotate_left
    · (intro wS hS; clear hS; go_simp; try with_reducible rfl)
    try simp only [Act.put, List.setIfInBounds_toArray, List.set_cons_zero, List.set_cons_succ]
    refine wpAnyH_ready (rs := [6]) (by kernel_rfl) (by simp) ?_
    refine AllReadyH.cons (by (simp only [List.getElem?_toArray, List.getElem?_cons_succ, List.getElem?_cons_zero]; rfl)) (fun K hK => ?_) AllReadyH.nil
    go_simp
    (first | (go_at_call 25; (with_reducible refine (R1 _).mono ?_); rintro e w5 ⟨rfl, rfl⟩) | (go_at_call 25; (with_reducible refine (R2 _).mono ?_); rintro e w5 ⟨rfl, rfl⟩))
    (try go_wp2_with fail)
    refine hK.out _ _ (by repeat (first | exact bw_refl _ | assumption | apply bw_alloc | apply bw_drew | apply bw_drewN | (refine bw_trans ?_ (by assumption)) | (refine bw_set ?_ (by simp only [go_sem]; omega) _))) (fun hHeld => ?_)
    clear hK K
    try simp only [Act.put, List.setIfInBounds_toArray, List.set_cons_zero, List.set_cons_succ]
    refine wpAnyH_take (i := 7) (v := ?_) (by (simp only [List.getElem?_toArray, List.getElem?_cons_succ, List.getElem?_cons_zero]; rfl)) (by kernel_rfl) (by kernel_rfl) (by kernel_rfl) (by exact fun _ _ _ h => h) (Or.inl ⟨by rfl, ?_⟩) (by assumption) ?_
    rotate_left
    · (intro wS hS; clear hS; go_simp; try with_reducible rfl)
    try simp only [Act.put, List.setIfInBounds_toArray, List.set_cons_zero, List.set_cons_succ]
    refine wpAnyH_take (i := 8) (v := ?_) (by (simp only [List.getElem?_toArray, List.getElem?_cons_succ, List.getElem?_cons_zero]; rfl)) (by kernel_rfl) (by kernel_rfl) (by kernel_rfl) (by exact fun _ _ _ h => h) (Or.inl ⟨by rfl, ?_⟩) (by assumption) ?_
    rotate_left
    · (intro wS hS; clear hS; go_simp; try with_reducible rfl)
    try simp only [Act.put, List.setIfInBounds_toArray, List.set_cons_zero, List.set_cons_succ]
    refine wpAnyH_take (i := 9) (v := ?_) (by (simp only [List.getElem?_toArray, List.getElem?_cons_succ, List.getElem?_cons_zero]; rfl)) (by kernel_rfl) (by kernel_rfl) (by kernel_rfl) (by exact fun _ _ _ h => h) (Or.inl ⟨by rfl, ?_⟩) (by assumption) ?_
    rotate_left
    · (intro wS hS; clear hS; go_simp; try with_reducible rfl)
    try simp only [Act.put, List.setIfInBounds_toArray, List.set_cons_zero, List.set_cons_succ]
    refine wpAnyH_done (by kernel_rfl) ?_ _
    go_wp2
    go_ret2
    unfold IsTwo
    exact ⟨rfl, (by repeat (first | exact bw_refl _ | assumption | apply bw_alloc | apply bw_drew | apply bw_drewN | (refine bw_trans ?_ (by assumption)) | (refine bw_set ?_ (by simp only [go_sem]; omega) _)))⟩
theorem specEigh_ok (a : Int) (h0 : 0 ≤ a) (h1 : a ≤ 8192) (w : World) : Calls Try.prog 36 #[.int .i64 a] w (IsTwo (eighC a) (eighS a) w) := by
  by_cases hz : a = 0
  · subst hz
    have e0 : Hid (eighC 0 = 16384 ∧ eighS 0 = 0) := by unfold Hid eighC eighS; exact ⟨rfl, rfl⟩
    go_enter Try.func36, Try.ntmps36
    go_wp2
    go_ret2
    unfold IsTwo
    rw [e0.out.1, e0.out.2]
    exact ⟨rfl, (by repeat (first | exact bw_refl _ | assumption | apply bw_alloc | apply bw_drew | apply bw_drewN | (refine bw_trans ?_ (by assumption)) | (refine bw_set ?_ (by simp only [go_sem]; omega) _)))⟩
  · have q0 : (a == 0) = false := beq_eq_false_iff_ne.2 hz
    have M := specTurn_20 163008216 0 (a * 1024) (by omega) (by omega) (by omega)
    have Bd := Lib.hid (turn_end 163008216 0 (a * 1024) (by omega) (by omega) (by omega))
    unfold turnPost at M
    have e1 : eighC a = min (rdiv (turnS 163008216 0 (a * 1024) 20).1 16384) 16384 := by unfold eighC; rw [if_neg hz]
    have e2 : eighS a = max (rdiv (turnS 163008216 0 (a * 1024) 20).2.1 16384) 0 := by unfold eighS; rw [if_neg hz]
    rw [e1, e2]
    clear e1 e2
    generalize (turnS 163008216 0 (a * 1024) 20).1 = X at *
    generalize (turnS 163008216 0 (a * 1024) 20).2.1 = Y at *
    generalize (turnS 163008216 0 (a * 1024) 20).2.2 = Z at *
    obtain ⟨⟨X0, X1⟩, Y0, Y1⟩ := Bd.out
    have R1 := l1Round_any X 16384 (by decide) (by decide) (by omega) (by omega)
    have R2 := l1Round_any Y 16384 (by decide) (by decide) (by omega) (by omega)
    clear Bd X0 X1 Y0 Y1
    generalize rdiv X 16384 = r at *
    generalize rdiv Y 16384 = s at *
    have m1 := run_min2 16384 r
    have m2 := run_max2 0 s
    rw [show min 16384 r = min r 16384 by omega] at m1
    rw [show max 0 s = max s 0 by omega] at m2
    generalize min r 16384 = c at *
    generalize max s 0 = d at *
    have w1 : IntKind.i64.wrap (a * 1024) = a * 1024 := IntWalk.i64_in _ (by omega)
    go_enter Try.func36, Try.ntmps36
    go_wp2_with fail
    refine (specStart_20 _).mono ?_
    rintro e w1 ⟨rfl, b1⟩
    go_wp2_with fail
    refine (M _).mono ?_
    rintro e w2 ⟨rfl, b2⟩
    clear M
    have b3 : Below w.heap.size w (w2.alloc (.cells #[.int .i64 X, .int .i64 Y] 24)) := (by repeat (first | exact bw_refl _ | assumption | apply bw_alloc | apply bw_drew | apply bw_drewN | (refine bw_trans ?_ (by assumption)) | (refine bw_set ?_ (by simp only [go_sem]; omega) _)))
    have l4 := Blk.new w2 24 #[.int .i64 X, .int .i64 Y]
    obtain ⟨g4, hg4⟩ : ∃ g, w2.heap.size = g := ⟨_, rfl⟩
    rw [hg4] at l4
    go_upto_region 4 with fail
    clear b1 b2
    generalize w2.alloc (.cells #[.int .i64 X, .int .i64 Y] 24) = W at *
    clear hg4
    obtain ⟨c0, c1, -, -⟩ := l4.rd2
    have z4 := l4.lt
    refine wp_region_below (by kernel_rfl) (fun wD hHeld => ?_)
    refine wpAnyH_take (i := 0) (v := ?_) (by (simp only [List.getElem?_toArray, List.getElem?_cons_zero]; rfl)) (by kernel_rfl) (by kernel_rfl) (by kernel_rfl) (by exact fun _ _ _ h => h) (Or.inl ⟨by rfl, ?_⟩) (by assumption) ?_
    rotate_left
    · (intro wS hS; clear hS; go_simp; try with_reducible rfl)
    try simp only [Act.put, List.setIfInBounds_toArray, List.set_cons_zero, List.set_cons_succ]
    refine wpAnyH_take (i := 1) (v := ?_) (by (simp only [List.getElem?_toArray, List.getElem?_cons_succ, List.getElem?_cons_zero]; rfl)) (by kernel_rfl) (by kernel_rfl) (by kernel_rfl) (by exact fun _ _ _ h => h) (Or.inl ⟨by rfl, ?_⟩) (by assumption) ?_
    rotate_left
    · (intro wS hS; have hSc := (bcell hS).1; clear hS; go_simp; try with_reducible rfl)
    try simp only [Act.put, List.setIfInBounds_toArray, List.set_cons_zero, List.set_cons_succ]
    refine wpAnyH_take (i := 4) (v := ?_) (by (simp only [List.getElem?_toArray, List.getElem?_cons_succ, List.getElem?_cons_zero]; rfl)) (by kernel_rfl) (by kernel_rfl) (by kernel_rfl) (by exact fun _ _ _ h => h) (Or.inl ⟨by rfl, ?_⟩) (by assumption) ?_
    rotate_left
    · (intro wS hS; clear hS; go_simp; try with_reducible rfl)
    try simp only [Act.put, List.setIfInBounds_toArray, List.set_cons_zero, List.set_cons_succ]
    refine wpAnyH_take (i := 5) (v := ?_) (by (simp only [List.getElem?_toArray, List.getElem?_cons_succ, List.getElem?_cons_zero]; rfl)) (by kernel_rfl) (by kernel_rfl) (by kernel_rfl) (by exact fun _ _ _ h => h) (Or.inl ⟨by rfl, ?_⟩) (by assumption) ?_
    rotate_left
    · (intro wS hS; have hSc := (bcell hS).1; clear hS; go_simp; try with_reducible rfl)
    try simp only [Act.put, List.setIfInBounds_toArray, List.set_cons_zero, List.set_cons_succ]
    refine wpAnyH_ready (rs := [2]) (by kernel_rfl) (by simp) ?_
    refine AllReadyH.cons (by (simp only [List.getElem?_toArray, List.getElem?_cons_succ, List.getElem?_cons_zero]; rfl)) (fun K hK => ?_) AllReadyH.nil
    go_simp
    (first | (go_at_call 28; (with_reducible refine (R1 _).mono ?_); rintro e w5 ⟨rfl, rfl⟩) | (go_at_call 28; (with_reducible refine (R2 _).mono ?_); rintro e w5 ⟨rfl, rfl⟩))
    (try go_wp2_with fail)
    refine hK.out _ _ (by repeat (first | exact bw_refl _ | assumption | apply bw_alloc | apply bw_drew | apply bw_drewN | (refine bw_trans ?_ (by assumption)) | (refine bw_set ?_ (by simp only [go_sem]; omega) _))) (fun hHeld => ?_)
    clear hK K
    try simp only [Act.put, List.setIfInBounds_toArray, List.set_cons_zero, List.set_cons_succ]
    refine wpAnyH_take (i := 3) (v := ?_) (by (simp only [List.getElem?_toArray, List.getElem?_cons_succ, List.getElem?_cons_zero]; rfl)) (by kernel_rfl) (by kernel_rfl) (by kernel_rfl) (by exact fun _ _ _ h => h) (Or.inl ⟨by rfl, ?_⟩) (by assumption) ?_
    rotate_left
    · (intro wS hS; clear hS; go_simp; try with_reducible rfl)
    try simp only [Act.put, List.setIfInBounds_toArray, List.set_cons_zero, List.set_cons_succ]
    refine wpAnyH_ready (rs := [6]) (by kernel_rfl) (by simp) ?_
    refine AllReadyH.cons (by (simp only [List.getElem?_toArray, List.getElem?_cons_succ, List.getElem?_cons_zero]; rfl)) (fun K hK => ?_) AllReadyH.nil
    go_simp
    (first | (go_at_call 28; (with_reducible refine (R1 _).mono ?_); rintro e w5 ⟨rfl, rfl⟩) | (go_at_call 28; (with_reducible refine (R2 _).mono ?_); rintro e w5 ⟨rfl, rfl⟩))
    (try go_wp2_with fail)
    refine hK.out _ _ (by repeat (first | exact bw_refl _ | assumption | apply bw_alloc | apply bw_drew | apply bw_drewN | (refine bw_trans ?_ (by assumption)) | (refine bw_set ?_ (by simp only [go_sem]; omega) _))) (fun hHeld => ?_)
    clear hK K
    try simp only [Act.put, List.setIfInBounds_toArray, List.set_cons_zero, List.set_cons_succ]
    refine wpAnyH_take (i := 7) (v := ?_) (by (simp only [List.getElem?_toArray, List.getElem?_cons_succ, List.getElem?_cons_zero]; rfl)) (by kernel_rfl) (by kernel_rfl) (by kernel_rfl) (by exact fun _ _ _ h => h) (Or.inl ⟨by rfl, ?_⟩) (by assumption) ?_
    rotate_left
    · (intro wS hS; clear hS; go_simp; try with_reducible rfl)
    try simp only [Act.put, List.setIfInBounds_toArray, List.set_cons_zero, List.set_cons_succ]
    refine wpAnyH_take (i := 8) (v := ?_) (by (simp only [List.getElem?_toArray, List.getElem?_cons_succ, List.getElem?_cons_zero]; rfl)) (by kernel_rfl) (by kernel_rfl) (by kernel_rfl) (by exact fun _ _ _ h => h) (Or.inl ⟨by rfl, ?_⟩) (by assumption) ?_
    rotate_left
    · (intro wS hS; clear hS; go_simp; try with_reducible rfl)
    try simp only [Act.put, List.setIfInBounds_toArray, List.set_cons_zero, List.set_cons_succ]
    refine wpAnyH_take (i := 9) (v := ?_) (by (simp only [List.getElem?_toArray, List.getElem?_cons_succ, List.getElem?_cons_zero]; rfl)) (by kernel_rfl) (by kernel_rfl) (by kernel_rfl) (by exact fun _ _ _ h => h) (Or.inl ⟨by rfl, ?_⟩) (by assumption) ?_
    rotate_left
    · (intro wS hS; clear hS; go_simp; try with_reducible rfl)
    try simp only [Act.put, List.setIfInBounds_toArray, List.set_cons_zero, List.set_cons_succ]
    refine wpAnyH_done (by kernel_rfl) ?_ _
    go_wp2
    go_ret2
    unfold IsTwo
    exact ⟨rfl, (by repeat (first | exact bw_refl _ | assumption | apply bw_alloc | apply bw_drew | apply bw_drewN | (refine bw_trans ?_ (by assumption)) | (refine bw_set ?_ (by simp only [go_sem]; omega) _)))⟩
/-! ### folding -/
def foldR (a : Int) : Int := if 8192 < a % 16384 then 16384 - a % 16384 else a % 16384
def foldB (a : Int) : Bool := decide (8192 < a % 16384)
theorem fold_bd (a : Int) : 0 ≤ foldR a ∧ foldR a ≤ 8192 := by unfold foldR; split <;> omega
def IsFold (a : Int) (w : World) (e : Ending) (w' : World) : Prop := e = .returned (.tuple #[.int .i64 (foldR a), .bool (foldB a)]) ∧ w = w'
theorem implFold_ok (a : Int) (h0 : 0 ≤ a) (h1 : a < 65536) (w : World) : Calls Try.prog 31 #[.int .i64 a] w (IsFold a w) := by
  have hm : bits .and .i64 a 16383 = a % 16384 := and_mask a 14 (by omega)
  have hn0 : ¬ a < 0 := by omega
  have hn1 : ¬ 65536 ≤ a := by omega
  by_cases h : 8192 < a % 16384
  · have e0 : Hid (foldR a = 16384 - a % 16384 ∧ foldB a = true) := by unfold Hid foldR foldB; rw [if_pos h]; exact ⟨rfl, decide_eq_true h⟩
    have e1 : ¬ a % 16384 ≤ 8192 := by omega
    obtain ⟨r, hr⟩ : ∃ r, a % 16384 = r := ⟨_, rfl⟩
    rw [hr] at hm e0 e1
    have w1 : IntKind.i64.wrap (16384 - r) = 16384 - r := IntWalk.i64_in _ (by omega)
    clear hr
    go_enter Try.func31, Try.ntmps31
    go_wp2
    go_ret2
    unfold IsFold
    rw [e0.out.1, e0.out.2]
    exact ⟨rfl, rfl⟩
  · have e0 : Hid (foldR a = a % 16384 ∧ foldB a = false) := by unfold Hid foldR foldB; rw [if_neg h]; exact ⟨rfl, decide_eq_false h⟩
    have e1 : a % 16384 ≤ 8192 := by omega
    obtain ⟨r, hr⟩ : ∃ r, a % 16384 = r := ⟨_, rfl⟩
    rw [hr] at hm e0 e1
    clear hr
    go_enter Try.func31, Try.ntmps31
    go_wp2
    go_ret2
    unfold IsFold
    rw [e0.out.1, e0.out.2]
    exact ⟨rfl, rfl⟩
theorem specFold_ok (a : Int) (h0 : 0 ≤ a) (h1 : a < 65536) (w : World) : Calls Try.prog 35 #[.int .i64 a] w (IsFold a w) := by
  have hin : inB a 0 65535 = true := (inB_iff _ _ _).2 (by omega)
  have ht : a.tmod 16384 = a % 16384 := Int.tmod_eq_emod_of_nonneg h0
  obtain ⟨r, hr⟩ : ∃ r, a % 16384 = r := ⟨_, rfl⟩
  have r0 : 0 ≤ r ∧ r < 16384 := by omega
  rw [hr] at ht
  by_cases h : 8192 < r
  · have e0 : Hid (foldR a = 16384 - r ∧ foldB a = true) := by unfold Hid foldR foldB; rw [hr, if_pos h]; exact ⟨rfl, decide_eq_true h⟩
    have w1 : IntKind.i64.wrap (16384 - r) = 16384 - r := IntWalk.i64_in _ (by omega)
    go_enter Try.func35, Try.ntmps35
    go_wp2_with (go_at_call 27; refine (l1In_any _ _ _ _).mono ?_; rintro e w' ⟨he, rfl⟩; rw [hin] at he; subst he)
    go_ret2
    unfold IsFold
    rw [e0.out.1, e0.out.2]
    exact ⟨rfl, rfl⟩
  · have e0 : Hid (foldR a = r ∧ foldB a = false) := by unfold Hid foldR foldB; rw [hr, if_neg h]; exact ⟨rfl, decide_eq_false h⟩
    go_enter Try.func35, Try.ntmps35
    go_wp2_with (go_at_call 27; refine (l1In_any _ _ _ _).mono ?_; rintro e w' ⟨he, rfl⟩; rw [hin] at he; subst he)
    go_ret2
    unfold IsFold
    rw [e0.out.1, e0.out.2]
    exact ⟨rfl, rfl⟩
theorem implQuarter_ok (a : Int) (h0 : 0 ≤ a) (h1 : a < 65536) (w : World) : Calls Try.prog 33 #[.int .i64 a] w fun e w' => e = .returned (.int .i64 (a / 16384)) ∧ w = w' := by
  have hn0 : ¬ a < 0 := by omega
  have hn1 : ¬ 65536 ≤ a := by omega
  have ht : a.tdiv 16384 = a / 16384 := Int.tdiv_eq_ediv_of_nonneg h0
  go_enter Try.func33, Try.ntmps33
  go_wp2
  go_ret
  exact ⟨rfl, rfl⟩
theorem specQuarter_ok (a : Int) (h0 : 0 ≤ a) (h1 : a < 65536) (w : World) : Calls Try.prog 37 #[.int .i64 a] w fun e w' => e = .returned (.int .i64 (a / 16384)) ∧ w = w' := by
  have hin : inB a 0 65535 = true := (inB_iff _ _ _).2 (by omega)
  have ht : a.tdiv 16384 = a / 16384 := Int.tdiv_eq_ediv_of_nonneg h0
  go_enter Try.func37, Try.ntmps37
  go_wp2_with (go_at_call 27; refine (l1In_any _ _ _ _).mono ?_; rintro e w' ⟨he, rfl⟩; rw [hin] at he; subst he)
  go_ret
  exact ⟨rfl, rfl⟩
/-! ### cosines and sines -/
def baseP (a : Int) : Int × Int := if foldB a = true then (eighS (foldR a), eighC (foldR a)) else (eighC (foldR a), eighS (foldR a))
def rotQ (p : Int × Int) : Nat → Int × Int
  | 0 => p
  | n + 1 => (-(rotQ p n).2, (rotQ p n).1)
def csP (a : Int) : Int × Int := rotQ (baseP (a % 65536)) (a % 65536 / 16384).toNat
def csT (a : Int) : Int × Int := if inB a (-1152921504606846976) 1152921504606846976 = true then csP a else (0, 0)
theorem rotQ_bd {p : Int × Int} {m : Int} (h1 : -m ≤ p.1 ∧ p.1 ≤ m) (h2 : -m ≤ p.2 ∧ p.2 ≤ m) : ∀ n, (-m ≤ (rotQ p n).1 ∧ (rotQ p n).1 ≤ m) ∧ (-m ≤ (rotQ p n).2 ∧ (rotQ p n).2 ≤ m)
  | 0 => ⟨h1, h2⟩
  | n + 1 => by
    obtain ⟨a, b⟩ := rotQ_bd h1 h2 n
    unfold rotQ
    simp only
    omega
theorem eigh_bd2 (a : Int) (h0 : 0 ≤ a) (h1 : a ≤ 8192) : (-4611686018427387904 ≤ eighC a ∧ eighC a ≤ 4611686018427387904) ∧ (-4611686018427387904 ≤ eighS a ∧ eighS a ≤ 4611686018427387904) := by
  have h := turn_end 163008216 0 (a * 1024) (by omega) (by omega) (by omega)
  unfold eighC eighS rdiv
  constructor
  · split
    · omega
    · split <;> omega
  · split
    · omega
    · split <;> omega
theorem base_bd (a : Int) : (-4611686018427387904 ≤ (baseP a).1 ∧ (baseP a).1 ≤ 4611686018427387904) ∧ (-4611686018427387904 ≤ (baseP a).2 ∧ (baseP a).2 ≤ 4611686018427387904) := by
  have h := fold_bd a
  have hb := eigh_bd2 (foldR a) h.1 h.2
  unfold baseP
  split <;> simp only <;> omega
def IsCs (a : Int) (w : World) (e : Ending) (w' : World) : Prop := e = .returned (.tuple #[.int .i64 (csT a).1, .int .i64 (csT a).2]) ∧ Below w.heap.size w w'

theorem implCs_any (a : Int) (w : World) : Calls Try.prog 16 #[.int .i64 a] w (IsCs a w) := by
  cases hi : inB a (-1152921504606846976) 1152921504606846976
  · have e0 : Hid (csT a = (0, 0)) := by unfold Hid csT; rw [hi]; rfl
    go_enter Try.func16, Try.ntmps16
    go_wp2_with (go_at_call 24; refine (workable_any _ _).mono ?_; rintro e w' ⟨he, rfl⟩; rw [hi] at he; subst he)
    go_ret2
    unfold IsCs
    rw [e0.out]
    exact ⟨rfl, (by repeat (first | exact bw_refl _ | assumption | apply bw_alloc | apply bw_drew | apply bw_drewN | (refine bw_trans ?_ (by assumption)) | (refine bw_set ?_ (by simp only [go_sem]; omega) _)))⟩
  · obtain ⟨a0, a1⟩ := (inB_iff _ _ _).1 hi
    have e0 : Hid (csT a = rotQ (baseP (a % 65536)) (a % 65536 / 16384).toNat) := by unfold Hid csT; rw [hi]; rfl
    have W := implWrap_ok a a0 a1
    obtain ⟨b, hb⟩ : ∃ b, a % 65536 = b := ⟨_, rfl⟩
    have b0 : 0 ≤ b ∧ b < 65536 := by omega
    rw [hb] at W e0
    clear hb
    obtain ⟨b0, b1⟩ := b0
    have Fd := implFold_ok b b0 b1
    have Qd := implQuarter_ok b b0 b1
    unfold IsFold at Fd
    obtain ⟨f0, f1⟩ := fold_bd b
    have E := implEigh_ok (foldR b) f0 f1
    unfold IsTwo at E
    have Bb := Lib.hid (base_bd b)
    have hbase : Hid (baseP b = if foldB b = true then (eighS (foldR b), eighC (foldR b)) else (eighC (foldR b), eighS (foldR b))) := rfl
    obtain ⟨q, hq⟩ : ∃ q : Nat, b / 16384 = q := ⟨(b / 16384).toNat, by omega⟩
    have hq2 : q ≤ 3 := by omega
    have hqn : (b / 16384).toNat = q := by omega
    rw [hqn] at e0
    rw [hq] at Qd
    clear hq hqn f0 f1
    generalize foldR b = r at *
    generalize eighC r = c at *
    generalize eighS r = s at *
    generalize baseP b = p at *
    go_enter Try.func16, Try.ntmps16
    go_wp2_with (go_at_call 24; refine (workable_any _ _).mono ?_; rintro e w' ⟨he, rfl⟩; rw [hi] at he; subst he)
    refine (W _).mono ?_
    rintro e w' ⟨rfl, rfl⟩
    go_wp2_with fail
    refine (Fd _).mono ?_
    rintro e w' ⟨rfl, rfl⟩
    go_wp2_with fail
    refine (E _).mono ?_
    rintro e w2 ⟨rfl, hb⟩
    clear E Fd W
    cases hf : foldB b
    · rw [hf] at hbase
      have hp : p = (c, s) := by rw [hbase.out]; rfl
      subst hp
      clear hbase
      go_wp2_with fail
      refine (Qd _).mono ?_
      rintro e w' ⟨rfl, rfl⟩
      clear Qd
      go_wp2
      go_loopw [7, 8, 29] (fun s1 s2 s3 wr => ∃ (j : Nat) (X Y : Int), j ≤ q ∧ s1 = .int .i64 X ∧ s2 = .int .i64 Y ∧ s3 = .int .i64 j ∧ rotQ (c, s) j = (X, Y) ∧ wr = w2) (fun _ _ s3 _ => q - (intOf s3).toNat)
      case atStart => exact ⟨0, c, s, Nat.zero_le _, rfl, rfl, rfl, rfl, rfl⟩
      case round =>
        obtain ⟨j, X, Y, hj, rfl, rfl, rfl, hR, rfl⟩ := hrel
        have HR := Lib.hid hR
        have hbd := rotQ_bd (p := (c, s)) Bb.out.1 Bb.out.2 j
        rw [hR] at hbd
        obtain ⟨⟨X0, X1⟩, Y0, Y1⟩ := hbd
        clear hR
        have w1 : IntKind.i64.wrap (-Y) = -Y := IntWalk.i64_in _ (by have h1 : (X, Y).2 = Y := rfl; rw [h1] at Y0 Y1; omega)
        clear X0 X1 Y0 Y1
        by_cases hlt : j < q
        · go_wp2
          go_roundw
          case rel => exact ⟨j + 1, -Y, X, by omega, rfl, rfl, by go_num, by unfold rotQ; rw [HR.out], by first | rfl | trivial⟩
          case measure => simp [intOf]; omega
        · have hjq : j = q := by omega
          subst hjq
          go_wp2
          go_ret2
          unfold IsCs
          rw [e0.out, HR.out]
          exact ⟨rfl, (by repeat (first | exact bw_refl _ | assumption | apply bw_alloc | apply bw_drew | apply bw_drewN | (refine bw_trans ?_ (by assumption)) | (refine bw_set ?_ (by simp only [go_sem]; omega) _)))⟩
    · rw [hf] at hbase
      have hp : p = (s, c) := by rw [hbase.out]; rfl
      subst hp
      clear hbase
      go_wp2_with fail
      refine (Qd _).mono ?_
      rintro e w' ⟨rfl, rfl⟩
      clear Qd
      go_wp2
      go_loopw [7, 8, 29] (fun s1 s2 s3 wr => ∃ (j : Nat) (X Y : Int), j ≤ q ∧ s1 = .int .i64 X ∧ s2 = .int .i64 Y ∧ s3 = .int .i64 j ∧ rotQ (s, c) j = (X, Y) ∧ wr = w2) (fun _ _ s3 _ => q - (intOf s3).toNat)
      case atStart => exact ⟨0, s, c, Nat.zero_le _, rfl, rfl, rfl, rfl, rfl⟩
      case round =>
        obtain ⟨j, X, Y, hj, rfl, rfl, rfl, hR, rfl⟩ := hrel
        have HR := Lib.hid hR
        have hbd := rotQ_bd (p := (s, c)) Bb.out.1 Bb.out.2 j
        rw [hR] at hbd
        obtain ⟨⟨X0, X1⟩, Y0, Y1⟩ := hbd
        clear hR
        have w1 : IntKind.i64.wrap (-Y) = -Y := IntWalk.i64_in _ (by have h1 : (X, Y).2 = Y := rfl; rw [h1] at Y0 Y1; omega)
        clear X0 X1 Y0 Y1
        by_cases hlt : j < q
        · go_wp2
          go_roundw
          case rel => exact ⟨j + 1, -Y, X, by omega, rfl, rfl, by go_num, by unfold rotQ; rw [HR.out], by first | rfl | trivial⟩
          case measure => simp [intOf]; omega
        · have hjq : j = q := by omega
          subst hjq
          go_wp2
          go_ret2
          unfold IsCs
          rw [e0.out, HR.out]
          exact ⟨rfl, (by repeat (first | exact bw_refl _ | assumption | apply bw_alloc | apply bw_drew | apply bw_drewN | (refine bw_trans ?_ (by assumption)) | (refine bw_set ?_ (by simp only [go_sem]; omega) _)))⟩
theorem specCs_any (a : Int) (w : World) : Calls Try.prog 17 #[.int .i64 a] w (IsCs a w) := by
  cases hi : inB a (-1152921504606846976) 1152921504606846976
  · have e0 : Hid (csT a = (0, 0)) := by unfold Hid csT; rw [hi]; rfl
    go_enter Try.func17, Try.ntmps17
    go_wp2_with (go_at_call 27; refine (l1In_any _ _ _ _).mono ?_; rintro e w' ⟨he, rfl⟩; rw [hi] at he; subst he)
    go_ret2
    unfold IsCs
    rw [e0.out]
    exact ⟨rfl, (by repeat (first | exact bw_refl _ | assumption | apply bw_alloc | apply bw_drew | apply bw_drewN | (refine bw_trans ?_ (by assumption)) | (refine bw_set ?_ (by simp only [go_sem]; omega) _)))⟩
  · obtain ⟨a0, a1⟩ := (inB_iff _ _ _).1 hi
    have e0 : Hid (csT a = rotQ (baseP (a % 65536)) (a % 65536 / 16384).toNat) := by unfold Hid csT; rw [hi]; rfl
    have W := l12Wrap_ok a a0 a1
    obtain ⟨b, hb⟩ : ∃ b, a % 65536 = b := ⟨_, rfl⟩
    have b0 : 0 ≤ b ∧ b < 65536 := by omega
    rw [hb] at W e0
    clear hb
    obtain ⟨b0, b1⟩ := b0
    have Fd := specFold_ok b b0 b1
    have Qd := specQuarter_ok b b0 b1
    unfold IsFold at Fd
    obtain ⟨f0, f1⟩ := fold_bd b
    have E := specEigh_ok (foldR b) f0 f1
    unfold IsTwo at E
    have Bb := Lib.hid (base_bd b)
    have hbase : Hid (baseP b = if foldB b = true then (eighS (foldR b), eighC (foldR b)) else (eighC (foldR b), eighS (foldR b))) := rfl
    obtain ⟨q, hq⟩ : ∃ q : Nat, b / 16384 = q := ⟨(b / 16384).toNat, by omega⟩
    have hq2 : q ≤ 3 := by omega
    have hqn : (b / 16384).toNat = q := by omega
    rw [hqn] at e0
    rw [hq] at Qd
    clear hq hqn f0 f1
    generalize foldR b = r at *
    generalize eighC r = c at *
    generalize eighS r = s at *
    generalize baseP b = p at *
    go_enter Try.func17, Try.ntmps17
    go_wp2_with (go_at_call 27; refine (l1In_any _ _ _ _).mono ?_; rintro e w' ⟨he, rfl⟩; rw [hi] at he; subst he)
    refine (W _).mono ?_
    rintro e w' ⟨rfl, rfl⟩
    go_wp2_with fail
    refine (Fd _).mono ?_
    rintro e w' ⟨rfl, rfl⟩
    go_wp2_with fail
    refine (E _).mono ?_
    rintro e w2 ⟨rfl, hb⟩
    clear E Fd W
    cases hf : foldB b
    · rw [hf] at hbase
      have hp : p = (c, s) := by rw [hbase.out]; rfl
      subst hp
      clear hbase
      go_wp2_with fail
      go_loopw [6, 7, 9] (fun s1 s2 s3 wr => ∃ (j : Nat) (X Y : Int), j ≤ q ∧ s1 = .int .i64 X ∧ s2 = .int .i64 Y ∧ s3 = .int .i64 j ∧ rotQ (c, s) j = (X, Y) ∧ wr = w2) (fun _ _ s3 _ => q - (intOf s3).toNat)
      case atStart => exact ⟨0, c, s, Nat.zero_le _, rfl, rfl, rfl, rfl, rfl⟩
      case round =>
        obtain ⟨j, X, Y, hj, rfl, rfl, rfl, hR, rfl⟩ := hrel
        have HR := Lib.hid hR
        have hbd := rotQ_bd (p := (c, s)) Bb.out.1 Bb.out.2 j
        rw [hR] at hbd
        obtain ⟨⟨X0, X1⟩, Y0, Y1⟩ := hbd
        clear hR
        have w1 : IntKind.i64.wrap (-Y) = -Y := IntWalk.i64_in _ (by have h1 : (X, Y).2 = Y := rfl; rw [h1] at Y0 Y1; omega)
        clear X0 X1 Y0 Y1
        by_cases hlt : j < q
        · go_wp2_with (go_at_call 37; refine (Qd _).mono ?_; rintro e w' ⟨rfl, rfl⟩)
          go_roundw
          case rel => exact ⟨j + 1, -Y, X, by omega, rfl, rfl, by go_num, by unfold rotQ; rw [HR.out], by first | rfl | trivial⟩
          case measure => simp [intOf]; omega
        · have hjq : j = q := by omega
          subst hjq
          go_wp2_with (go_at_call 37; refine (Qd _).mono ?_; rintro e w' ⟨rfl, rfl⟩)
          go_ret2
          unfold IsCs
          rw [e0.out, HR.out]
          exact ⟨rfl, (by repeat (first | exact bw_refl _ | assumption | apply bw_alloc | apply bw_drew | apply bw_drewN | (refine bw_trans ?_ (by assumption)) | (refine bw_set ?_ (by simp only [go_sem]; omega) _)))⟩
    · rw [hf] at hbase
      have hp : p = (s, c) := by rw [hbase.out]; rfl
      subst hp
      clear hbase
      go_wp2_with fail
      go_loopw [6, 7, 9] (fun s1 s2 s3 wr => ∃ (j : Nat) (X Y : Int), j ≤ q ∧ s1 = .int .i64 X ∧ s2 = .int .i64 Y ∧ s3 = .int .i64 j ∧ rotQ (s, c) j = (X, Y) ∧ wr = w2) (fun _ _ s3 _ => q - (intOf s3).toNat)
      case atStart => exact ⟨0, s, c, Nat.zero_le _, rfl, rfl, rfl, rfl, rfl⟩
      case round =>
        obtain ⟨j, X, Y, hj, rfl, rfl, rfl, hR, rfl⟩ := hrel
        have HR := Lib.hid hR
        have hbd := rotQ_bd (p := (s, c)) Bb.out.1 Bb.out.2 j
        rw [hR] at hbd
        obtain ⟨⟨X0, X1⟩, Y0, Y1⟩ := hbd
        clear hR
        have w1 : IntKind.i64.wrap (-Y) = -Y := IntWalk.i64_in _ (by have h1 : (X, Y).2 = Y := rfl; rw [h1] at Y0 Y1; omega)
        clear X0 X1 Y0 Y1
        by_cases hlt : j < q
        · go_wp2_with (go_at_call 37; refine (Qd _).mono ?_; rintro e w' ⟨rfl, rfl⟩)
          go_roundw
          case rel => exact ⟨j + 1, -Y, X, by omega, rfl, rfl, by go_num, by unfold rotQ; rw [HR.out], by first | rfl | trivial⟩
          case measure => simp [intOf]; omega
        · have hjq : j = q := by omega
          subst hjq
          go_wp2_with (go_at_call 37; refine (Qd _).mono ?_; rintro e w' ⟨rfl, rfl⟩)
          go_ret2
          unfold IsCs
          rw [e0.out, HR.out]
          exact ⟨rfl, (by repeat (first | exact bw_refl _ | assumption | apply bw_alloc | apply bw_drew | apply bw_drewN | (refine bw_trans ?_ (by assumption)) | (refine bw_set ?_ (by simp only [go_sem]; omega) _)))⟩
end Go.Proofs.Ytndpmcegealhiaa
