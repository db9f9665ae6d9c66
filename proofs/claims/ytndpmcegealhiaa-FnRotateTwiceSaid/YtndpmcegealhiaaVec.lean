/- Contracts of DotOf and of what it calls, and the walk of its exact law; no condition. -/
import Derived.Test.YtndpmcegealhiaaNum
import Derived.Deep.RegionHeld3
namespace Go.Proofs.Ytndpmcegealhiaa
open Go.RowKit
set_option linter.unusedVariables false

/-- Both numbers of a vector are in -m..m. -/
def vecB (m X Y : Int) : Bool := inB X (-m) m && inB Y (-m) m
theorem vecB_spec (m X Y : Int) (h : vecB m X Y = true) : (-m ≤ X ∧ X ≤ m) ∧ -m ≤ Y ∧ Y ≤ m := by
  unfold vecB at h
  rw [Bool.and_eq_true, inB_iff, inB_iff] at h
  exact h
theorem toVector_any (X Y : Int) (w : World) : Calls Try.prog 13 #[.agg #[.int .i64 X, .int .i64 Y]] w fun e w' => e = .returned (.agg #[.int .i64 X, .int .i64 Y]) ∧ Below w.heap.size w w' := by
  go_enter Try.func13, Try.ntmps13
  go_wp2
  exact bodyPost_ret (v := .agg #[.int .i64 X, .int .i64 Y]) (by simp [results, Try.results13, go_sem]) rfl ⟨rfl, (by repeat (first | exact bw_refl _ | assumption | apply bw_alloc | apply bw_drew | apply bw_drewN | (refine bw_trans ?_ (by assumption)) | (refine bw_set ?_ (by simp only [go_sem]; omega) _)))⟩
theorem l18Good_any (X Y : Int) (w : World) : Calls Try.prog 26 #[.agg #[.int .i64 X, .int .i64 Y]] w fun e w' => e = .returned (.bool (vecB 1048576 X Y)) ∧ Below w.heap.size w w' := by
  have e1 : vecB 1048576 X Y = (inB X (-1048576) 1048576 && inB Y (-1048576) 1048576) := rfl
  rw [e1]
  clear e1
  cases hX : inB X (-1048576) 1048576
  all_goals
    go_enter Try.func26, Try.ntmps26
    go_wp2_with (go_at_call 27; refine (l1In_any _ _ _ _).mono ?_; rintro e w' ⟨rfl, rfl⟩)
    go_ret
    exact ⟨ret_bool (by simp), (by repeat (first | exact bw_refl _ | assumption | apply bw_alloc | apply bw_drew | apply bw_drewN | (refine bw_trans ?_ (by assumption)) | (refine bw_set ?_ (by simp only [go_sem]; omega) _)))⟩
theorem vwithin_any (X Y m : Int) (h0 : 0 ≤ m) (h1 : m ≤ 2305843009213693952) (w : World) : Calls Try.prog 23 #[.agg #[.int .i64 X, .int .i64 Y], .int .i64 m] w fun e w' => e = .returned (.bool (vecB m X Y)) ∧ Below w.heap.size w w' := by
  have e1 : vecB m X Y = (inB X (-m) m && inB Y (-m) m) := rfl
  rw [e1]
  clear e1
  cases hX : inB X (-m) m
  all_goals
    go_enter Try.func23, Try.ntmps23
    go_wp2_with (go_at_call 41; refine (within_any _ _ h0 h1 _).mono ?_; rintro e w' ⟨rfl, rfl⟩)
    go_ret
    exact ⟨ret_bool (by simp), (by repeat (first | exact bw_refl _ | assumption | apply bw_alloc | apply bw_drew | apply bw_drewN | (refine bw_trans ?_ (by assumption)) | (refine bw_set ?_ (by simp only [go_sem]; omega) _)))⟩
end Go.Proofs.Ytndpmcegealhiaa
