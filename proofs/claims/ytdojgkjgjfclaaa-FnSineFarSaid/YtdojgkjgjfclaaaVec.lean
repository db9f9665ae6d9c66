/- Contracts of DotOf and of what it calls, and the walk of its exact law; no condition. -/
import Derived.Test.YtdojgkjgjfclaaaNum
import Derived.Deep.RegionHeld3
namespace Go.Proofs.Ytdojgkjgjfclaaa
open Go.RowKit
set_option linter.unusedVariables false

/-- Both numbers of a vector are in -m..m. -/
def vecB (m X Y : Int) : Bool := inB X (-m) m && inB Y (-m) m
theorem vecB_spec (m X Y : Int) (h : vecB m X Y = true) : (-m ≤ X ∧ X ≤ m) ∧ -m ≤ Y ∧ Y ≤ m := by
  unfold vecB at h
  rw [Bool.and_eq_true, inB_iff, inB_iff] at h
  exact h
theorem vwithin_any (X Y m : Int) (h0 : 0 ≤ m) (h1 : m ≤ 2305843009213693952) (w : World) : Calls Try.prog 75 #[.agg #[.int .i64 X, .int .i64 Y], .int .i64 m] w fun e w' => e = .returned (.bool (vecB m X Y)) ∧ Below w.heap.size w w' := by
  have e1 : vecB m X Y = (inB X (-m) m && inB Y (-m) m) := rfl
  rw [e1]
  clear e1
  cases hX : inB X (-m) m
  all_goals
    go_enter Try.func75, Try.ntmps75
    go_wp2_with (go_at_call 36; refine (within_any _ _ h0 h1 _).mono ?_; rintro e w' ⟨rfl, rfl⟩)
    go_ret
    exact ⟨ret_bool (by simp), (by repeat (first | exact bw_refl _ | assumption | apply bw_alloc | apply bw_drew | apply bw_drewN | (refine bw_trans ?_ (by assumption)) | (refine bw_set ?_ (by simp only [go_sem]; omega) _)))⟩
end Go.Proofs.Ytdojgkjgjfclaaa
