/- Contracts of the rotation towards the X axis, both sides; condition: numbers of at most 2^40 and twenty steps. -/
import Derived.Test.YtdojgkjgjfclaaaTurn
import Derived.Test.YtdojgkjgjfclaaaVec
namespace Go.Proofs.Ytdojgkjgjfclaaa
open Go.RowKit
set_option linter.unusedVariables false
set_option linter.unusedSimpArgs false
set_option maxHeartbeats 2000000

theorem pow_20 : ∀ k, k ≤ 20 → (1099511627776 : Int) * 2 ^ k ≤ 1152921504606846976 := by decide
/-- A round's numbers: the state, its bounds, and what a step makes of it. -/
theorem level_round (x y : Int) (hx : -1099511627776 ≤ x ∧ x ≤ 1099511627776) (hy : -1099511627776 ≤ y ∧ y ≤ 1099511627776) (k : Nat) (hk : k < 20) : ∃ X Y Z s u v : Int, levelS x y k = (X, Y, Z) ∧ (-1152921504606846976 ≤ X ∧ X ≤ 1152921504606846976) ∧ (-1152921504606846976 ≤ Y ∧ Y ≤ 1152921504606846976) ∧ (-167772160 ≤ Z ∧ Z ≤ 167772160) ∧
    stepAt k = s ∧ (0 < s ∧ s ≤ 8388608) ∧ X / 2 ^ k = u ∧ Y / 2 ^ k = v ∧ (0 < Y → levelS x y (k + 1) = (X + v, Y - u, Z + s)) ∧ (¬ 0 < Y → levelS x y (k + 1) = (X - v, Y + u, Z - s)) := by
  obtain ⟨h1, h2, h3⟩ := levelS_bd x y 1099511627776 (by omega) hx hy k (by omega)
  have hp := pow_20 k (by omega)
  refine ⟨(levelS x y k).1, (levelS x y k).2.1, (levelS x y k).2.2, _, _, _, rfl, ⟨by omega, by omega⟩, ⟨by omega, by omega⟩, ⟨by omega, by omega⟩, rfl, step_bd k (by omega), rfl, rfl, fun h => ?_, fun h => ?_⟩
  · show level1 k (levelS x y k) = _; unfold level1; rw [if_pos h]
  · show level1 k (levelS x y k) = _; unfold level1; rw [if_neg h]
theorem level_end (x y : Int) (hx : -1099511627776 ≤ x ∧ x ≤ 1099511627776) (hy : -1099511627776 ≤ y ∧ y ≤ 1099511627776) : -167772160 ≤ (levelS x y 20).2.2 ∧ (levelS x y 20).2.2 ≤ 167772160 := by
  have h := (levelS_bd x y 1099511627776 (by omega) hx hy 20 (by omega)).2.2
  omega
def levelPost (x y : Int) (w : World) (e : Ending) (w' : World) : Prop := e = .returned (.tuple #[.agg #[.int .i64 (levelS x y 20).1, .int .i64 (levelS x y 20).2.1], .int .i64 (levelS x y 20).2.2, .bool true]) ∧ Below w.heap.size w w'
theorem l14Vector_any (X Y : Int) (w : World) : Calls Try.prog 70 #[.agg #[.int .i64 X, .int .i64 Y]] w fun e w' => e = .returned (.bool (vecB 1099511627776 X Y)) ∧ Below w.heap.size w w' := by
  have e1 : vecB 1099511627776 X Y = (inB X (-1099511627776) 1099511627776 && inB Y (-1099511627776) 1099511627776) := rfl
  rw [e1]
  clear e1
  cases hX : inB X (-1099511627776) 1099511627776
  all_goals
    go_enter Try.func70, Try.ntmps70
    go_wp2_with (go_at_call 24; refine (l1In_any _ _ _ _).mono ?_; rintro e w' ⟨rfl, rfl⟩)
    go_ret
    exact ⟨ret_bool (by simp), (by repeat (first | exact bw_refl _ | assumption | apply bw_alloc | apply bw_drew | apply bw_drewN | (refine bw_trans ?_ (by assumption)) | (refine bw_set ?_ (by simp only [go_sem]; omega) _)))⟩
end Go.Proofs.Ytdojgkjgjfclaaa
