/- Contracts of the functions on whole numbers: each returns what the plain function says, and leaves the world as it was; conditions: the ranges that each names. -/
import Derived.Test.YtamllajbnmedgaaBase
namespace Go.Proofs.Ytamllajbnmedgaa
open Go.RowKit
set_option linter.unusedVariables false

theorem l1In_any (n lo hi : Int) (w : World) : Calls Try.prog 18 #[.int .i64 n, .int .i64 lo, .int .i64 hi] w fun e w' => e = .returned (.bool (inB n lo hi)) ∧ w = w' := by
  unfold inB
  go_enter Try.func18, Try.ntmps18
  go_wp2
  all_goals (go_ret; exact ⟨ret_bool (by simp <;> omega), rfl⟩)
theorem within_any (n m : Int) (h0 : 0 ≤ m) (h1 : m ≤ 2305843009213693952) (w : World) : Calls Try.prog 24 #[.int .i64 n, .int .i64 m] w fun e w' => e = .returned (.bool (inB n (-m) m)) ∧ w = w' := by
  unfold inB
  go_enter Try.func24, Try.ntmps24
  go_wp2
  all_goals (go_ret; exact ⟨ret_bool (by simp <;> omega), rfl⟩)
end Go.Proofs.Ytamllajbnmedgaa
