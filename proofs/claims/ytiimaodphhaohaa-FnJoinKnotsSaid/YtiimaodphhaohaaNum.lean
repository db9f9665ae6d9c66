/- Contracts of the functions on whole numbers: each returns what the plain function says, and leaves the world as it was; conditions: the ranges that each names. -/
import Derived.Test.YtiimaodphhaohaaBase
namespace Go.Proofs.Ytiimaodphhaohaa
open Go.RowKit
set_option linter.unusedVariables false

theorem l1In_any (n lo hi : Int) (w : World) : Calls Try.prog 35 #[.int .i64 n, .int .i64 lo, .int .i64 hi] w fun e w' => e = .returned (.bool (inB n lo hi)) ∧ w = w' := by
  unfold inB
  go_enter Try.func35, Try.ntmps35
  go_wp2
  all_goals (go_ret; exact ⟨ret_bool (by simp <;> omega), rfl⟩)
theorem within_any (n m : Int) (h0 : 0 ≤ m) (h1 : m ≤ 2305843009213693952) (w : World) : Calls Try.prog 37 #[.int .i64 n, .int .i64 m] w fun e w' => e = .returned (.bool (inB n (-m) m)) ∧ w = w' := by
  unfold inB
  go_enter Try.func37, Try.ntmps37
  go_wp2
  all_goals (go_ret; exact ⟨ret_bool (by simp <;> omega), rfl⟩)
theorem workable_any (n : Int) (w : World) : Calls Try.prog 48 #[.int .i64 n] w fun e w' => e = .returned (.bool (inB n (-1152921504606846976) 1152921504606846976)) ∧ w = w' := by
  go_enter Try.func48, Try.ntmps48
  go_wp2_with (go_at_call 37; refine (within_any _ _ (by omega) (by omega) _).mono ?_; rintro e w' ⟨rfl, rfl⟩)
  go_ret
  exact ⟨rfl, rfl⟩
theorem l1Floor_any (a b : Int) (hb : 0 < b) (hb2 : b ≤ 4611686018427387904) (h0 : -4611686018427387904 ≤ a) (h1 : a ≤ 4611686018427387904) (w : World) :
    Calls Try.prog 47 #[.int .i64 a, .int .i64 b] w fun e w' => e = .returned (.int .i64 (a / b)) ∧ w = w' := by
  obtain ⟨q0, q1⟩ := ediv_bd a b 4611686018427387904 hb h0 h1 (by omega)
  have H := Lib.hid (tdiv_floor a b hb)
  have t0 : -4611686018427387904 ≤ a.tdiv b := by rw [H.out]; split <;> omega
  have t1 : a.tdiv b ≤ 4611686018427387905 := by rw [H.out]; split <;> omega
  have hne : ¬ b = 0 := by omega
  go_enter Try.func47, Try.ntmps47
  go_wp2
  all_goals (go_ret; exact ⟨ret_int (by have := H.out; simp_all; try omega), rfl⟩)
theorem l1Round_any (a b : Int) (hb : 0 < b) (hb2 : b ≤ 1152921504606846976) (h0 : -1152921504606846976 ≤ a) (h1 : a ≤ 1152921504606846976) (w : World) :
    Calls Try.prog 39 #[.int .i64 a, .int .i64 b] w fun e w' => e = .returned (.int .i64 (rdiv a b)) ∧ w = w' := by
  obtain ⟨q0, q1⟩ := ediv_bd a b 1152921504606846976 hb h0 h1 (by omega)
  obtain ⟨r0, r1⟩ := rest_bd a b hb
  have hp := tmod2 (a / b)
  go_enter Try.func39, Try.ntmps39
  go_wp2_with (go_at_call 47; refine (l1Floor_any _ _ (by omega) (by omega) (by omega) (by omega) _).mono ?_; rintro e w' ⟨rfl, rfl⟩)
  all_goals (go_ret; refine ⟨ret_int ?_, rfl⟩; unfold rdiv; split <;> (first | omega | (simp_all; try omega)))
def fdivT (a b : Int) : Int := if inB a (-1152921504606846976) 1152921504606846976 && inB b 1 1152921504606846976 then a / b else 0
theorem implFloorDiv_ok (a b : Int) (hb : 0 < b) (hb2 : b ≤ 1152921504606846976) (h0 : -1152921504606846976 ≤ a) (h1 : a ≤ 1152921504606846976) (w : World) :
    Calls Try.prog 49 #[.int .i64 a, .int .i64 b] w fun e w' => e = .returned (.int .i64 (a / b)) ∧ w = w' := by
  obtain ⟨q0, q1⟩ := ediv_bd a b 1152921504606846976 hb h0 h1 (by omega)
  have H := Lib.hid (tdiv_floor a b hb)
  have t0 : -4611686018427387904 ≤ a.tdiv b := by rw [H.out]; split <;> omega
  have t1 : a.tdiv b ≤ 4611686018427387905 := by rw [H.out]; split <;> omega
  have hne : ¬ b = 0 := by omega
  have hi : inB a (-1152921504606846976) 1152921504606846976 = true := (inB_iff _ _ _).2 ⟨h0, h1⟩
  go_enter Try.func49, Try.ntmps49
  go_wp2_with (go_at_call 48; refine (workable_any _ _).mono ?_; rintro e w' ⟨rfl, rfl⟩)
  all_goals (go_ret; exact ⟨ret_int (by have := H.out; simp_all; try omega), rfl⟩)
end Go.Proofs.Ytiimaodphhaohaa
