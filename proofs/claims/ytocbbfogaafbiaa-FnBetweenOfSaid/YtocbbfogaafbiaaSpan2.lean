/- Contracts of the products of spans; conditions: valid spans. -/
import Derived.Test.YtocbbfogaafbiaaSpan
namespace Go.Proofs.Ytocbbfogaafbiaa
open Go.RowKit
set_option linter.unusedVariables false
set_option linter.unusedSimpArgs false
set_option maxHeartbeats 2000000

theorem bw_undrewN {W w2 : World} {n : Nat} (hb : Below (W.drewN n).heap.size (W.drewN n) w2) : Below W.heap.size W w2 := bw_trans (by apply bw_drewN; exact bw_refl _) hb
theorem mul_bd30 (a c : Int) (a0 : -1073741824 ≤ a) (a1 : a ≤ 1073741824) (c0 : -1073741824 ≤ c) (c1 : c ≤ 1073741824) : -1152921504606846976 ≤ a * c ∧ a * c ≤ 1152921504606846976 := by
  have h := Int.natAbs_mul a c
  have h1 : a.natAbs ≤ 1073741824 := by omega
  have h2 : c.natAbs ≤ 1073741824 := by omega
  have h3 : a.natAbs * c.natAbs ≤ 1073741824 * 1073741824 := Nat.mul_le_mul h1 h2
  omega
def mn4 (p q r s : Int) : Int := min (min (min p q) r) s
def mx4 (p q r s : Int) : Int := max (max (max p q) r) s
theorem run_min4 (p q r s : Int) (ts : Array TypeId) (t : TypeId) (W : World) : (Builtin.min_ ts t #[.int .i64 p, .int .i64 q, .int .i64 r, .int .i64 s]).run Try.prog W = .ok (.int .i64 (mn4 p q r s)) W := by
  have e : ∀ x y : Int, (if y < x then y else x) = min x y := fun x y => by split <;> omega
  simp [Builtin.min_, Builtin.min2, e, mn4]
theorem run_max4 (p q r s : Int) (ts : Array TypeId) (t : TypeId) (W : World) : (Builtin.max_ ts t #[.int .i64 p, .int .i64 q, .int .i64 r, .int .i64 s]).run Try.prog W = .ok (.int .i64 (mx4 p q r s)) W := by
  have e : ∀ x y : Int, (if x < y then y else x) = max x y := fun x y => by split <;> omega
  simp [Builtin.max_, Builtin.max2, e, mx4]
def mulL (a b c d : Int) : Int := mn4 (a * c) (a * d) (b * c) (b * d) / 268435456
def mulH (a b c d : Int) : Int := cdiv (mx4 (a * c) (a * d) (b * c) (b * d)) 268435456
end Go.Proofs.Ytocbbfogaafbiaa
