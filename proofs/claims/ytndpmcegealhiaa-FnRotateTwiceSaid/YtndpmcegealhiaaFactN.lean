/- What the law of RotateVector needs of each angle of an eighth, reckoned by the kernel for each; no condition. -/
import Derived.Test.YtndpmcegealhiaaAng
namespace Go.Proofs.Ytndpmcegealhiaa
open Go.RowKit
set_option linter.unusedVariables false

/-- f at all of the 2^d numbers whose first digits are those of s. -/
def allT (f : Nat → Bool) : Nat → Nat → Bool
  | 0, s => f s
  | d + 1, s => allT f d (2 * s) && allT f d (2 * s + 1)
theorem allT_at {f : Nat → Bool} : ∀ {d s : Nat}, allT f d s = true → ∀ k, s * 2 ^ d ≤ k → k < (s + 1) * 2 ^ d → f k = true
  | 0, s, h, k, h1, h2 => by
    have : k = s := by simp at h1 h2; omega
    rw [this]; exact h
  | d + 1, s, h, k, h1, h2 => by
    unfold allT at h
    rw [Bool.and_eq_true] at h
    rw [Nat.pow_succ] at h1 h2
    have e1 : s * (2 ^ d * 2) = 2 * s * 2 ^ d := by rw [Nat.mul_comm (2 ^ d) 2, ← Nat.mul_assoc, Nat.mul_comm s 2]
    have e2 : (s + 1) * (2 ^ d * 2) = (2 * s + 1 + 1) * 2 ^ d := by rw [Nat.mul_comm (2 ^ d) 2, ← Nat.mul_assoc, Nat.mul_comm (s + 1) 2, Nat.mul_add]
    rw [e1] at h1
    rw [e2] at h2
    by_cases hk : k < (2 * s + 1) * 2 ^ d
    · exact allT_at h.1 k h1 hk
    · exact allT_at h.2 k (by omega) h2
theorem allT_rng {f : Nat → Bool} {d s : Nat} (h : allT f d s = true) (lo hi : Nat) (e1 : s * 2 ^ d = lo) (e2 : (s + 1) * 2 ^ d = hi) (k : Nat) (h1 : lo ≤ k) (h2 : k < hi) : f k = true := allT_at h k (by rw [e1]; exact h1) (by rw [e2]; exact h2)
def factNB (a : Nat) : Bool :=
  decide (268402688 ≤ eighC a * eighC a + eighS a * eighS a) &&
  decide (eighC a * eighC a + eighS a * eighS a ≤ 268468224) &&
  decide (0 ≤ eighC a) &&
  decide (eighC a ≤ 16384) &&
  decide (0 ≤ eighS a) &&
  decide (eighS a ≤ 16384)
theorem factN0 : allT factNB 9 0 = true := by decide +kernel
theorem factN1 : allT factNB 9 1 = true := by decide +kernel
theorem factN2 : allT factNB 9 2 = true := by decide +kernel
theorem factN3 : allT factNB 9 3 = true := by decide +kernel
theorem factN4 : allT factNB 9 4 = true := by decide +kernel
theorem factN5 : allT factNB 9 5 = true := by decide +kernel
theorem factN6 : allT factNB 9 6 = true := by decide +kernel
theorem factN7 : allT factNB 9 7 = true := by decide +kernel
theorem factN8 : allT factNB 9 8 = true := by decide +kernel
theorem factN9 : allT factNB 9 9 = true := by decide +kernel
theorem factN10 : allT factNB 9 10 = true := by decide +kernel
theorem factN11 : allT factNB 9 11 = true := by decide +kernel
theorem factN12 : allT factNB 9 12 = true := by decide +kernel
theorem factN13 : allT factNB 9 13 = true := by decide +kernel
theorem factN14 : allT factNB 9 14 = true := by decide +kernel
theorem factN15 : allT factNB 9 15 = true := by decide +kernel
theorem factNEnd : factNB 8192 = true := by decide +kernel
theorem factN_all (k : Nat) (h : k ≤ 8192) : factNB k = true := by
  by_cases h0 : k < 512
  · exact allT_rng factN0 0 512 (by decide) (by decide) k (by omega) h0
  by_cases h1 : k < 1024
  · exact allT_rng factN1 512 1024 (by decide) (by decide) k (by omega) h1
  by_cases h2 : k < 1536
  · exact allT_rng factN2 1024 1536 (by decide) (by decide) k (by omega) h2
  by_cases h3 : k < 2048
  · exact allT_rng factN3 1536 2048 (by decide) (by decide) k (by omega) h3
  by_cases h4 : k < 2560
  · exact allT_rng factN4 2048 2560 (by decide) (by decide) k (by omega) h4
  by_cases h5 : k < 3072
  · exact allT_rng factN5 2560 3072 (by decide) (by decide) k (by omega) h5
  by_cases h6 : k < 3584
  · exact allT_rng factN6 3072 3584 (by decide) (by decide) k (by omega) h6
  by_cases h7 : k < 4096
  · exact allT_rng factN7 3584 4096 (by decide) (by decide) k (by omega) h7
  by_cases h8 : k < 4608
  · exact allT_rng factN8 4096 4608 (by decide) (by decide) k (by omega) h8
  by_cases h9 : k < 5120
  · exact allT_rng factN9 4608 5120 (by decide) (by decide) k (by omega) h9
  by_cases h10 : k < 5632
  · exact allT_rng factN10 5120 5632 (by decide) (by decide) k (by omega) h10
  by_cases h11 : k < 6144
  · exact allT_rng factN11 5632 6144 (by decide) (by decide) k (by omega) h11
  by_cases h12 : k < 6656
  · exact allT_rng factN12 6144 6656 (by decide) (by decide) k (by omega) h12
  by_cases h13 : k < 7168
  · exact allT_rng factN13 6656 7168 (by decide) (by decide) k (by omega) h13
  by_cases h14 : k < 7680
  · exact allT_rng factN14 7168 7680 (by decide) (by decide) k (by omega) h14
  by_cases h15 : k < 8192
  · exact allT_rng factN15 7680 8192 (by decide) (by decide) k (by omega) h15
  have e : k = 8192 := by omega
  rw [e]; exact factNEnd
end Go.Proofs.Ytndpmcegealhiaa
