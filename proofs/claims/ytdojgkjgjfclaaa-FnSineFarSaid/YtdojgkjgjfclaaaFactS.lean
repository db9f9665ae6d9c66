/- What the laws of sines need of each angle of an eighth, reckoned by the kernel for each; no condition. -/
import Derived.Test.YtdojgkjgjfclaaaSin
namespace Go.Proofs.Ytdojgkjgjfclaaa
open Go.RowKit
set_option linter.unusedVariables false

def lowF (L : Int) : Nat → Int
  | 0 => 268435456
  | k + 1 => lowF L k * L / 268435456
def highF (H : Int) : Nat → Int
  | 0 => 268435456
  | k + 1 => -(-(highF H k * H) / 268435456)
theorem powP_fast {L H : Int} (L0 : 0 ≤ L) (LH : L ≤ H) (H1 : H ≤ 268435456) : ∀ k, powP L H k = (lowF L k, highF H k)
  | 0 => rfl
  | k + 1 => by
    have ih := powP_fast L0 LH H1 k
    obtain ⟨h1, h2, h3⟩ := pow_bd28 L0 LH H1 k
    obtain ⟨e1, e2, -, -, -⟩ := mul_bd28 h1 h2 h3 L0 LH H1
    unfold powP lowF highF
    rw [e1, e2, ih]
    rfl
/-- The facts of one angle, in terms of its arc. -/
def sinX (L H : Int) : Int := L - -(-(highF H 3) / 6) + lowF L 5 / 120 - -(-(highF H 7) / 5040)
def sinY (L H : Int) : Int := H - lowF L 3 / 6 + -(-(highF H 5) / 120)
def cosX (L H : Int) : Int := 268435456 - -(-(highF H 2) / 2) + lowF L 4 / 24 - -(-(highF H 6) / 720)
def cosY (L H : Int) : Int := 268435456 - lowF L 2 / 2 + -(-(highF H 4) / 24)
theorem sinX_is {a : Int} (h0 : 0 ≤ a) (h1 : a ≤ 8192) : sinLow a = sinX (arcLow a) (arcHigh a) ∧ sinHigh a = sinY (arcLow a) (arcHigh a) ∧ cosLow a = cosX (arcLow a) (arcHigh a) ∧ cosHigh a = cosY (arcLow a) (arcHigh a) := by
  obtain ⟨A0, A1, A2⟩ := arc_bd h0 h1
  unfold sinLow sinHigh cosLow cosHigh sinX sinY cosX cosY partL partH cdiv
  simp only [powP_fast A0 A1 A2]
  exact ⟨trivial, trivial, trivial, trivial⟩
def sqL (x : Int) : Int := x * x / 268435456
def sqH (y : Int) : Int := -(-(y * y) / 268435456)
/-- f at all of the 2^d numbers whose first digits are those of s. -/
def allT (f : Nat → Bool) : Nat → Nat → Bool
  | 0, s => f s
  | d + 1, s => allT f d (2 * s) && allT f d (2 * s + 1)
theorem allT_at {f : Nat → Bool} : ∀ {d s : Nat}, allT f d s = true → ∀ k, s * 2 ^ d ≤ k → k < (s + 1) * 2 ^ d → f k = true
  | 0, s, h, k, h1, h2 => by
    have : k = s := by simp at h1 h2; omega
    rw [this]; exact h
  | d + 1, s, h, k, h1, h2 => by
    unfold allT at h
    rw [Bool.and_eq_true] at h
    rw [Nat.pow_succ] at h1 h2
    have e1 : s * (2 ^ d * 2) = 2 * s * 2 ^ d := by rw [Nat.mul_comm (2 ^ d) 2, ← Nat.mul_assoc, Nat.mul_comm s 2]
    have e2 : (s + 1) * (2 ^ d * 2) = (2 * s + 1 + 1) * 2 ^ d := by rw [Nat.mul_comm (2 ^ d) 2, ← Nat.mul_assoc, Nat.mul_comm (s + 1) 2, Nat.mul_add]
    rw [e1] at h1
    rw [e2] at h2
    by_cases hk : k < (2 * s + 1) * 2 ^ d
    · exact allT_at h.1 k h1 hk
    · exact allT_at h.2 k (by omega) h2
theorem allT_rng {f : Nat → Bool} {d s : Nat} (h : allT f d s = true) (lo hi : Nat) (e1 : s * 2 ^ d = lo) (e2 : (s + 1) * 2 ^ d = hi) (k : Nat) (h1 : lo ≤ k) (h2 : k < hi) : f k = true := allT_at h k (by rw [e1]; exact h1) (by rw [e2]; exact h2)
end Go.Proofs.Ytdojgkjgjfclaaa
