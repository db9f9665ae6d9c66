/- The plain law of rotated vectors: their length is that of the vector, but for a small part; no condition. -/
import Derived.Test.YtndpmcegealhiaaRoot
namespace Go.Proofs.Ytndpmcegealhiaa
open Go.RowKit
set_option linter.unusedVariables false

theorem abs_mul_le (a e E : Int) (hE : 0 ≤ E) (h0 : -E ≤ e) (h1 : e ≤ E) : -(E * a.natAbs) ≤ e * a ∧ e * a ≤ E * a.natAbs := by
  have h := mul_bd e a E a.natAbs hE (by omega) h0 h1 (by omega) (by omega)
  exact h
theorem rdiv_near (X b : Int) (hb : 0 < b) : -b ≤ 2 * (b * rdiv X b - X) ∧ 2 * (b * rdiv X b - X) ≤ b := by
  have h := rest_bd X b hb
  have e : b * (X / b) = X / b * b := Int.mul_comm _ _
  have e2 : b * (X / b + 1) = X / b * b + b := by rw [Int.mul_add, Int.mul_one, e]
  unfold rdiv
  split
  · rw [e2]; omega
  · rw [e]; omega
/-- The length of a rotated vector: c and s with c c + s s near to 2^28. -/
theorem len_law {c s x y u v n m : Int} (hS0 : 268402688 ≤ c * c + s * s) (hS1 : c * c + s * s ≤ 268468224) (hu0 : -8192 ≤ 16384 * u - (c * x - s * y)) (hu1 : 16384 * u - (c * x - s * y) ≤ 8192)
    (hv0 : -8192 ≤ 16384 * v - (s * x + c * y)) (hv1 : 16384 * v - (s * x + c * y) ≤ 8192) (hn : IsRoot (x * x + y * y) n) (hm : IsRoot (u * u + v * v) m) : m ≤ n + n / 4096 + 3 ∧ n ≤ m + n / 4096 + 3 := by
  obtain ⟨n0, n1, n2⟩ := hn
  obtain ⟨m0, m1, m2⟩ := hm
  obtain ⟨X, hX⟩ : ∃ X, c * x - s * y = X := ⟨_, rfl⟩
  obtain ⟨Y, hY⟩ : ∃ Y, s * x + c * y = Y := ⟨_, rfl⟩
  obtain ⟨N, hN⟩ : ∃ N, x * x + y * y = N := ⟨_, rfl⟩
  obtain ⟨S, hS⟩ : ∃ S, c * c + s * s = S := ⟨_, rfl⟩
  have hZ : X * X + Y * Y = S * N := by rw [← hX, ← hY, ← hS, ← hN]; grind
  rw [hX] at hu0 hu1
  rw [hY] at hv0 hv1
  rw [hN] at n1 n2
  rw [hS] at hS0 hS1
  obtain ⟨e, he⟩ : ∃ e, 16384 * u - X = e := ⟨_, rfl⟩
  obtain ⟨f, hf⟩ : ∃ f, 16384 * v - Y = f := ⟨_, rfl⟩
  rw [he] at hu0 hu1
  rw [hf] at hv0 hv1
  have hM : 268435456 * (u * u + v * v) = S * N + 2 * (e * X) + 2 * (f * Y) + e * e + f * f := by
    rw [← hZ]
    have a1 : 16384 * u = X + e := by omega
    have a2 : 16384 * v = Y + f := by omega
    have b1 : 268435456 * (u * u) = (16384 * u) * (16384 * u) := by grind
    have b2 : 268435456 * (v * v) = (16384 * v) * (16384 * v) := by grind
    rw [Int.mul_add, b1, b2, a1, a2]; grind
  clear hX hY hN hS he hf
  obtain ⟨eX0, eX1⟩ := abs_mul_le X e 8192 (by omega) hu0 hu1
  obtain ⟨fY0, fY1⟩ := abs_mul_le Y f 8192 (by omega) hv0 hv1
  have ee : 0 ≤ e * e ∧ e * e ≤ 8192 * 8192 := by
    have h := abs_mul_le e e 8192 (by omega) hu0 hu1
    have h2 : 0 ≤ e * e := by have := Int.natAbs_mul_self (a := e); omega
    omega
  have ff : 0 ≤ f * f ∧ f * f ≤ 8192 * 8192 := by
    have h := abs_mul_le f f 8192 (by omega) hv0 hv1
    have h2 : 0 ≤ f * f := by have := Int.natAbs_mul_self (a := f); omega
    omega
  obtain ⟨B, hB⟩ : ∃ B : Int, (X.natAbs : Int) + Y.natAbs = B := ⟨_, rfl⟩
  have B0 : 0 ≤ B := by omega
  have BB : B * B ≤ 2 * (S * N) := by
    rw [← hZ, ← hB]
    have h1 : ((X.natAbs : Int)) * X.natAbs = X * X := Int.natAbs_mul_self
    have h2 : ((Y.natAbs : Int)) * Y.natAbs = Y * Y := Int.natAbs_mul_self
    have h3 : 0 ≤ ((X.natAbs : Int) - Y.natAbs) * ((X.natAbs : Int) - Y.natAbs) := by
      have := Int.natAbs_mul_self (a := (X.natAbs : Int) - Y.natAbs); omega
    grind
  have hup : 268435456 * (u * u + v * v) ≤ S * N + 16384 * B + 134217728 := by omega
  have hlo : S * N - 16384 * B ≤ 268435456 * (u * u + v * v) := by omega
  clear eX0 eX1 fY0 fY1 ee ff hM hB hZ hu0 hu1 hv0 hv1
  obtain ⟨A, hA⟩ : ∃ A : Int, n + 1 = A := ⟨_, rfl⟩
  rw [hA] at n2
  have A1 : 1 ≤ A := by omega
  have N0 : 0 ≤ N := Int.le_trans (Int.mul_nonneg n0 n0) n1
  have SN1 : S * N ≤ 268468224 * N := Int.mul_le_mul_of_nonneg_right hS1 N0
  have SN0 : 268402688 * N ≤ S * N := Int.mul_le_mul_of_nonneg_right hS0 N0
  have BA : 2 * B ≤ 49152 * A := by
    rcases Int.lt_or_le (49152 * A) (2 * B) with h | h
    · exfalso
      have h2 := sq_le (49152 * A) (2 * B) (by omega) (by omega)
      have h3 : (49152 * A) * (49152 * A) = 2415919104 * (A * A) := by grind
      have h4 : (2 * B) * (2 * B) = 4 * (B * B) := by grind
      rw [h3, h4] at h2
      have h5 : 0 < A * A := Int.mul_pos (by omega) (by omega)
      omega
    · exact h
  obtain ⟨q, hq⟩ : ∃ q : Int, n / 4096 = q := ⟨_, rfl⟩
  rw [hq]
  have q0 : 0 ≤ q := by omega
  have hAq : A ≤ 4096 * (q + 1) := by omega
  constructor
  · rcases Int.lt_or_le (n + q + 3) m with h | h
    · exfalso
      have h2 := sq_le (A + q + 3) m (by omega) (by omega)
      have h3 : (A + q + 3) * (A + q + 3) = A * A + 2 * (A * q) + 6 * A + (q + 3) * (q + 3) := by grind
      rw [h3] at h2
      have h4 : A * A ≤ 4096 * (A * q) + 4096 * A := by
        have := Int.mul_le_mul_of_nonneg_left hAq (show 0 ≤ A by omega)
        have e : A * (4096 * (q + 1)) = 4096 * (A * q) + 4096 * A := by grind
        rw [e] at this; exact this
      have h5 : 0 ≤ A * q := Int.mul_nonneg (by omega) q0
      have h6 : 9 ≤ (q + 3) * (q + 3) := sq_le 3 (q + 3) (by omega) (by omega)
      omega
    · exact h
  · rcases Int.lt_or_le (m + q + 3) n with h | h
    · exfalso
      have h2 := sq_le (m + 1) (n - q - 3) (by omega) (by omega)
      have h3 : (n - q - 3) * (n - q - 3) = n * n - 2 * (n * q) - 6 * n + (q * q + 6 * q + 9) := by grind
      rw [h3] at h2
      have h4 : n * n ≤ 4096 * (n * q) + 4096 * n := by
        have := Int.mul_le_mul_of_nonneg_left (show n ≤ 4096 * (q + 1) by omega) n0
        have e : n * (4096 * (q + 1)) = 4096 * (n * q) + 4096 * n := by grind
        rw [e] at this; exact this
      have h5 : q * q + 4 * q ≤ n * q := by
        have := Int.mul_le_mul_of_nonneg_right (show q + 4 ≤ n by omega) q0
        have e : (q + 4) * q = q * q + 4 * q := by grind
        rw [e] at this; exact this
      have h6 : 0 ≤ q * q := Int.mul_nonneg q0 q0
      omega
    · exact h
end Go.Proofs.Ytndpmcegealhiaa
