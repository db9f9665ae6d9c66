/- Plain functions on angles: powers of spans, arcs, the angles of the steps of a rotation, rotations, sines, directions; no condition. -/
import Derived.Test.YtndpmcegealhiaaSpan2
namespace Go.Proofs.Ytndpmcegealhiaa
open Go.RowKit
set_option linter.unusedVariables false

def powP (L H : Int) : Nat → Int × Int
  | 0 => (268435456, 268435456)
  | k + 1 => (mulL (powP L H k).1 (powP L H k).2 L H, mulH (powP L H k).1 (powP L H k).2 L H)
/-- All powers up to e are valid. -/
def powOk (L H : Int) (e : Nat) : Bool := (List.range (e + 1)).all fun k => spOk (powP L H k).1 (powP L H k).2
theorem powOk_at {L H : Int} {e : Nat} (h : powOk L H e = true) (k : Nat) (hk : k ≤ e) : spOk (powP L H k).1 (powP L H k).2 = true := by
  unfold powOk at h
  rw [List.all_eq_true] at h
  exact h k (List.mem_range.2 (by omega))

/-- Low, High, the power, after j terms of the arc tangent of 1 / k. -/
def arcS (k : Int) : Nat → Int × Int × Int
  | 0 => (-1, 1, k)
  | j + 1 => if j % 2 = 0 then ((arcS k j).1 + 268435456 / ((2 * j + 1) * (arcS k j).2.2), (arcS k j).2.1 + cdiv 268435456 ((2 * j + 1) * (arcS k j).2.2), (arcS k j).2.2 * k * k)
      else ((arcS k j).1 - cdiv 268435456 ((2 * j + 1) * (arcS k j).2.2), (arcS k j).2.1 - 268435456 / ((2 * j + 1) * (arcS k j).2.2), (arcS k j).2.2 * k * k)
def arcGood (k : Int) (n j : Nat) : Bool :=
  inB (arcS k j).1 (-1099511627776) 1099511627776 && inB (arcS k j).2.1 (-1099511627776) 1099511627776 && inB (arcS k j).2.2 1 1125899906842624 && (decide ((2 * (j : Int) + 1) * (arcS k j).2.2 ≤ 268435456) == decide (j < n))
/-- The arc tangent of 1 / k has n terms. -/
def arcOk (k : Int) (n : Nat) : Bool := (List.range (n + 1)).all (arcGood k n)
theorem arcOk_at {k : Int} {n : Nat} (h : arcOk k n = true) (j : Nat) (hj : j ≤ n) : arcGood k n j = true := by
  unfold arcOk at h
  rw [List.all_eq_true] at h
  exact h j (List.mem_range.2 (by omega))
theorem arcGood_iff {k : Int} {n j : Nat} (h : arcGood k n j = true) : (-1099511627776 ≤ (arcS k j).1 ∧ (arcS k j).1 ≤ 1099511627776) ∧ (-1099511627776 ≤ (arcS k j).2.1 ∧ (arcS k j).2.1 ≤ 1099511627776) ∧ (1 ≤ (arcS k j).2.2 ∧ (arcS k j).2.2 ≤ 1125899906842624) ∧ ((2 * (j : Int) + 1) * (arcS k j).2.2 ≤ 268435456 ↔ j < n) := by
  unfold arcGood at h
  simp only [Bool.and_eq_true, inB_iff, beq_iff_eq, decide_eq_decide] at h
  exact ⟨h.1.1.1, h.1.1.2, h.1.2, h.2⟩
/-- How many terms the arc tangent of 1 / 2^k has. -/
def arcN : List Nat := [0, 12, 6, 4, 3, 3, 2, 2, 2, 1, 1, 1, 1, 1, 1, 1, 1]
def stepT : List Int := [8388608, 4952084, 2616545, 1328199, 666677, 333664, 166872, 83441, 41721, 20861, 10430, 5215, 2608, 1304, 652, 326, 163, 82, 41, 20, 10]
def stepAt (k : Nat) : Int := stepT.getD k 0

def divL (a d : Int) : Int := a * 268435456 / d
def divH (b c : Int) : Int := cdiv (b * 268435456) c
theorem arc5 : arcOk 5 5 = true := by decide +kernel
theorem arc239 : arcOk 239 2 = true := by decide +kernel
theorem arc5_is : (arcS 5 5).1 = 52987965 ∧ (arcS 5 5).2.1 = 52987972 := by decide +kernel
theorem arc239_is : (arcS 239 2).1 = 1123152 ∧ (arcS 239 2).2.1 = 1123156 := by decide +kernel
theorem arc_all : ∀ k, k < 17 → 1 ≤ k → arcOk (2 ^ k) (arcN.getD k 0) = true ∧ spOk (arcS (2 ^ k) (arcN.getD k 0)).1 (arcS (2 ^ k) (arcN.getD k 0)).2.1 = true ∧ 0 ≤ (arcS (2 ^ k) (arcN.getD k 0)).1 ∧
    spOk (divL (arcS (2 ^ k) (arcN.getD k 0)).1 843314944) (divH (arcS (2 ^ k) (arcN.getD k 0)).2.1 843314816) = true ∧
    stepAt k = rdiv (rdiv (divL (arcS (2 ^ k) (arcN.getD k 0)).1 843314944 + divH (arcS (2 ^ k) (arcN.getD k 0)).2.1 843314816) 2) 8 := by decide +kernel
theorem step_half : ∀ k, k < 21 → 17 ≤ k → stepAt k = rdiv (stepAt (k - 1)) 2 := by decide +kernel
theorem step_bd : ∀ k, k < 21 → 0 < stepAt k ∧ stepAt k ≤ 8388608 := by decide +kernel
theorem step_zero : stepAt 0 = 8388608 := rfl

/-! ### growth -/
def growS : Nat → Int × Int
  | 0 => (268435456, 268435456)
  | k + 1 => (mulL (growS k).1 (growS k).2 (268435456 + 268435456 / 4 ^ k) (268435456 + 268435456 / 4 ^ k + if 14 < k then 1 else 0), mulH (growS k).1 (growS k).2 (268435456 + 268435456 / 4 ^ k) (268435456 + 268435456 / 4 ^ k + if 14 < k then 1 else 0))
theorem grow_ok : ∀ k, k < 21 → spOk (growS k).1 (growS k).2 = true ∧ spOk (268435456 + 268435456 / 4 ^ k) (268435456 + 268435456 / 4 ^ k + if 14 < k then 1 else 0) = true := by decide +kernel
theorem grow_is : growS 20 = (727948456, 727948481) := by decide +kernel
theorem start_is : divL 268435456 442048847 = 163008216 := by decide +kernel

/-! ### rotations -/
def turn1 (k : Nat) (s : Int × Int × Int) : Int × Int × Int :=
  if 0 ≤ s.2.2 then (s.1 - s.2.1 / 2 ^ k, s.2.1 + s.1 / 2 ^ k, s.2.2 - stepAt k) else (s.1 + s.2.1 / 2 ^ k, s.2.1 - s.1 / 2 ^ k, s.2.2 + stepAt k)
def turnS (x y a : Int) : Nat → Int × Int × Int
  | 0 => (x, y, a)
  | k + 1 => turn1 k (turnS x y a k)
def level1 (k : Nat) (s : Int × Int × Int) : Int × Int × Int :=
  if 0 < s.2.1 then (s.1 + s.2.1 / 2 ^ k, s.2.1 - s.1 / 2 ^ k, s.2.2 + stepAt k) else (s.1 - s.2.1 / 2 ^ k, s.2.1 + s.1 / 2 ^ k, s.2.2 - stepAt k)
def levelS (x y : Int) : Nat → Int × Int × Int
  | 0 => (x, y, 0)
  | k + 1 => level1 k (levelS x y k)
theorem half_bd (x M : Int) (k : Nat) (hM : 0 ≤ M) (h0 : -M ≤ x) (h1 : x ≤ M) : -M ≤ x / 2 ^ k ∧ x / 2 ^ k ≤ M := ediv_bd x (2 ^ k) M (by have := (pow2_bd k k (Nat.le_refl _)).1; omega) h0 h1 hM
/-- After k steps: the vector at most twice as long with each, the angle at most a whole step further. -/
theorem turnS_bd (x y a M B : Int) (hM : 0 ≤ M) (hx : -M ≤ x ∧ x ≤ M) (hy : -M ≤ y ∧ y ≤ M) (ha : -B ≤ a ∧ a ≤ B) : ∀ k, k ≤ 20 →
    (-(M * 2 ^ k) ≤ (turnS x y a k).1 ∧ (turnS x y a k).1 ≤ M * 2 ^ k) ∧ (-(M * 2 ^ k) ≤ (turnS x y a k).2.1 ∧ (turnS x y a k).2.1 ≤ M * 2 ^ k) ∧ (-(B + 8388608 * k) ≤ (turnS x y a k).2.2 ∧ (turnS x y a k).2.2 ≤ B + 8388608 * k)
  | 0, _ => by simpa [turnS] using ⟨hx, hy, ha⟩
  | k + 1, hk => by
    obtain ⟨h1, h2, h3⟩ := turnS_bd x y a M B hM hx hy ha k (by omega)
    have hp : 0 ≤ M * 2 ^ k := Int.mul_nonneg hM (by have := (pow2_bd k k (Nat.le_refl _)).1; omega)
    have e : M * 2 ^ (k + 1) = 2 * (M * 2 ^ k) := by rw [Int.pow_succ, ← Int.mul_assoc, Int.mul_comm]
    have s := step_bd k (by omega)
    have d1 := half_bd (turnS x y a k).1 (M * 2 ^ k) k hp h1.1 h1.2
    have d2 := half_bd (turnS x y a k).2.1 (M * 2 ^ k) k hp h2.1 h2.2
    rw [e]
    generalize M * 2 ^ k = P at *
    obtain ⟨u, hu⟩ : ∃ u, (turnS x y a k).1 / 2 ^ k = u := ⟨_, rfl⟩
    obtain ⟨v, hv⟩ : ∃ u, (turnS x y a k).2.1 / 2 ^ k = u := ⟨_, rfl⟩
    rw [hu] at d1
    rw [hv] at d2
    show (_ ≤ (turn1 k (turnS x y a k)).1 ∧ (turn1 k (turnS x y a k)).1 ≤ _) ∧ (_ ≤ (turn1 k (turnS x y a k)).2.1 ∧ (turn1 k (turnS x y a k)).2.1 ≤ _) ∧ (_ ≤ (turn1 k (turnS x y a k)).2.2 ∧ (turn1 k (turnS x y a k)).2.2 ≤ _)
    have ek : ((k + 1 : Nat) : Int) = (k : Int) + 1 := by omega
    rw [ek]
    unfold turn1
    rw [hu, hv]
    clear hu hv
    generalize (turnS x y a k).1 = X at *
    generalize (turnS x y a k).2.1 = Y at *
    generalize (turnS x y a k).2.2 = Z at *
    split <;> exact ⟨⟨by simp only; omega, by simp only; omega⟩, ⟨by simp only; omega, by simp only; omega⟩, by simp only; omega, by simp only; omega⟩
theorem levelS_bd (x y M : Int) (hM : 0 ≤ M) (hx : -M ≤ x ∧ x ≤ M) (hy : -M ≤ y ∧ y ≤ M) : ∀ k, k ≤ 20 →
    (-(M * 2 ^ k) ≤ (levelS x y k).1 ∧ (levelS x y k).1 ≤ M * 2 ^ k) ∧ (-(M * 2 ^ k) ≤ (levelS x y k).2.1 ∧ (levelS x y k).2.1 ≤ M * 2 ^ k) ∧ (-(8388608 * k) ≤ (levelS x y k).2.2 ∧ (levelS x y k).2.2 ≤ 8388608 * k)
  | 0, _ => by simpa [levelS] using ⟨hx, hy⟩
  | k + 1, hk => by
    obtain ⟨h1, h2, h3⟩ := levelS_bd x y M hM hx hy k (by omega)
    have hp : 0 ≤ M * 2 ^ k := Int.mul_nonneg hM (by have := (pow2_bd k k (Nat.le_refl _)).1; omega)
    have e : M * 2 ^ (k + 1) = 2 * (M * 2 ^ k) := by rw [Int.pow_succ, ← Int.mul_assoc, Int.mul_comm]
    have s := step_bd k (by omega)
    have d1 := half_bd (levelS x y k).1 (M * 2 ^ k) k hp h1.1 h1.2
    have d2 := half_bd (levelS x y k).2.1 (M * 2 ^ k) k hp h2.1 h2.2
    rw [e]
    generalize M * 2 ^ k = P at *
    obtain ⟨u, hu⟩ : ∃ u, (levelS x y k).1 / 2 ^ k = u := ⟨_, rfl⟩
    obtain ⟨v, hv⟩ : ∃ u, (levelS x y k).2.1 / 2 ^ k = u := ⟨_, rfl⟩
    rw [hu] at d1
    rw [hv] at d2
    show (_ ≤ (level1 k (levelS x y k)).1 ∧ (level1 k (levelS x y k)).1 ≤ _) ∧ (_ ≤ (level1 k (levelS x y k)).2.1 ∧ (level1 k (levelS x y k)).2.1 ≤ _) ∧ (_ ≤ (level1 k (levelS x y k)).2.2 ∧ (level1 k (levelS x y k)).2.2 ≤ _)
    have ek : ((k + 1 : Nat) : Int) = (k : Int) + 1 := by omega
    rw [ek]
    unfold level1
    rw [hu, hv]
    clear hu hv
    generalize (levelS x y k).1 = X at *
    generalize (levelS x y k).2.1 = Y at *
    generalize (levelS x y k).2.2 = Z at *
    split <;> exact ⟨⟨by simp only; omega, by simp only; omega⟩, ⟨by simp only; omega, by simp only; omega⟩, by simp only; omega, by simp only; omega⟩

/-! ### sines -/
def eighC (a : Int) : Int := if a = 0 then 16384 else min (rdiv (turnS 163008216 0 (a * 1024) 20).1 16384) 16384
def eighS (a : Int) : Int := if a = 0 then 0 else max (rdiv (turnS 163008216 0 (a * 1024) 20).2.1 16384) 0
def arcLow (a : Int) : Int := 843314816 * a / 32768
def arcHigh (a : Int) : Int := cdiv (843314944 * a) 32768
def partL (L H : Int) (e : Nat) (d : Int) : Int := (powP L H e).1 / d
def partH (L H : Int) (e : Nat) (d : Int) : Int := cdiv (powP L H e).2 d
def sinLow (a : Int) : Int := arcLow a - partH (arcLow a) (arcHigh a) 3 6 + partL (arcLow a) (arcHigh a) 5 120 - partH (arcLow a) (arcHigh a) 7 5040
def sinHigh (a : Int) : Int := arcHigh a - partL (arcLow a) (arcHigh a) 3 6 + partH (arcLow a) (arcHigh a) 5 120
def cosLow (a : Int) : Int := 268435456 - partH (arcLow a) (arcHigh a) 2 2 + partL (arcLow a) (arcHigh a) 4 24 - partH (arcLow a) (arcHigh a) 6 720
def cosHigh (a : Int) : Int := 268435456 - partL (arcLow a) (arcHigh a) 2 2 + partH (arcLow a) (arcHigh a) 4 24
end Go.Proofs.Ytndpmcegealhiaa
