/- The walk of the law RotateVector; no condition. -/
import Derived.Test.YtndpmcegealhiaaRot
import Derived.Test.YtndpmcegealhiaaRotD
import Derived.Test.YtndpmcegealhiaaRMath
import Derived.Test.YtndpmcegealhiaaFactN
namespace Go.Proofs.Ytndpmcegealhiaa
open Go.RowKit
set_option linter.unusedVariables false
set_option linter.unusedSimpArgs false
set_option maxHeartbeats 2000000

theorem vecB_more {m k X Y : Int} (h : vecB m X Y = true) (hk : m ≤ k) : vecB k X Y = true := by
  obtain ⟨⟨a, b⟩, c, d⟩ := vecB_spec _ _ _ h
  unfold vecB; rw [Bool.and_eq_true, inB_iff, inB_iff]; omega
def Norm (p : Int × Int) : Prop := (268402688 ≤ p.1 * p.1 + p.2 * p.2 ∧ p.1 * p.1 + p.2 * p.2 ≤ 268468224) ∧ (-16384 ≤ p.1 ∧ p.1 ≤ 16384) ∧ (-16384 ≤ p.2 ∧ p.2 ≤ 16384)
theorem norm_base (a : Int) : Norm (baseP a) := by
  have h := fold_bd a
  obtain ⟨k, hk⟩ := Int.eq_ofNat_of_zero_le h.1
  have f := factN_all k (by omega)
  unfold factNB at f
  simp only [Bool.and_eq_true, decide_eq_true_eq] at f
  unfold baseP Norm
  rw [hk]
  split
  · simp only; rw [Int.add_comm]; omega
  · simp only; omega
theorem norm_rot {p : Int × Int} (h : Norm p) : ∀ n, Norm (rotQ p n)
  | 0 => h
  | n + 1 => by
    have ih := norm_rot h n
    unfold Norm at ih ⊢
    unfold rotQ
    simp only
    rw [Int.neg_mul_neg, Int.add_comm]
    omega
theorem norm_cs {a : Int} (h : inB a (-1152921504606846976) 1152921504606846976 = true) : Norm (csT a) := by
  unfold csT
  rw [h, if_pos rfl]
  exact norm_rot (norm_base _) _
theorem rdiv_own (z : Int) : rdiv (16384 * z) 16384 = z := by
  unfold rdiv
  have e : 16384 * z / 16384 = z := by omega
  rw [e, if_neg (by omega)]
theorem cs_zero : csT 0 = (16384, 0) := by
  have e : eighC 0 = 16384 ∧ eighS 0 = 0 := ⟨rfl, rfl⟩
  show rotQ (if foldB 0 = true then (eighS (foldR 0), eighC (foldR 0)) else (eighC (foldR 0), eighS (foldR 0))) 0 = _
  have h1 : foldB 0 = false := rfl
  have h2 : foldR 0 = 0 := rfl
  rw [h1, h2, e.1, e.2]
  rfl
theorem cs_quarter : csT 16384 = (0, 16384) := by
  have e : eighC 0 = 16384 ∧ eighS 0 = 0 := ⟨rfl, rfl⟩
  show rotQ (if foldB 16384 = true then (eighS (foldR 16384), eighC (foldR 16384)) else (eighC (foldR 16384), eighS (foldR 16384))) 1 = _
  have h1 : foldB 16384 = false := rfl
  have h2 : foldR 16384 = 0 := rfl
  rw [h1, h2, e.1, e.2]
  rfl
theorem rot_zero {x y : Int} (h : vecB 1048576 x y = true) : rotF x y 0 = (x, y) := by
  unfold rotF
  rw [h, show inB 0 (-1152921504606846976) 1152921504606846976 = true from by decide, cs_zero]
  simp only [Bool.and_self, if_true]
  rw [show (16384 : Int) * x - 0 * y = 16384 * x by omega, show (0 : Int) * x + 16384 * y = 16384 * y by omega, rdiv_own, rdiv_own]
theorem rot_quarter {x y : Int} (h : vecB 1048576 x y = true) : rotF x y 16384 = (-y, x) := by
  unfold rotF
  rw [h, show inB 16384 (-1152921504606846976) 1152921504606846976 = true from by decide, cs_quarter]
  simp only [Bool.and_self, if_true]
  rw [show (0 : Int) * x - 16384 * y = 16384 * (-y) by omega, show (16384 : Int) * x + 0 * y = 16384 * x by omega, rdiv_own, rdiv_own]
/-- A rotated vector is as long, but for a small part. -/
theorem rot_len {x y a n m : Int} (h : vecB 1048576 x y = true) (hi : inB a (-1152921504606846976) 1152921504606846976 = true) (hn : IsLen x y n) (hm : IsLen (rotF x y a).1 (rotF x y a).2 m) :
    (0 ≤ n ∧ n ≤ 2097152) ∧ (0 ≤ m ∧ m ≤ 4194304) ∧ m ≤ n + n / 4096 + 3 ∧ n ≤ m + n / 4096 + 3 := by
  obtain ⟨⟨s0, s1⟩, ⟨c0, c1⟩, d0, d1⟩ := norm_cs hi
  obtain ⟨⟨x0, x1⟩, y0, y1⟩ := vecB_spec _ _ _ h
  have e : rotF x y a = (rdiv ((csT a).1 * x - (csT a).2 * y) 16384, rdiv ((csT a).2 * x + (csT a).1 * y) 16384) := by unfold rotF; rw [h, hi]; rfl
  rw [e] at hm
  simp only at hm
  generalize (csT a).1 = c at *
  generalize (csT a).2 = s at *
  have k1 := mul_bd c x 16384 1048576 (by omega) (by omega) c0 c1 x0 x1
  have k2 := mul_bd s y 16384 1048576 (by omega) (by omega) d0 d1 y0 y1
  have k3 := mul_bd s x 16384 1048576 (by omega) (by omega) d0 d1 x0 x1
  have k4 := mul_bd c y 16384 1048576 (by omega) (by omega) c0 c1 y0 y1
  have r1 := rdiv_near (c * x - s * y) 16384 (by decide)
  have r2 := rdiv_near (s * x + c * y) 16384 (by decide)
  obtain ⟨u, hu⟩ : ∃ u, rdiv (c * x - s * y) 16384 = u := ⟨_, rfl⟩
  obtain ⟨v, hv⟩ : ∃ u, rdiv (s * x + c * y) 16384 = u := ⟨_, rfl⟩
  rw [hu] at hm r1
  rw [hv] at hm r2
  have hv1 : vecB 536870912 x y = true := vecB_more h (by decide)
  have u0 : -2097153 ≤ u ∧ u ≤ 2097153 := by omega
  have v0 : -2097153 ≤ v ∧ v ≤ 2097153 := by omega
  have hv2 : vecB 536870912 u v = true := by unfold vecB; rw [Bool.and_eq_true, inB_iff, inB_iff]; omega
  have hn' : IsRoot (x * x + y * y) n := by
    rcases hn with ⟨_, hn⟩ | ⟨hn, _⟩
    · exact hn
    · rw [hv1] at hn; cases hn
  have hm' : IsRoot (u * u + v * v) m := by
    rcases hm with ⟨_, hm⟩ | ⟨hm, _⟩
    · exact hm
    · rw [hv2] at hm; cases hm
  have hl := len_law (c := c) (s := s) (x := x) (y := y) (u := u) (v := v) s0 s1 (by omega) (by omega) (by omega) (by omega) hn' hm'
  have q1 := (mul_bd x x 1048576 1048576 (by omega) (by omega) x0 x1 x0 x1).2
  have q2 := (mul_bd y y 1048576 1048576 (by omega) (by omega) y0 y1 y0 y1).2
  have q3 := (mul_bd u u 2097153 2097153 (by omega) (by omega) u0.1 u0.2 u0.1 u0.2).2
  have q4 := (mul_bd v v 2097153 2097153 (by omega) (by omega) v0.1 v0.2 v0.1 v0.2).2
  refine ⟨⟨hn'.1, ?_⟩, ⟨hm'.1, ?_⟩, hl⟩
  · rcases Int.lt_or_le 2097152 n with hlt | hle
    · have := sq_le 2097153 n (by omega) (by omega)
      have := hn'.2.1
      omega
    · exact hle
  · rcases Int.lt_or_le 4194304 m with hlt | hle
    · have := sq_le 4194305 m (by omega) (by omega)
      have := hm'.2.1
      omega
    · exact hle
end Go.Proofs.Ytndpmcegealhiaa
