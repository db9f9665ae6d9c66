/- Plain laws of tables: their values at knots, between knots, in order; turned tables; no condition. -/
import Derived.Test.YtiimaodphhaohaaKnL
namespace Go.Proofs.Ytiimaodphhaohaa
open Go.RowKit
set_option linter.unusedVariables false
set_option linter.unusedSimpArgs false

theorem rdiv_cancel (d b : Int) (hb : 0 < b) : rdiv (d * b) b = d := by
  unfold rdiv
  have e : d * b / b = d := Int.mul_ediv_cancel d (by omega)
  rw [e, if_neg (by omega)]
theorem rdiv_mono {a a' b : Int} (hb : 0 < b) (h : a ≤ a') : rdiv a b ≤ rdiv a' b := by
  have hq : a / b ≤ a' / b := Int.ediv_le_ediv hb h
  have r1 := rest_bd a b hb
  have r2 := rest_bd a' b hb
  unfold rdiv
  rcases Int.lt_or_eq_of_le hq with hlt | heq
  · split <;> split <;> omega
  · rw [heq] at r1 ⊢
    split <;> split <;> omega
theorem rdiv_up {D t s : Int} (hs : 0 < s) (t0 : 0 ≤ t) (t1 : t ≤ s) (hD : 0 ≤ D) : 0 ≤ rdiv (D * t) s ∧ rdiv (D * t) s ≤ D := by
  have h1 : rdiv (0 * s) s ≤ rdiv (D * t) s := rdiv_mono hs (by rw [Int.zero_mul]; exact Int.mul_nonneg hD t0)
  have h2 : rdiv (D * t) s ≤ rdiv (D * s) s := rdiv_mono hs (Int.mul_le_mul_of_nonneg_left t1 hD)
  rw [rdiv_cancel _ _ hs] at h1 h2
  exact ⟨h1, h2⟩
theorem rdiv_down {D t s : Int} (hs : 0 < s) (t0 : 0 ≤ t) (t1 : t ≤ s) (hD : D ≤ 0) : D ≤ rdiv (D * t) s ∧ rdiv (D * t) s ≤ 0 := by
  have h1 : rdiv (D * s) s ≤ rdiv (D * t) s := rdiv_mono hs (by
    have := Int.mul_le_mul_of_nonneg_left t1 (show 0 ≤ -D by omega)
    rw [Int.neg_mul, Int.neg_mul] at this; omega)
  have h2 : rdiv (D * t) s ≤ rdiv (0 * s) s := rdiv_mono hs (by
    rw [Int.zero_mul]
    have := Int.mul_nonneg (show 0 ≤ -D by omega) t0
    rw [Int.neg_mul] at this; omega)
  rw [rdiv_cancel _ _ hs] at h1 h2
  exact ⟨h1, h2⟩
theorem kv_at {l : List Int} {n k : Nat} (hv : knotsB l n = true) (hk : k < n) : kvF l n (kAt l k) = kVal l k := by
  have hp : ffN l (kAt l k) n = k := ffN_is (by omega) (fun j hj => kAt_mono hv k hk j hj) (fun _ => Int.le_refl _)
  rcases Nat.eq_zero_or_pos k with hz | hz
  · subst hz; exact kvF_first hv hp
  · obtain ⟨m, rfl⟩ : ∃ m, k = m + 1 := ⟨k - 1, by omega⟩
    have ha := kAt_mono hv (m + 1) hk m (by omega)
    rw [kvF_mid hv hp hk, rdiv_cancel _ _ (by omega)]
    omega
/-- Between two knots the value is between theirs. -/
theorem kv_mid {l : List Int} {n m : Nat} {x : Int} (hv : knotsB l n = true) (hp : ffN l x n = m + 1) (hm : m + 1 < n) :
    (kVal l m ≤ kVal l (m + 1) → kVal l m ≤ kvF l n x ∧ kvF l n x ≤ kVal l (m + 1)) ∧ (kVal l (m + 1) ≤ kVal l m → kVal l (m + 1) ≤ kvF l n x ∧ kvF l n x ≤ kVal l m) := by
  obtain ⟨-, f2, f3⟩ := ffN_spec l x n
  rw [hp] at f2 f3
  have ha := f2 m (by omega)
  have hc := f3 hm
  rw [kvF_mid hv hp hm]
  constructor
  · intro h
    have := rdiv_up (D := kVal l (m + 1) - kVal l m) (t := x - kAt l m) (s := kAt l (m + 1) - kAt l m) (by omega) (by omega) (by omega) (by omega)
    omega
  · intro h
    have := rdiv_down (D := kVal l (m + 1) - kVal l m) (t := x - kAt l m) (s := kAt l (m + 1) - kAt l m) (by omega) (by omega) (by omega) (by omega)
    omega
theorem kv_range {l : List Int} {n : Nat} {x lo hi : Int} (hv : knotsB l n = true) (h : ∀ k, k < n → lo ≤ kVal l k ∧ kVal l k ≤ hi) : lo ≤ kvF l n x ∧ kvF l n x ≤ hi := by
  obtain ⟨n2, n12, -⟩ := knotsB_at hv
  obtain ⟨f1, -, -⟩ := ffN_spec l x n
  rcases Nat.eq_zero_or_pos (ffN l x n) with hz | hz
  · rw [kvF_first hv hz]; exact h 0 (by omega)
  · rcases Nat.lt_or_eq_of_le f1 with hlt | heq
    · obtain ⟨m, hm⟩ : ∃ m, ffN l x n = m + 1 := ⟨ffN l x n - 1, by omega⟩
      obtain ⟨a, b⟩ := kv_mid hv hm (by omega)
      have h1 := h m (by omega)
      have h2 := h (m + 1) (by omega)
      rcases Int.le_total (kVal l m) (kVal l (m + 1)) with h3 | h3
      · have := a h3; omega
      · have := b h3; omega
    · rw [kvF_last hv heq (by omega)]; exact h (n - 1) (by omega)
theorem riseB_at {l : List Int} {n : Nat} (h : riseB l n = true) (k : Nat) (hk : k < n) (h0 : 0 < k) : kVal l (k - 1) < kVal l k := by
  unfold riseB at h
  rw [Bool.and_eq_true, List.all_eq_true] at h
  have := h.1 k (List.mem_range.2 hk)
  unfold rOk at this
  rw [Bool.or_eq_true, decide_eq_true_eq] at this
  rcases this with h2 | h2
  · have : k = 0 := by simpa using h2
    omega
  · exact h2
theorem kVal_mono {l : List Int} {n : Nat} (h : riseB l n = true) : ∀ j, j < n → ∀ i, i ≤ j → kVal l i ≤ kVal l j
  | 0, _, i, hi => by
    have : i = 0 := by omega
    rw [this]; exact Int.le_refl _
  | j + 1, hj, i, hi => by
    have h1 := riseB_at h (j + 1) hj (by omega)
    rw [Nat.add_sub_cancel] at h1
    by_cases e : i = j + 1
    · rw [e]; exact Int.le_refl _
    · have := kVal_mono h j (by omega) i (by omega); omega
theorem kv_next {l : List Int} {n : Nat} {x : Int} (hr : riseB l n = true) : kvF l n x ≤ kvF l n (x + 1) := by
  have hv := riseB_knots hr
  obtain ⟨n2, n12, -⟩ := knotsB_at hv
  obtain ⟨f1, f2, f3⟩ := ffN_spec l x n
  obtain ⟨g1, g2, g3⟩ := ffN_spec l (x + 1) n
  have hpq : ffN l x n ≤ ffN l (x + 1) n := by
    rcases Nat.lt_or_ge (ffN l (x + 1) n) (ffN l x n) with h | h
    · have := f2 _ h; have := g3 (by omega); omega
    · exact h
  have up : ∀ p, ffN l x n = p → p < n → kvF l n x ≤ kVal l p := fun p hp hpn => by
    rcases Nat.eq_zero_or_pos p with hz | hz
    · rw [kvF_first hv (hp.trans hz), hz]; exact Int.le_refl _
    · obtain ⟨m, rfl⟩ : ∃ m, p = m + 1 := ⟨p - 1, by omega⟩
      exact ((kv_mid hv hp hpn).1 (kVal_mono hr (m + 1) hpn m (by omega))).2
  have down : ∀ q, ffN l (x + 1) n = q → 0 < q → kVal l (q - 1) ≤ kvF l n (x + 1) := fun q hq hq0 => by
    rcases Nat.lt_or_eq_of_le (show q ≤ n by omega) with hlt | heq
    · obtain ⟨m, rfl⟩ : ∃ m, q = m + 1 := ⟨q - 1, by omega⟩
      rw [Nat.add_sub_cancel]
      exact ((kv_mid hv hq hlt).1 (kVal_mono hr (m + 1) hlt m (by omega))).1
    · rw [kvF_last hv (hq.trans heq) (by omega), heq]; exact Int.le_refl _
  rcases Nat.lt_or_eq_of_le hpq with hlt | heq
  · have h1 := up _ rfl (by omega)
    have h2 := down _ rfl (by omega)
    have h3 := kVal_mono hr (ffN l (x + 1) n - 1) (by omega) (ffN l x n) (by omega)
    omega
  · rcases Nat.eq_zero_or_pos (ffN l x n) with hz | hz
    · rw [kvF_first hv hz, kvF_first hv (heq ▸ hz)]; exact Int.le_refl _
    · rcases Nat.lt_or_eq_of_le f1 with hl | he
      · obtain ⟨m, hm⟩ : ∃ m, ffN l x n = m + 1 := ⟨ffN l x n - 1, by omega⟩
        have ha := kAt_mono hv (m + 1) (by omega) m (by omega)
        have hd := kVal_mono hr (m + 1) (by omega) m (by omega)
        rw [kvF_mid hv hm (by omega), kvF_mid hv (heq ▸ hm) (by omega)]
        have := rdiv_mono (a := (kVal l (m + 1) - kVal l m) * (x - kAt l m)) (a' := (kVal l (m + 1) - kVal l m) * (x + 1 - kAt l m)) (b := kAt l (m + 1) - kAt l m) (by omega) (Int.mul_le_mul_of_nonneg_left (by omega) (by omega))
        omega
      · rw [kvF_last hv he (by omega), kvF_last hv (heq ▸ he) (by omega)]; exact Int.le_refl _
/-! ### turned tables -/
theorem kAt_swap (l : List Int) {n k : Nat} (hk : k < n) : kAt (swapL l n) k = kVal l k := by
  unfold kAt kVal; rw [swapL_getD _ _ _ (by omega), swapF_even]
theorem kVal_swap (l : List Int) {n k : Nat} (hk : k < n) : kVal (swapL l n) k = kAt l k := by
  unfold kAt kVal; rw [swapL_getD _ _ _ (by omega), swapF_odd]
theorem knots_swap {l : List Int} {n : Nat} (h : riseB l n = true) : knotsB (swapL l n) n = true := by
  obtain ⟨n2, n12, hk⟩ := knotsB_at (riseB_knots h)
  refine knotsB_mk n2 n12 fun k hkn => ?_
  obtain ⟨a, b, -⟩ := hk k hkn
  rw [kAt_swap l hkn, kVal_swap l hkn]
  refine ⟨b, a, fun h0 => ?_⟩
  rw [kAt_swap l (by omega)]
  exact riseB_at h k hkn h0
theorem rise_swap {l : List Int} {n : Nat} (h : riseB l n = true) : riseB (swapL l n) n = true := by
  have hv := knots_swap h
  rw [riseB_all (swapL l n) n fun k hk => ?_]
  · exact hv
  · unfold rOk
    rw [Bool.or_eq_true, decide_eq_true_eq]
    rcases Nat.eq_zero_or_pos k with hz | hz
    · exact .inl (by simpa using hz)
    · rw [kVal_swap l hk, kVal_swap l (show k - 1 < n by omega)]
      exact .inr (kAt_mono (riseB_knots h) k hk (k - 1) (by omega))
theorem swap_swap {l : List Int} {n : Nat} (hl : l.length = n * 2) : swapL (swapL l n) n = l := by
  refine list_ext_getD (by rw [swapL_length, hl]) fun j hj => ?_
  rw [swapL_length] at hj
  rw [swapL_getD _ _ _ hj]
  unfold swapF
  split
  · rw [swapL_getD _ _ _ (by omega)]
    unfold swapF
    rw [if_neg (by omega)]; rfl
  · rw [swapL_getD _ _ _ (by omega)]
    unfold swapF
    rw [if_pos (by omega)]
    congr 1; omega
end Go.Proofs.Ytiimaodphhaohaa
