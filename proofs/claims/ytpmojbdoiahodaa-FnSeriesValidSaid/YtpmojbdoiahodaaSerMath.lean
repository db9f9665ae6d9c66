/- Plain laws of the filters: what the laws of series ask of them; conditions: a valid series, the numbers in range. -/
import Derived.Test.YtpmojbdoiahodaaSame
import Derived.Test.YtpmojbdoiahodaaLimit
import Derived.Test.YtpmojbdoiahodaaSmooth
import Derived.Test.YtpmojbdoiahodaaMean
import Derived.Test.YtpmojbdoiahodaaMiddle
namespace Go.Proofs.Ytpmojbdoiahodaa
open Go.RowKit
set_option linter.unusedVariables false

theorem tab_self (xs : List Int) (f : Nat → Int) (h : ∀ k, k < xs.length → f k = xs.getD k 0) : tab f xs.length = xs :=
  list_ext_getD (by simp [tab]) fun j hj => by
    have hj' : j < xs.length := by simpa [tab] using hj
    rw [tab_getD _ _ _ hj']; exact h j hj'
theorem within_of_tab (xs : List Int) (f : Nat → Int) (h : ∀ k, k < xs.length → (∃ i, i < xs.length ∧ xs.getD i 0 ≤ f k) ∧ ∃ i, i < xs.length ∧ f k ≤ xs.getD i 0) : Within (tab f xs.length) xs := fun k hk => by
  have hk' : k < xs.length := by simpa [tab] using hk
  rw [tab_getD _ _ _ hk']; exact h k hk'
theorem seriesB_mk (ys : List Int) (hl : ys.length ≤ 60) (h : ∀ j, j < ys.length → -1000000 ≤ ys.getD j 0 ∧ ys.getD j 0 ≤ 1000000) : seriesB ys = true := by
  unfold seriesB
  rw [Bool.and_eq_true, decide_eq_true_eq]
  exact ⟨hl, (allIn_iff _ _).2 fun j hj => (inB_iff _ _ _).2 (h j hj)⟩
theorem between_wit {n : Nat} {f : Nat → Int} {L r : Int} {k : Nat} (hk : k < n) (h1 : (∃ i, i < n ∧ f i ≤ L) ∧ ∃ i, i < n ∧ L ≤ f i) (hb : (L ≤ r ∧ r ≤ f k) ∨ (f k ≤ r ∧ r ≤ L)) : (∃ i, i < n ∧ f i ≤ r) ∧ ∃ i, i < n ∧ r ≤ f i := by
  obtain ⟨⟨i, hi, h2⟩, j, hj, h3⟩ := h1
  rcases hb with ⟨a, b⟩ | ⟨a, b⟩
  · exact ⟨⟨i, hi, by omega⟩, k, hk, b⟩
  · exact ⟨⟨k, hk, a⟩, j, hj, by omega⟩

/-! ### LimitSteps -/
theorem limF_wit (xs : List Int) (m : Int) (h0 : 0 ≤ m) : ∀ k, k < xs.length → (∃ i, i < xs.length ∧ xs.getD i 0 ≤ limF xs m k) ∧ ∃ i, i < xs.length ∧ limF xs m k ≤ xs.getD i 0
  | 0, hk => ⟨⟨0, hk, Int.le_refl _⟩, 0, hk, Int.le_refl _⟩
  | k + 1, hk => by
    refine between_wit (f := fun i => xs.getD i 0) hk (limF_wit xs m h0 k (by omega)) ?_
    rw [limF]; omega
theorem limF_step (xs : List Int) (m : Int) (h0 : 0 ≤ m) (k : Nat) : limF xs m (k + 1) - limF xs m k ≤ m ∧ limF xs m k - limF xs m (k + 1) ≤ m := by rw [limF]; omega
theorem limF_idem (ys : List Int) (m : Int) (h0 : 0 ≤ m) (h : ∀ k, k + 1 < ys.length → ys.getD (k + 1) 0 - ys.getD k 0 ≤ m ∧ ys.getD k 0 - ys.getD (k + 1) 0 ≤ m) : ∀ k, k < ys.length → limF ys m k = ys.getD k 0
  | 0, hk => rfl
  | k + 1, hk => by
    have := limF_idem ys m h0 h k (by omega)
    have := h k hk
    rw [limF]; omega
structure LimOk (xs R : List Int) (m : Int) : Prop where
  len : R.length = xs.length
  short : xs.length ≤ 60
  m0 : 0 ≤ m
  m1 : m ≤ 1000000
  bd : ∀ k, k < R.length → -1000000 ≤ R.getD k 0 ∧ R.getD k 0 ≤ 1000000
  step : ∀ k, k + 1 < R.length → R.getD (k + 1) 0 - R.getD k 0 ≤ m ∧ R.getD k 0 - R.getD (k + 1) 0 ≤ m
  hull : Within R xs
  idem : limitSteps R m = R
theorem limit_ok (xs : List Int) (m : Int) (h : seriesB xs = true) (hm : inB m 0 1000000 = true) : LimOk xs (limitSteps xs m) m := by
  obtain ⟨hl, hb⟩ := seriesB_at xs h
  obtain ⟨m0, m1⟩ := (inB_iff _ _ _).1 hm
  have e : limitSteps xs m = tab (limF xs m) xs.length := by unfold limitSteps; rw [h, hm]; rfl
  have hlen : (tab (limF xs m) xs.length).length = xs.length := tab_length _ _
  rw [e]
  have hbd : ∀ k, k < (tab (limF xs m) xs.length).length → -1000000 ≤ (tab (limF xs m) xs.length).getD k 0 ∧ (tab (limF xs m) xs.length).getD k 0 ≤ 1000000 := fun k hk => by
    rw [hlen] at hk; rw [tab_getD _ _ _ hk]; exact limF_bd xs m m0 hb k hk
  have hst : ∀ k, k + 1 < (tab (limF xs m) xs.length).length → (tab (limF xs m) xs.length).getD (k + 1) 0 - (tab (limF xs m) xs.length).getD k 0 ≤ m ∧ (tab (limF xs m) xs.length).getD k 0 - (tab (limF xs m) xs.length).getD (k + 1) 0 ≤ m := fun k hk => by
    rw [hlen] at hk; rw [tab_getD _ _ _ hk, tab_getD _ _ _ (by omega)]; exact limF_step xs m m0 k
  refine ⟨hlen, hl, m0, m1, hbd, hst, within_of_tab xs _ (limF_wit xs m m0), ?_⟩
  generalize tab (limF xs m) xs.length = R at *
  unfold limitSteps
  rw [seriesB_mk R (by omega) hbd, hm]
  exact tab_self R _ (limF_idem R m m0 hst)
theorem limit_no (xs : List Int) (m : Int) (h : seriesB xs = false ∨ inB m 0 1000000 = false) : limitSteps xs m = [] := by
  unfold limitSteps
  rcases h with h | h <;> rw [h] <;> simp

/-! ### SmoothFilter -/
theorem smF_wit (xs : List Int) (d : Int) (h0 : 0 < d) : ∀ k, k < xs.length → (∃ i, i < xs.length ∧ xs.getD i 0 ≤ smF xs d k) ∧ ∃ i, i < xs.length ∧ smF xs d k ≤ xs.getD i 0
  | 0, hk => ⟨⟨0, hk, Int.le_refl _⟩, 0, hk, Int.le_refl _⟩
  | k + 1, hk => by
    refine between_wit (f := fun i => xs.getD i 0) hk (smF_wit xs d h0 k (by omega)) ?_
    have h3 := rdiv_bd (xs.getD (k + 1) 0 - smF xs d k) d h0
    rw [smF]
    rcases Int.le_total 0 (xs.getD (k + 1) 0 - smF xs d k) with h4 | h4
    · have := h3.1 h4; omega
    · have := h3.2 h4; omega
theorem rdiv_one (a : Int) : rdiv a 1 = a := by unfold rdiv; rw [Int.ediv_one]; split <;> omega
theorem smF_one (xs : List Int) : ∀ k, smF xs 1 k = xs.getD k 0
  | 0 => rfl
  | k + 1 => by rw [smF, smF_one xs k, rdiv_one]; omega
structure FilOk (xs R : List Int) : Prop where
  len : R.length = xs.length
  short : xs.length ≤ 60
  hull : Within R xs
theorem smooth_ok (xs : List Int) (k : Int) (h : seriesB xs = true) (hk : inB k 0 10 = true) : FilOk xs (smoothFilter xs k) ∧ smoothFilter xs 0 = xs ∧ (0 < xs.length → (smoothFilter xs k).getD 0 0 = xs.getD 0 0) := by
  obtain ⟨hl, hb⟩ := seriesB_at xs h
  obtain ⟨k0, k1⟩ := (inB_iff _ _ _).1 hk
  have e : smoothFilter xs k = tab (smF xs (2 ^ k.toNat)) xs.length := by unfold smoothFilter; rw [h, hk]; rfl
  have d0 : 0 < (2 : Int) ^ k.toNat := Int.pow_pos (by decide)
  rw [e]
  refine ⟨⟨tab_length _ _, hl, within_of_tab xs _ (smF_wit xs _ d0)⟩, ?_, fun hp => by rw [tab_getD _ _ _ hp]; rfl⟩
  unfold smoothFilter
  rw [h, show inB 0 0 10 = true from by decide]
  exact tab_self xs _ fun k _ => smF_one xs k
theorem smooth_no (xs : List Int) (m : Int) (h : seriesB xs = false ∨ inB m 0 10 = false) : smoothFilter xs m = [] := by
  unfold smoothFilter
  rcases h with h | h <;> rw [h] <;> simp

/-! ### MeanFilter -/
theorem min_wit (f : Nat → Int) : ∀ n, 0 < n → ∃ i, i < n ∧ ∀ j, j < n → f i ≤ f j
  | 1, _ => ⟨0, by omega, fun j hj => by obtain rfl : j = 0 := by omega
                                         exact Int.le_refl _⟩
  | n + 2, _ => by
    obtain ⟨i, hi, h⟩ := min_wit f (n + 1) (by omega)
    rcases Int.le_total (f i) (f (n + 1)) with hc | hc
    · exact ⟨i, by omega, fun j hj => by by_cases e : j = n + 1; (subst e; exact hc); exact h j (by omega)⟩
    · exact ⟨n + 1, by omega, fun j hj => by by_cases e : j = n + 1; (subst e; exact Int.le_refl _); exact Int.le_trans hc (h j (by omega))⟩
theorem max_wit (f : Nat → Int) (n : Nat) (hn : 0 < n) : ∃ i, i < n ∧ ∀ j, j < n → f j ≤ f i := by
  obtain ⟨i, hi, h⟩ := min_wit (fun i => -f i) n hn
  exact ⟨i, hi, fun j hj => by have h3 : -f i ≤ -f j := h j hj; omega⟩
theorem psum_win (xs : List Int) (lo hi : Int) (h : ∀ j, j < xs.length → lo ≤ xs.getD j 0 ∧ xs.getD j 0 ≤ hi) (a : Nat) : ∀ c, a + c ≤ xs.length → lo * (c : Int) ≤ psum xs (a + c) - psum xs a ∧ psum xs (a + c) - psum xs a ≤ hi * (c : Int)
  | 0, _ => by simp
  | c + 1, hc => by
    have h1 := psum_win xs lo hi h a c (by omega)
    have h2 := h (a + c) (by omega)
    have e : psum xs (a + (c + 1)) = psum xs (a + c) + xs.getD (a + c) 0 := rfl
    have e1 : lo * ((c + 1 : Nat) : Int) = lo * (c : Int) + lo := by rw [Int.natCast_add, Int.mul_add]; simp
    have e2 : hi * ((c + 1 : Nat) : Int) = hi * (c : Int) + hi := by rw [Int.natCast_add, Int.mul_add]; simp
    rw [e, e1, e2]
    omega
theorem rdiv_between (s c lo hi : Int) (hc : 0 < c) (h0 : lo * c ≤ s) (h1 : s ≤ hi * c) : lo ≤ rdiv s c ∧ rdiv s c ≤ hi := by
  have q0 : lo ≤ s / c := Int.le_ediv_of_mul_le hc h0
  have e := rest_bd s c hc
  unfold rdiv
  split
  · rename_i hs
    refine ⟨by omega, ?_⟩
    have h2 : s / c < hi := by
      rcases Int.lt_or_le (s / c) hi with h | h
      · exact h
      · exfalso
        have h3 : hi * c ≤ s / c * c := Int.mul_le_mul_of_nonneg_right h (by omega)
        omega
    omega
  · refine ⟨q0, ?_⟩
    rcases Int.lt_or_le hi (s / c) with h | h
    · exfalso
      have h3 : (hi + 1) * c ≤ s / c * c := Int.mul_le_mul_of_nonneg_right h (by omega)
      rw [Int.add_mul] at h3
      omega
    · exact h
theorem meanF_wit (xs : List Int) (N : Nat) (hN : 1 ≤ N) (k : Nat) (hk : k < xs.length) : (∃ i, i < xs.length ∧ xs.getD i 0 ≤ meanF xs N k) ∧ ∃ i, i < xs.length ∧ meanF xs N k ≤ xs.getD i 0 := by
  obtain ⟨i, hi, h1⟩ := min_wit (fun i => xs.getD i 0) xs.length (by omega)
  obtain ⟨j, hj, h2⟩ := max_wit (fun i => xs.getD i 0) xs.length (by omega)
  have hw := psum_win xs _ _ (fun q hq => ⟨h1 q hq, h2 q hq⟩) (k + 1 - N) (min (k + 1) N) (by omega)
  have e : k + 1 - N + min (k + 1) N = k + 1 := by omega
  rw [e] at hw
  have := rdiv_between _ _ _ _ (by omega) hw.1 hw.2
  exact ⟨⟨i, hi, this.1⟩, j, hj, this.2⟩
theorem mean_ok (xs : List Int) (k : Int) (h : seriesB xs = true) (hk : inB k 1 60 = true) : FilOk xs (meanFilter xs k) ∧ meanFilter xs 1 = xs := by
  obtain ⟨hl, hb⟩ := seriesB_at xs h
  obtain ⟨k0, k1⟩ := (inB_iff _ _ _).1 hk
  have e : meanFilter xs k = tab (meanF xs k.toNat) xs.length := by unfold meanFilter; rw [h, hk]; rfl
  rw [e]
  refine ⟨⟨tab_length _ _, hl, within_of_tab xs _ (meanF_wit xs _ (by omega))⟩, ?_⟩
  unfold meanFilter
  rw [h, show inB 1 1 60 = true from by decide]
  refine tab_self xs _ fun k _ => ?_
  unfold meanF
  have e1 : (1 : Int).toNat = 1 := rfl
  have e2 : k + 1 - 1 = k := by omega
  have e3 : min (k + 1) 1 = 1 := by omega
  have e4 : psum xs (k + 1) = psum xs k + xs.getD k 0 := rfl
  rw [e1, e2, e3, e4]
  have e5 : psum xs k + xs.getD k 0 - psum xs k = xs.getD k 0 := by omega
  rw [e5]
  exact rdiv_one _
theorem mean_no (xs : List Int) (m : Int) (h : seriesB xs = false ∨ inB m 1 60 = false) : meanFilter xs m = [] := by
  unfold meanFilter
  rcases h with h | h <;> rw [h] <;> simp
end Go.Proofs.Ytpmojbdoiahodaa
