/- The value of a table at a place, and where the place lies; condition: a valid table. -/
import Derived.Test.YtiimaodphhaohaaKn14
namespace Go.Proofs.Ytiimaodphhaohaa
open Go.RowKit
set_option linter.unusedVariables false
set_option linter.unusedSimpArgs false
set_option maxHeartbeats 1000000

/-- The first of n knots whose place is at least x, or n. -/
def ffN (xs : List Int) (x : Int) : Nat → Nat
  | 0 => 0
  | n + 1 => if ffN xs x n < n then ffN xs x n else if kAt xs n < x then n + 1 else n
theorem ffN_spec (xs : List Int) (x : Int) : ∀ n, ffN xs x n ≤ n ∧ (∀ j, j < ffN xs x n → kAt xs j < x) ∧ (ffN xs x n < n → x ≤ kAt xs (ffN xs x n))
  | 0 => ⟨Nat.le_refl _, fun j hj => absurd hj (Nat.not_lt_zero _), fun h => absurd h (Nat.not_lt_zero _)⟩
  | n + 1 => by
    obtain ⟨h1, h2, h3⟩ := ffN_spec xs x n
    unfold ffN
    split
    · rename_i h; exact ⟨by omega, h2, fun _ => h3 h⟩
    · rename_i h
      have e : ffN xs x n = n := by omega
      rw [e] at h2
      split
      · rename_i h4
        refine ⟨Nat.le_refl _, fun j hj => ?_, fun h => by omega⟩
        by_cases hj2 : j = n
        · subst hj2; exact h4
        · exact h2 j (by omega)
      · rename_i h4
        exact ⟨by omega, h2, fun _ => by omega⟩
theorem ffN_is {xs : List Int} {x : Int} {n p : Nat} (hp : p ≤ n) (h1 : ∀ j, j < p → kAt xs j < x) (h2 : p < n → x ≤ kAt xs p) : ffN xs x n = p := by
  obtain ⟨k1, k2, k3⟩ := ffN_spec xs x n
  rcases Nat.lt_trichotomy p (ffN xs x n) with h | h | h
  · have := k2 p h; have := h2 (by omega); omega
  · exact h.symm
  · have := h1 _ h; have := k3 (by omega); omega
theorem knotsB_at {xs : List Int} {n : Nat} (h : knotsB xs n = true) : 2 ≤ n ∧ n ≤ 12 ∧ ∀ k, k < n → (-1000000 ≤ kAt xs k ∧ kAt xs k ≤ 1000000) ∧ (-1000000 ≤ kVal xs k ∧ kVal xs k ≤ 1000000) ∧ (0 < k → kAt xs (k - 1) < kAt xs k) := by
  unfold knotsB at h
  rw [Bool.and_eq_true, inB_iff, List.all_eq_true] at h
  refine ⟨by omega, by omega, fun k hk => ?_⟩
  have := h.2 k (List.mem_range.2 hk)
  unfold kOk at this
  rw [Bool.and_eq_true, Bool.and_eq_true, inB_iff, inB_iff, Bool.or_eq_true, decide_eq_true_eq] at this
  refine ⟨this.1.1, this.1.2, fun h0 => ?_⟩
  rcases this.2 with h2 | h2
  · have : k = 0 := by simpa using h2
    omega
  · exact h2
theorem kAt_mono {xs : List Int} {n : Nat} (h : knotsB xs n = true) : ∀ j, j < n → ∀ i, i < j → kAt xs i < kAt xs j
  | 0, _, i, hi => absurd hi (Nat.not_lt_zero _)
  | j + 1, hj, i, hi => by
    have h1 := ((knotsB_at h).2.2 (j + 1) hj).2.2 (by omega)
    rw [Nat.add_sub_cancel] at h1
    by_cases e : i = j
    · subst e; exact h1
    · have := kAt_mono h j (by omega) i (by omega); omega
/-- The value of a table at a place. -/
def kvF (xs : List Int) (n : Nat) (x : Int) : Int :=
  if knotsB xs n = true then
    (if ffN xs x n = 0 then kVal xs 0 else if ffN xs x n = n then kVal xs (n - 1)
     else kVal xs (ffN xs x n - 1) + rdiv ((kVal xs (ffN xs x n) - kVal xs (ffN xs x n - 1)) * (x - kAt xs (ffN xs x n - 1))) (kAt xs (ffN xs x n) - kAt xs (ffN xs x n - 1)))
  else 0
theorem kvF_no {xs : List Int} {n : Nat} (x : Int) (h : knotsB xs n = false) : kvF xs n x = 0 := by unfold kvF; rw [h]; rfl
theorem kvF_first {xs : List Int} {n : Nat} {x : Int} (h : knotsB xs n = true) (hp : ffN xs x n = 0) : kvF xs n x = kVal xs 0 := by unfold kvF; rw [if_pos h, if_pos hp]
theorem kvF_last {xs : List Int} {n : Nat} {x : Int} (h : knotsB xs n = true) (hp : ffN xs x n = n) (hn : 0 < n) : kvF xs n x = kVal xs (n - 1) := by unfold kvF; rw [if_pos h, if_neg (by omega), if_pos hp]
theorem kvF_mid {xs : List Int} {n m : Nat} {x : Int} (h : knotsB xs n = true) (hp : ffN xs x n = m + 1) (hm : m + 1 < n) :
    kvF xs n x = kVal xs m + rdiv ((kVal xs (m + 1) - kVal xs m) * (x - kAt xs m)) (kAt xs (m + 1) - kAt xs m) := by unfold kvF; rw [if_pos h, if_neg (by omega), if_neg (by omega), hp, Nat.add_sub_cancel]
theorem mul_bd21 (a c : Int) (a0 : -2000000 ≤ a) (a1 : a ≤ 2000000) (c0 : -2000000 ≤ c) (c1 : c ≤ 2000000) : -4000000000000 ≤ a * c ∧ a * c ≤ 4000000000000 := mul_bd a c 2000000 2000000 (by omega) (by omega) a0 a1 c0 c1
theorem implRoundDiv_ok (a b : Int) (hb : 0 < b) (hb2 : b ≤ 1152921504606846976) (h0 : -1152921504606846976 ≤ a) (h1 : a ≤ 1152921504606846976) (w : World) :
    Calls Try.prog 41 #[.int .i64 a, .int .i64 b] w fun e w' => e = .returned (.int .i64 (rdiv a b)) ∧ w = w' := by
  have hi : inB a (-1152921504606846976) 1152921504606846976 = true := (inB_iff _ _ _).2 ⟨h0, h1⟩
  obtain ⟨q0, q1⟩ := ediv_bd a b 1152921504606846976 hb h0 h1 (by omega)
  obtain ⟨r0, r1⟩ := rest_bd a b hb
  have hp : bits .and .i64 (a / b) 1 = a / b % 2 := and_mask (a / b) 1 (by omega)
  have hz : a / b % 2 = 0 ∨ a / b % 2 = 1 := by omega
  have HZ := Lib.hid hz
  clear hz
  go_enter Try.func41, Try.ntmps41
  go_wp2_with (first
    | (go_at_call 48; refine (workable_any _ _).mono ?_; rintro e w' ⟨rfl, rfl⟩)
    | (go_at_call 49; refine (implFloorDiv_ok a b hb hb2 h0 h1 _).mono ?_; rintro e w' ⟨rfl, rfl⟩))
  all_goals (go_ret; refine ⟨ret_int ?_, rfl⟩; have := HZ.out; unfold rdiv; split <;> (first | omega | (simp_all; try omega)))
theorem firstFrom_any (A : Option Addr) (n c : Nat) (xs : List Int) (x : Int) (w : World) (hn : xs.length = n * 2) (h : Ints w w.heap.size A xs) (hv : knotsB xs n = true) :
    Calls Try.prog 40 #[.slice A n c, .int .i64 x] w fun e w' => e = .returned (.int .i64 (ffN xs x n)) ∧ w = w' := by
  have HN := Lib.hid hn
  obtain ⟨n2, n12, _⟩ := knotsB_at hv
  have HM := Lib.hid (kAt_mono hv)
  clear hn hv
  go_enter Try.func40, Try.ntmps40
  go_wp2
  go_loop [5, 6] (fun l g => ∃ lo hi : Nat, lo ≤ hi ∧ hi ≤ n ∧ l = .int .i64 lo ∧ g = .int .i64 hi ∧ (∀ j, j < lo → kAt xs j < x) ∧ (hi < n → x ≤ kAt xs hi)) (fun l g => (intOf g - intOf l).toNat)
  case atStart => exact ⟨0, n, Nat.zero_le _, Nat.le_refl _, rfl, rfl, fun j hj => absurd hj (Nat.not_lt_zero _), fun h => absurd h (Nat.lt_irrefl _)⟩
  case round =>
    obtain ⟨lo, hi, h1, h2, rfl, rfl, h3, h4⟩ := hrel
    have H3 := Lib.hid h3
    have H4 := Lib.hid h4
    clear h3 h4
    by_cases hlt : lo < hi
    · obtain ⟨b1, f1, rfl, hb1, hc1⟩ := h (by rw [HN.out]; omega)
      obtain ⟨m, hm⟩ : ∃ m : Nat, (lo + hi) / 2 = m := ⟨_, rfl⟩
      have hm1 : lo ≤ m := by omega
      have hm2 : m < hi := by omega
      have e1 : IntKind.i64.wrap ((lo : Int) + (hi : Int)) = (lo : Int) + (hi : Int) := IntWalk.i64_in _ (by omega)
      have e2 : ((lo : Int) + (hi : Int)).tdiv 2 = (m : Int) := by rw [Int.tdiv_eq_ediv_of_nonneg (by omega)]; omega
      have e4 : ((lo : Int) + (hi : Int)) / 2 = (m : Int) := by omega
      have e3 : IntKind.i64.wrap (m : Int) = (m : Int) := IntWalk.i64_in _ (by omega)
      have k1 := hc1 (m * 2) (by rw [HN.out]; omega)
      obtain ⟨y, hy⟩ : ∃ y, xs.getD (m * 2) 0 = y := ⟨_, rfl⟩
      rw [hy] at k1
      have hk : kAt xs m = y := hy
      have HK := Lib.hid hk
      clear hc1 hm hk hy
      have i0 : (0 : Int) ≤ (m : Int) := by omega
      have i1 : (m : Int) < (n : Int) := by omega
      by_cases hyx : y < x
      · go_wp2
        go_round
        case rel =>
          refine ⟨m + 1, hi, by omega, by omega, by go_num, rfl, fun j hj => ?_, H4.out⟩
          by_cases hj2 : j = m
          · subst hj2; rw [HK.out]; exact hyx
          · have := HM.out m (by omega) j (by omega); rw [HK.out] at this; omega
        case measure => simp [intOf]; omega
      · go_wp2
        go_round
        case rel => exact ⟨lo, m, by omega, by omega, rfl, rfl, H3.out, fun _ => by rw [HK.out]; omega⟩
        case measure => simp [intOf]; omega
    · have hlh : lo = hi := by omega
      subst hlh
      go_wp2
      go_ret
      exact ⟨ret_int (by rw [ffN_is h2 H3.out H4.out]), rfl⟩
end Go.Proofs.Ytiimaodphhaohaa
