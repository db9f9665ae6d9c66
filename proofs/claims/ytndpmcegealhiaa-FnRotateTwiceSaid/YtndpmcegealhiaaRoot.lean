/- Contracts of the square roots (spec.l2Sqrt, impl.SqrtFloor) and of LengthOf, and the walk of its exact law; conditions: the number is in 0..MaxWork. The walk of bits.Len64 is the kit's template, turned to this program. -/
import Derived.Test.YtndpmcegealhiaaVec
import Derived.Test.YtndpmcegealhiaaLen64
namespace Go.Proofs.Ytndpmcegealhiaa
open Go.RowKit
set_option linter.unusedVariables false

/-- r is the root of n, rounded down. -/
def IsRoot (n r : Int) : Prop := 0 ≤ r ∧ r * r ≤ n ∧ n < (r + 1) * (r + 1)
theorem sq_le (a b : Int) (h0 : 0 ≤ a) (h : a ≤ b) : a * a ≤ b * b := Int.mul_le_mul h h h0 (by omega)
theorem IsRoot.one {n r s : Int} (h : IsRoot n r) (k : IsRoot n s) : r = s := by
  obtain ⟨a0, a1, a2⟩ := h
  obtain ⟨b0, b1, b2⟩ := k
  rcases Int.lt_trichotomy r s with h | h | h
  · have := sq_le (r + 1) s (by omega) (by omega)
    omega
  · exact h
  · have := sq_le (s + 1) r (by omega) (by omega)
    omega
theorem l2Sqrt_ok (n : Int) (h0 : 0 ≤ n) (h1 : n ≤ 1152921504606846976) (w : World) :
    Calls Try.prog 79 #[.int .i64 n] w fun e w' => (∃ r, e = .returned (.int .i64 r) ∧ IsRoot n r) ∧ w = w' := by
  go_enter Try.func79, Try.ntmps79
  go_wp2
  go_loop [3, 4] (fun r i => ∃ (j : Nat) (y p : Int), j ≤ 31 ∧ i = .int .i64 ((j : Int) - 1) ∧ r = .int .i64 y ∧ p = 2 ^ j ∧ 0 ≤ y ∧ y + p ≤ 2147483648 ∧ y * y ≤ n ∧ n < (y + p) * (y + p)) (fun _ i => (intOf i + 1).toNat)
  case atStart => exact ⟨31, 0, 2147483648, Nat.le_refl _, by first | rfl | go_num, rfl, by decide, Int.le_refl _, by omega, by omega, by omega⟩
  case round =>
    obtain ⟨j, y, p, hj, rfl, rfl, hp, y0, y1, y2, y3⟩ := hrel
    have HY2 := Lib.hid y2
    have HY3 := Lib.hid y3
    clear y2 y3
    rcases Nat.eq_zero_or_pos j with hz | hz
    · have hp1 : p = 1 := by rw [hp, hz]; rfl
      have hneg : (j : Int) - 1 < 0 := by omega
      have HP := Lib.hid hp1
      clear hp hp1 hz
      go_wp2
      go_ret
      refine ⟨⟨y, rfl, y0, HY2.out, ?_⟩, rfl⟩
      have := HY3.out
      rw [HP.out] at this
      exact this
    · obtain ⟨m, rfl⟩ : ∃ m, j = m + 1 := ⟨j - 1, by omega⟩
      have ej : (((m + 1 : Nat) : Int) - 1) = m := by omega
      rw [ej]
      have hq : p = 2 ^ m + 2 ^ m := by rw [hp, Int.pow_succ]; omega
      obtain ⟨b0, b1⟩ := pow2_bd m 30 (by omega)
      have c30 : (2 : Int) ^ 30 = 1073741824 := by decide
      rw [c30] at b1
      have x0 : 0 ≤ y + 2 ^ m := by omega
      have x1 : y + 2 ^ m ≤ 2147483648 := by omega
      obtain ⟨z0, z1⟩ := mul_bd (y + 2 ^ m) (y + 2 ^ m) 2147483648 2147483648 (by omega) (by omega) (by omega) x1 (by omega) x1
      have z2 : 0 ≤ (y + 2 ^ m) * (y + 2 ^ m) := Int.mul_nonneg x0 x0
      have z3 : (y + 2 ^ m) * (y + 2 ^ m) ≤ 4611686018427387904 := by omega
      have hyp : y + p = y + 2 ^ m + 2 ^ m := by omega
      have HQ := Lib.hid hyp
      have hbd : y + 2 ^ m + 2 ^ m ≤ 2147483648 := by omega
      clear ej hp hq c30 z0 z1 hz hyp
      by_cases hx : (y + 2 ^ m) * (y + 2 ^ m) ≤ n
      · go_wp2
        go_round
        case rel => exact ⟨m, y + 2 ^ m, 2 ^ m, by omega, rfl, rfl, rfl, x0, hbd, hx, by rw [← HQ.out]; exact HY3.out⟩
        case measure => simp [intOf] <;> omega
      · go_wp2
        go_round
        case rel => exact ⟨m, y, 2 ^ m, by omega, rfl, rfl, rfl, y0, x1, HY2.out, by omega⟩
        case measure => simp [intOf] <;> omega
/-- What the root's start needs of the length in bits. -/
def Bits (n : Int) (L M : Nat) : Prop := ((L : Int) + 1).tdiv 2 = M ∧ M ≤ 31 ∧ L ≤ 64 ∧ n < 2 ^ M * 2 ^ M
theorem bitLenAux_lt : ∀ (f x : Nat), x < 2 ^ f → x < 2 ^ Lib.bitLenAux f x
  | 0, x, h => by simpa [Lib.bitLenAux] using h
  | f + 1, x, h => by
    simp only [Lib.bitLenAux]
    split
    · rename_i h0; subst h0; decide
    · have h1 := bitLenAux_lt f (x / 2) (by rw [Nat.pow_succ] at h; omega)
      rw [Nat.pow_add]
      omega
theorem bits_of (n : Int) (h0 : 0 ≤ n) (h1 : n ≤ 1152921504606846976) : ∃ L M : Nat, Lib.bitLen n.toNat = L ∧ Bits n L M := by
  have c61 : (2 : Nat) ^ 61 = 2305843009213693952 := by decide
  have c64 : (2 : Nat) ^ 64 = 18446744073709551616 := by decide
  have hl := Lib.bitLen_le n.toNat 61 (by omega) (by omega)
  have hb : n.toNat < 2 ^ Lib.bitLen n.toNat := bitLenAux_lt 64 n.toNat (by omega)
  obtain ⟨L, hL⟩ : ∃ L, Lib.bitLen n.toNat = L := ⟨_, rfl⟩
  rw [hL] at hl hb
  refine ⟨L, (L + 1) / 2, hL, ?_, by omega, by omega, ?_⟩
  · rw [Int.tdiv_eq_ediv_of_nonneg (by omega)]; omega
  · have h2 : 2 ^ L ≤ 2 ^ ((L + 1) / 2) * 2 ^ ((L + 1) / 2) := by
      rw [← Nat.pow_add]
      exact Nat.pow_le_pow_right (by decide) (by omega)
    have h3 : n.toNat < 2 ^ ((L + 1) / 2) * 2 ^ ((L + 1) / 2) := Nat.lt_of_lt_of_le hb h2
    have h4 : ((n.toNat : Nat) : Int) < ((2 ^ ((L + 1) / 2) * 2 ^ ((L + 1) / 2) : Nat) : Int) := Int.ofNat_lt.2 h3
    rw [Int.toNat_of_nonneg h0] at h4
    simpa using h4
theorem bitLength_ok (n : Int) (h0 : 0 ≤ n) (h1 : n ≤ 1152921504606846976) (w : World) :
    Calls Try.prog 29 #[.int .i64 n] w fun e w' => (∃ L M : Nat, e = .returned (.int .i64 (L : Int)) ∧ Bits n L M) ∧ w = w' := by
  obtain ⟨L, M, hL, hB⟩ := bits_of n h0 h1
  have HL := Lib.hid hL
  have HB := Lib.hid hB
  clear hL hB
  go_enter Try.func29, Try.ntmps29
  go_wp2_with (go_at_call 43; refine (len64 n _ h0 (by omega)).mono ?_; rintro e w' ⟨rfl, rfl⟩; rw [HL.out])
  go_ret
  exact ⟨⟨L, M, rfl, HB.out⟩, rfl⟩
/-- One step of the root's search from above stays above. -/
theorem newton (n y q s : Int) (y0 : 1 ≤ y) (q0 : 0 ≤ q) (hq : n < y * (q + 1)) (h1 : y + q ≤ 2 * s + 1) : n < (s + 1) * (s + 1) := by
  have h2 : 4 * (y * (q + 1)) ≤ (y + (q + 1)) * (y + (q + 1)) := by
    have e : (y + (q + 1)) * (y + (q + 1)) = 4 * (y * (q + 1)) + (y - (q + 1)) * (y - (q + 1)) := by grind
    have h : 0 ≤ (y - (q + 1)) * (y - (q + 1)) := by
      rcases Int.le_total 0 (y - (q + 1)) with h | h
      · exact Int.mul_nonneg h h
      · exact Int.mul_nonneg_of_nonpos_of_nonpos h h
    omega
  have h3 := sq_le (y + (q + 1)) (2 * (s + 1)) (by omega) (by omega)
  have e2 : 2 * (s + 1) * (2 * (s + 1)) = 4 * ((s + 1) * (s + 1)) := by grind
  omega
theorem sqrtFloor_ok (n : Int) (h0 : 0 ≤ n) (h1 : n ≤ 1152921504606846976) (w : World) :
    Calls Try.prog 30 #[.int .i64 n] w fun e w' => (∃ r, e = .returned (.int .i64 r) ∧ IsRoot n r) ∧ w = w' := by
  by_cases hn : n = 0
  · subst hn
    go_enter Try.func30, Try.ntmps30
    go_wp2
    go_ret
    exact ⟨⟨0, rfl, by unfold IsRoot; decide⟩, rfl⟩
  · have hq0 : (n == 0) = false := by simpa using hn
    have c31 : (2 : Int) ^ 31 = 2147483648 := by decide
    go_enter Try.func30, Try.ntmps30
    go_wp2_with (go_at_call 29; refine (bitLength_ok n h0 h1 _).mono ?_; rintro e w' ⟨⟨L, M, rfl, d1, d2, d3, d4⟩, rfl⟩; obtain ⟨p0, p1⟩ := pow2_bd M 31 d2; rw [c31] at p1; have D4 := Lib.hid d4; clear d4)
    go_loop [3] (fun r => ∃ y, r = .int .i64 y ∧ 1 ≤ y ∧ y ≤ 2147483648 ∧ n < (y + 1) * (y + 1)) (fun r => (intOf r).toNat)
    case atStart =>
      refine ⟨2 ^ M, rfl, p0, p1, Int.lt_of_lt_of_le D4.out (sq_le _ _ (by omega) (by omega))⟩
    case round =>
      obtain ⟨y, rfl, y0, y1, hy⟩ := hrel
      have HY := Lib.hid hy
      clear hy
      have hne : ¬ y = 0 := by omega
      have e := Int.mul_tdiv_add_tmod n y
      have m0 := Int.tmod_nonneg y h0
      have m1 := Int.tmod_lt_of_pos n (b := y) (by omega)
      have q0 : 0 ≤ n.tdiv y := Int.tdiv_nonneg h0 (by omega)
      obtain ⟨q, hq⟩ : ∃ q, n.tdiv y = q := ⟨_, rfl⟩
      rw [hq] at e q0
      have hq1 : n < y * (q + 1) := by rw [Int.mul_add, Int.mul_one]; omega
      have hq2 : y * q ≤ n := by omega
      have hq3 : q ≤ n := by
        have := Int.mul_le_mul_of_nonneg_right (a := 1) (b := y) (c := q) y0 q0
        omega
      obtain ⟨s, hs⟩ : ∃ s, (y + q).tdiv 2 = s := ⟨_, rfl⟩
      have hs2 : s = (y + q) / 2 := by rw [← hs]; exact Int.tdiv_eq_ediv_of_nonneg (by omega)
      have s0 : 2 * s ≤ y + q := by omega
      have s1 : y + q ≤ 2 * s + 1 := by omega
      have HN := Lib.hid (newton n y q s y0 q0 hq1 s1)
      have hs1 : 1 ≤ s := by
        rcases Int.lt_or_le 1 y with h | h
        · omega
        · have h1 : y = 1 := by omega
          rw [h1] at hq1
          omega
      have HQ := Lib.hid hq2
      clear e m0 m1 hs2 hq1 hq2
      by_cases hys : y ≤ s
      · go_wp2
        go_ret
        refine ⟨⟨y, rfl, by omega, ?_, HY.out⟩, rfl⟩
        have h3 : y * y ≤ y * q := Int.mul_le_mul_of_nonneg_left (by omega) (by omega)
        have := HQ.out
        omega
      · go_wp2
        go_round
        case rel => exact ⟨s, rfl, by omega, by omega, HN.out⟩
        case measure => simp [intOf] <;> omega
def IsLen (X Y r : Int) : Prop := (vecB 536870912 X Y = true ∧ IsRoot (X * X + Y * Y) r) ∨ (vecB 536870912 X Y = false ∧ r = -1)
theorem IsLen.one {X Y r s : Int} (h : IsLen X Y r) (k : IsLen X Y s) : r = s := by
  rcases h with ⟨h1, h2⟩ | ⟨h1, h2⟩ <;> rcases k with ⟨k1, k2⟩ | ⟨k1, k2⟩
  · exact h2.one k2
  · rw [h1] at k1; cases k1
  · rw [h1] at k1; cases k1
  · rw [h2, k2]
theorem sq_bd (X m : Int) (hm : 0 ≤ m) (h0 : -m ≤ X) (h1 : X ≤ m) : 0 ≤ X * X ∧ X * X ≤ m * m := by
  refine ⟨?_, (mul_bd X X m m hm hm h0 h1 h0 h1).2⟩
  rcases Int.le_total 0 X with h | h
  · exact Int.mul_nonneg h h
  · exact Int.mul_nonneg_of_nonpos_of_nonpos h h
theorem implLengthOf_any (X Y : Int) (w : World) : Calls Try.prog 12 #[.agg #[.int .i64 X, .int .i64 Y]] w fun e w' => (∃ r, e = .returned (.int .i64 r) ∧ IsLen X Y r) ∧ Below w.heap.size w w' := by
  cases hv : vecB 536870912 X Y
  · have HV := Lib.hid hv
    go_enter Try.func12, Try.ntmps12
    go_wp2_with (go_at_call 23; refine (vwithin_any _ _ _ (by omega) (by omega) _).mono ?_; rintro e w1 ⟨rfl, hb⟩; (first | (have hq := bcomp hc hf hz hb; clear hc hf hz; obtain ⟨hc, hf, hz⟩ := hq) | (obtain ⟨hc, hf⟩ := bcell hb; have hz := bsize hb)))
    go_ret
    exact ⟨⟨-1, rfl, .inr ⟨HV.out, rfl⟩⟩, (by repeat (first | exact bw_refl _ | assumption | apply bw_alloc | apply bw_drew | apply bw_drewN | (refine bw_trans ?_ (by assumption)) | (refine bw_set ?_ (by simp only [go_sem]; omega) _)))⟩
  · obtain ⟨⟨x0, x1⟩, y0, y1⟩ := vecB_spec _ _ _ hv
    have HV := Lib.hid hv
    obtain ⟨p0, p1'⟩ := sq_bd X 536870912 (by omega) x0 x1
    obtain ⟨q0, q1'⟩ := sq_bd Y 536870912 (by omega) y0 y1
    have p1 : X * X ≤ 288230376151711744 := by omega
    have q1 : Y * Y ≤ 288230376151711744 := by omega
    clear p1' q1'
    go_enter Try.func12, Try.ntmps12
    go_wp2_with (first
      | (go_at_call 23; refine (vwithin_any _ _ _ (by omega) (by omega) _).mono ?_; rintro e w1 ⟨rfl, hb⟩; (first | (have hq := bcomp hc hf hz hb; clear hc hf hz; obtain ⟨hc, hf, hz⟩ := hq) | (obtain ⟨hc, hf⟩ := bcell hb; have hz := bsize hb)))
      | (go_at_call 30; refine (sqrtFloor_ok (X * X + Y * Y) (by omega) (by omega) _).mono ?_; rintro e w' ⟨⟨r, rfl, hr⟩, rfl⟩; have HR := Lib.hid hr; clear hr))
    go_ret
    exact ⟨⟨r, rfl, .inl ⟨HV.out, HR.out⟩⟩, (by repeat (first | exact bw_refl _ | assumption | apply bw_alloc | apply bw_drew | apply bw_drewN | (refine bw_trans ?_ (by assumption)) | (refine bw_set ?_ (by simp only [go_sem]; omega) _)))⟩
end Go.Proofs.Ytndpmcegealhiaa
