/- Contracts of the helpers of the laws of series: sameInts, inside; no condition. -/
import Derived.Test.YtpmojbdoiahodaaLDraw
namespace Go.Proofs.Ytpmojbdoiahodaa
open Go.RowKit
set_option linter.unusedVariables false
set_option maxHeartbeats 1000000

theorem sameInts_any (A C : Option Addr) (n m c d : Nat) (xs ys : List Int) (w : World) (hn : xs.length = n) (hm : ys.length = m) (h : Ints w w.heap.size A xs) (h' : Ints w w.heap.size C ys) (hlen : n ≤ 4294967296) (hlen' : m ≤ 4294967296) :
    Calls Try.prog 31 #[.slice A n c, .slice C m d] w fun e w' => e = .returned (.bool (eqIs xs ys)) ∧ Below w.heap.size w w' := by
  subst hn hm
  by_cases hl : xs.length = ys.length
  · have hl1 : ((xs.length : Int) != (ys.length : Int)) = false := by simp [hl]
    have HL := Lib.hid hl
    clear hl
    go_enter Try.func31, Try.ntmps31
    go_wp2
    go_loopw [5] (fun i wr => ∃ k : Nat, k ≤ xs.length ∧ i = .int .i64 k ∧ (∀ j, j < k → xs.getD j 0 = ys.getD j 0) ∧ Below w.heap.size w wr)
      (fun i _ => xs.length - (intOf i).toNat)
    case atStart => exact ⟨0, Nat.zero_le _, rfl, fun j hj => by omega, (by repeat (first | exact bw_refl _ | assumption | apply bw_alloc | apply bw_drew | apply bw_drewN | (refine bw_trans ?_ (by assumption)) | (refine bw_set ?_ (by simp only [go_sem]; omega) _)))⟩
    case round =>
      obtain ⟨k, hk, rfl, he, hb⟩ := hrel
      have HE := Lib.hid he
      clear he
      by_cases hlt : k < xs.length
      · have hlt' : k < ys.length := by have := HL.out; omega
        obtain ⟨b, off, rfl, hbl, hc⟩ := h (by omega)
        obtain ⟨b', off', rfl, hbl', hc'⟩ := h' (by omega)
        have hc1 : wr.cell? ⟨b, off + k, none⟩ = some (.int .i64 (xs.getD k 0)) := (hb.cell (p := ⟨b, off + k, none⟩) hbl).trans (hc k hlt)
        have hc2 : wr.cell? ⟨b', off' + k, none⟩ = some (.int .i64 (ys.getD k 0)) := (hb.cell (p := ⟨b', off' + k, none⟩) hbl').trans (hc' k hlt')
        clear hc hc'
        by_cases hq : xs.getD k 0 = ys.getD k 0
        · have hq1 : (xs.getD k 0 != ys.getD k 0) = false := bne_eq_false_iff_eq.2 hq
          have HQ := Lib.hid hq
          clear hq
          obtain ⟨x, hx⟩ : ∃ x, xs.getD k 0 = x := ⟨_, rfl⟩
          obtain ⟨y, hy⟩ : ∃ y, ys.getD k 0 = y := ⟨_, rfl⟩
          rw [hx] at hc1
          rw [hy] at hc2
          rw [hx, hy] at hq1
          have HX := Lib.hid hx
          have HY := Lib.hid hy
          clear hx hy
          go_wp2
          go_quiet (fail)
          go_wp2
          go_roundw
          case rel =>
            refine ⟨k + 1, by omega, by go_num, fun j hj => ?_, (by repeat (first | exact bw_refl _ | assumption | apply bw_alloc | apply bw_drew | apply bw_drewN | (refine bw_trans ?_ (by assumption)) | (refine bw_set ?_ (by simp only [go_sem]; omega) _)))⟩
            by_cases hjk : j = k
            · subst hjk; exact HQ.out
            · exact HE.out j (by omega)
          case measure => simp [intOf]; omega
        · have hq1 : (xs.getD k 0 != ys.getD k 0) = true := bne_iff_ne.2 hq
          have HF := Lib.hid (eqIs_at k hq)
          clear hq
          obtain ⟨x, hx⟩ : ∃ x, xs.getD k 0 = x := ⟨_, rfl⟩
          obtain ⟨y, hy⟩ : ∃ y, ys.getD k 0 = y := ⟨_, rfl⟩
          rw [hx] at hc1
          rw [hy] at hc2
          rw [hx, hy] at hq1
          have HX := Lib.hid hx
          have HY := Lib.hid hy
          clear hx hy
          go_wp2
          go_quiet (fail)
          go_wp2
          go_ret
          exact ⟨ret_bool HF.out.symm, (by repeat (first | exact bw_refl _ | assumption | apply bw_alloc | apply bw_drew | apply bw_drewN | (refine bw_trans ?_ (by assumption)) | (refine bw_set ?_ (by simp only [go_sem]; omega) _)))⟩
      · have hkk : k = xs.length := by omega
        go_wp2
        go_ret
        exact ⟨ret_bool (eqIs_all HL.out (fun j hj => HE.out j (by omega))).symm, hb⟩
  · have hl1 : ((xs.length : Int) != (ys.length : Int)) = true := by simp; omega
    have HF := Lib.hid (eqIs_len hl)
    clear hl
    go_enter Try.func31, Try.ntmps31
    go_wp2
    go_ret
    exact ⟨ret_bool HF.out.symm, (by repeat (first | exact bw_refl _ | assumption | apply bw_alloc | apply bw_drew | apply bw_drewN | (refine bw_trans ?_ (by assumption)) | (refine bw_set ?_ (by simp only [go_sem]; omega) _)))⟩
def LowH (x : Int) (ys : List Int) (a : Int) (q : Nat) : Prop := a ≤ x ∧ (∀ j, j < q → a ≤ ys.getD j 0) ∧ (a = x ∨ ∃ j, j < q ∧ ys.getD j 0 = a)
def HighH (x : Int) (ys : List Int) (a : Int) (q : Nat) : Prop := x ≤ a ∧ (∀ j, j < q → ys.getD j 0 ≤ a) ∧ (a = x ∨ ∃ j, j < q ∧ ys.getD j 0 = a)
def NotYet (ys : List Int) (a : Int) (b : Bool) (q : Nat) : Prop := b = true ∨ ∀ j, j < q → ys.getD j 0 ≠ a
theorem LowH.zero (x : Int) (ys : List Int) : LowH x ys x 0 := ⟨Int.le_refl _, fun _ h => absurd h (Nat.not_lt_zero _), .inl rfl⟩
theorem HighH.zero (x : Int) (ys : List Int) : HighH x ys x 0 := ⟨Int.le_refl _, fun _ h => absurd h (Nat.not_lt_zero _), .inl rfl⟩
theorem LowH.step {x : Int} {ys : List Int} {a y : Int} {q : Nat} (h : LowH x ys a q) (hy : ys.getD q 0 = y) : LowH x ys (min a y) (q + 1) := by
  obtain ⟨h1, h2, h3⟩ := h
  refine ⟨by omega, fun j hj => ?_, ?_⟩
  · by_cases e : j = q
    · subst e; omega
    · have := h2 j (by omega); omega
  · rcases Int.le_total a y with hl | hl
    · have e : min a y = a := by omega
      rw [e]
      rcases h3 with h3 | ⟨j, hj, h3⟩
      · exact .inl h3
      · exact .inr ⟨j, by omega, h3⟩
    · exact .inr ⟨q, by omega, by omega⟩
theorem HighH.step {x : Int} {ys : List Int} {a y : Int} {q : Nat} (h : HighH x ys a q) (hy : ys.getD q 0 = y) : HighH x ys (max a y) (q + 1) := by
  obtain ⟨h1, h2, h3⟩ := h
  refine ⟨by omega, fun j hj => ?_, ?_⟩
  · by_cases e : j = q
    · subst e; omega
    · have := h2 j (by omega); omega
  · rcases Int.le_total y a with hl | hl
    · have e : max a y = a := by omega
      rw [e]
      rcases h3 with h3 | ⟨j, hj, h3⟩
      · exact .inl h3
      · exact .inr ⟨j, by omega, h3⟩
    · exact .inr ⟨q, by omega, by omega⟩
theorem LowH.found {x : Int} {ys : List Int} {a : Int} {q : Nat} {b : Bool} (h : LowH x ys a q) (hx : ∃ i, i < q ∧ ys.getD i 0 ≤ x) (hn : NotYet ys a b q) : b = true := by
  rcases hn with hn | hn
  · exact hn
  · obtain ⟨i, hi, hx⟩ := hx
    rcases h.2.2 with e | ⟨j, hj, e⟩
    · have := h.2.1 i hi
      exact absurd (by omega) (hn i hi)
    · exact absurd e (hn j hj)
theorem HighH.found {x : Int} {ys : List Int} {a : Int} {q : Nat} {b : Bool} (h : HighH x ys a q) (hx : ∃ i, i < q ∧ x ≤ ys.getD i 0) (hn : NotYet ys a b q) : b = true := by
  rcases hn with hn | hn
  · exact hn
  · obtain ⟨i, hi, hx⟩ := hx
    rcases h.2.2 with e | ⟨j, hj, e⟩
    · have := h.2.1 i hi
      exact absurd (by omega) (hn i hi)
    · exact absurd e (hn j hj)
theorem NotYet.step {ys : List Int} {a y : Int} {b : Bool} {q : Nat} (h : NotYet ys a b q) (hy : ys.getD q 0 = y) : NotYet ys a (b || (y == a)) (q + 1) := by
  rcases h with h | h
  · left; rw [h]; rfl
  · by_cases e : y = a
    · left; simp [e]
    · right
      intro j hj
      by_cases ej : j = q
      · subst ej; rw [hy]; exact e
      · exact h j (by omega)
/-- Every number of xs is between two of ys. -/
def Within (xs ys : List Int) : Prop := ∀ k, k < xs.length → (∃ i, i < ys.length ∧ ys.getD i 0 ≤ xs.getD k 0) ∧ ∃ i, i < ys.length ∧ xs.getD k 0 ≤ ys.getD i 0
set_option maxRecDepth 100000 in
theorem inside_any (A C : Option Addr) (n m c d : Nat) (xs ys : List Int) (w : World) (hn : xs.length = n) (hm : ys.length = m) (h : Ints w w.heap.size A xs) (h' : Ints w w.heap.size C ys) (hlen : n ≤ 4294967296) (hlen' : m ≤ 4294967296) (hin : Within xs ys) :
    Calls Try.prog 33 #[.slice A n c, .slice C m d] w fun e w' => e = .returned (.bool true) ∧ w = w' := by
  subst hn hm
  have HI := Lib.hid hin
  clear hin
  go_enter Try.func33, Try.ntmps33
  go_wp2
  go_loop [5] (fun i => ∃ k : Nat, k ≤ xs.length ∧ i = .int .i64 k) (fun i => xs.length - (intOf i).toNat)
  case atStart => exact ⟨0, Nat.zero_le _, rfl⟩
  case round =>
    obtain ⟨k, hk, rfl⟩ := hrel
    by_cases hlt : k < xs.length
    · obtain ⟨b, off, rfl, hbl, hc⟩ := h (by omega)
      have hpos : 0 < ys.length := by obtain ⟨⟨i, hi, _⟩, _⟩ := HI.out k hlt; omega
      obtain ⟨b', off', rfl, hbl', hc'⟩ := h' hpos
      have HC := Lib.hid hc'
      have hc1 := hc k hlt
      clear hc hc'
      obtain ⟨x, hx⟩ : ∃ x, xs.getD k 0 = x := ⟨_, rfl⟩
      rw [hx] at hc1
      have HX := Lib.hid hx
      clear hx
      go_wp2
      go_loop [6, 7, 8] (fun lo hi j => ∃ (a z : Int) (q : Nat), lo = .int .i64 a ∧ hi = .int .i64 z ∧ j = .int .i64 q ∧ q ≤ ys.length ∧ LowH x ys a q ∧ HighH x ys z q) (fun _ _ j => ys.length - (intOf j).toNat)
      case atStart => exact ⟨x, x, 0, rfl, rfl, rfl, Nat.zero_le _, LowH.zero _ _, HighH.zero _ _⟩
      case round =>
        obtain ⟨a, z, q, rfl, rfl, rfl, hq, hlo, hhi⟩ := hrel
        have HL := Lib.hid hlo
        have HH := Lib.hid hhi
        clear hlo hhi
        by_cases hq2 : q < ys.length
        · have hcq := HC.out q hq2
          obtain ⟨y, hy⟩ : ∃ y, ys.getD q 0 = y := ⟨_, rfl⟩
          rw [hy] at hcq
          have HY := Lib.hid hy
          clear hy
          go_wp2
          go_round
          case rel => exact ⟨_, _, q + 1, rfl, rfl, by go_num, by omega, HL.out.step HY.out, HH.out.step HY.out⟩
          case measure => simp [intOf] <;> omega
        · have hqe : q = ys.length := by omega
          subst hqe
          go_wp2
          go_loop [9, 10] (fun f j => ∃ (b : Bool) (q : Nat), f = .bool b ∧ j = .int .i64 q ∧ q ≤ ys.length ∧ NotYet ys a b q) (fun _ j => ys.length - (intOf j).toNat)
          case atStart => exact ⟨false, 0, rfl, rfl, Nat.zero_le _, .inr fun _ h => absurd h (Nat.not_lt_zero _)⟩
          case round =>
            obtain ⟨f, q, rfl, rfl, hq3, hny⟩ := hrel
            have HN := Lib.hid hny
            clear hny
            by_cases hq4 : q < ys.length
            · have hcq := HC.out q hq4
              obtain ⟨y, hy⟩ : ∃ y, ys.getD q 0 = y := ⟨_, rfl⟩
              rw [hy] at hcq
              have HY := Lib.hid hy
              clear hy
              cases f
              all_goals
                go_wp2
                go_round
                case rel => exact ⟨_, q + 1, rfl, by go_num, by omega, by simpa using HN.out.step HY.out⟩
                case measure => simp [intOf] <;> omega
            · have hqe : q = ys.length := by omega
              subst hqe
              have hf : f = true := HL.out.found (by rw [← HX.out]; exact (HI.out k hlt).1) HN.out
              subst hf
              clear HN
              go_wp2
              go_loop [11, 12] (fun f j => ∃ (b : Bool) (q : Nat), f = .bool b ∧ j = .int .i64 q ∧ q ≤ ys.length ∧ NotYet ys z b q) (fun _ j => ys.length - (intOf j).toNat)
              case atStart => exact ⟨false, 0, rfl, rfl, Nat.zero_le _, .inr fun _ h => absurd h (Nat.not_lt_zero _)⟩
              case round =>
                obtain ⟨f, q, rfl, rfl, hq5, hny⟩ := hrel
                have HN := Lib.hid hny
                clear hny
                by_cases hq6 : q < ys.length
                · have hcq := HC.out q hq6
                  obtain ⟨y, hy⟩ : ∃ y, ys.getD q 0 = y := ⟨_, rfl⟩
                  rw [hy] at hcq
                  have HY := Lib.hid hy
                  clear hy
                  cases f
                  all_goals
                    go_wp2
                    go_round
                    case rel => exact ⟨_, q + 1, rfl, by go_num, by omega, by simpa using HN.out.step HY.out⟩
                    case measure => simp [intOf] <;> omega
                · have hqe : q = ys.length := by omega
                  subst hqe
                  have hf : f = true := HH.out.found (by rw [← HX.out]; exact (HI.out k hlt).2) HN.out
                  subst hf
                  clear HN
                  go_wp2
                  go_round
                  case rel => exact ⟨k + 1, by omega, by go_num⟩
                  case measure => simp [intOf] <;> omega
    · go_wp2
      go_ret
      exact ⟨rfl, rfl⟩
end Go.Proofs.Ytpmojbdoiahodaa
