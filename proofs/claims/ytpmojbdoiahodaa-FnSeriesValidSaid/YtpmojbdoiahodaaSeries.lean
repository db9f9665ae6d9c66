/- Contracts of SeriesValid, of the program's and the reference's, and the walk of its exact law; no condition. -/
import Derived.Test.YtpmojbdoiahodaaLists2
namespace Go.Proofs.Ytpmojbdoiahodaa
open Go.RowKit
set_option linter.unusedVariables false

def seriesB (xs : List Int) : Bool := decide (xs.length ≤ 60) && allIn 1000000 xs
theorem specSeriesValid_any (A : Option Addr) (n c : Nat) (xs : List Int) (w : World) (hn : xs.length = n) (h : Ints w w.heap.size A xs) (hlen : n ≤ 4294967296) :
    Calls Try.prog 14 #[.slice A n c] w fun e w' => e = .returned (.bool (seriesB xs)) ∧ w = w' := by
  subst hn
  go_enter Try.func14, Try.ntmps14
  go_wp2
  go_loop [3] (fun i => ∃ k : Nat, k ≤ xs.length ∧ i = .int .i64 k ∧ (∀ j, j < k → inB (xs.getD j 0) (-1000000) 1000000 = true)) (fun i => xs.length - (intOf i).toNat)
  case atStart => exact ⟨0, Nat.zero_le _, rfl, fun j hj => by omega⟩
  case round =>
    obtain ⟨k, hk, rfl, he⟩ := hrel
    have HE := Lib.hid he
    clear he
    by_cases hlt : k < xs.length
    · obtain ⟨b, off, rfl, hbl, hc⟩ := h (by omega)
      have hc1 := hc k hlt
      clear hc
      obtain ⟨x, hx⟩ : ∃ x, xs.getD k 0 = x := ⟨_, rfl⟩
      rw [hx] at hc1
      have HX := Lib.hid hx
      clear hx
      rcases inB_cases x (-1000000) 1000000 with ⟨hi, x0, x1⟩ | ⟨hi, -⟩
      · go_wp2_with (go_at_call 36; refine (l1In_any _ _ _ _).mono ?_; rintro e w' ⟨rfl, rfl⟩)
        go_round
        case rel =>
          refine ⟨k + 1, by omega, by go_num, fun j hj => ?_⟩
          by_cases hjk : j = k
          · subst hjk; rw [HX.out]; exact hi
          · exact HE.out j (by omega)
        case measure => simp [intOf]; omega
      · have E1 := Lib.hid (allIn_no 1000000 xs k hlt (by rw [HX.out]; exact hi))
        go_wp2_with (go_at_call 36; refine (l1In_any _ _ _ _).mono ?_; rintro e w' ⟨rfl, rfl⟩)
        go_ret
        exact ⟨ret_bool (by rw [seriesB, E1.out, Bool.and_false]), rfl⟩
    · have E1 := Lib.hid ((allIn_iff 1000000 xs).2 fun j hj => HE.out j (by omega))
      go_wp2
      go_ret
      exact ⟨ret_bool (by rw [seriesB, E1.out, Bool.and_true]; simp; omega), rfl⟩
theorem implSeriesValid_any (A : Option Addr) (n c : Nat) (xs : List Int) (w : World) (hn : xs.length = n) (h : Ints w w.heap.size A xs) (hlen : n ≤ 4294967296) :
    Calls Try.prog 16 #[.slice A n c] w fun e w' => e = .returned (.bool (seriesB xs)) ∧ w = w' := by
  subst hn
  by_cases hbig : 60 < xs.length
  · have E1 : Hid (seriesB xs = false) := by have : ¬ xs.length ≤ 60 := by omega
                                             simp [Hid, seriesB, this]
    go_enter Try.func16, Try.ntmps16
    go_wp2
    go_ret
    exact ⟨ret_bool E1.out.symm, rfl⟩
  go_enter Try.func16, Try.ntmps16
  go_wp2
  go_loop [10] (fun i => ∃ k : Nat, k ≤ xs.length ∧ i = .int .i64 k ∧ (∀ j, j < k → inB (xs.getD j 0) (-1000000) 1000000 = true)) (fun i => xs.length - (intOf i).toNat)
  case atStart => exact ⟨0, Nat.zero_le _, rfl, fun j hj => by omega⟩
  case round =>
    obtain ⟨k, hk, rfl, he⟩ := hrel
    have HE := Lib.hid he
    clear he
    by_cases hlt : k < xs.length
    · obtain ⟨b, off, rfl, hbl, hc⟩ := h (by omega)
      have hc1 := hc k hlt
      clear hc
      obtain ⟨x, hx⟩ : ∃ x, xs.getD k 0 = x := ⟨_, rfl⟩
      rw [hx] at hc1
      have HX := Lib.hid hx
      clear hx
      rcases inB_cases x (-1000000) 1000000 with ⟨hi, x0, x1⟩ | ⟨hi, -⟩
      · go_wp2_with (go_at_call 37; refine (within_any _ _ (by omega) (by omega) _).mono ?_; rintro e w' ⟨rfl, rfl⟩)
        go_round
        case rel =>
          refine ⟨k + 1, by omega, by go_num, fun j hj => ?_⟩
          by_cases hjk : j = k
          · subst hjk; rw [HX.out]; exact hi
          · exact HE.out j (by omega)
        case measure => simp [intOf]; omega
      · have E1 := Lib.hid (allIn_no 1000000 xs k hlt (by rw [HX.out]; exact hi))
        go_wp2_with (go_at_call 37; refine (within_any _ _ (by omega) (by omega) _).mono ?_; rintro e w' ⟨rfl, rfl⟩)
        go_ret
        exact ⟨ret_bool (by rw [seriesB, E1.out, Bool.and_false]), rfl⟩
    · have E1 := Lib.hid ((allIn_iff 1000000 xs).2 fun j hj => HE.out j (by omega))
      have E2 : Hid (decide (xs.length ≤ 60) = true) := by simp [Hid]; omega
      go_wp2
      go_ret
      exact ⟨ret_bool (by rw [seriesB, E1.out, E2.out]; rfl), rfl⟩
theorem walk_FnExactSeriesValid (A : Option Addr) (n c : Nat) (xs : List Int) (w : World) (h : Ints w w.heap.size A xs) (hn : xs.length = n) (_ : n ≤ c) (_ : c ≤ maxLen) :
    Calls Try.prog 3 #[.slice A n c] w fun e w' => e = .returned (.bool true) ∧ Below w.heap.size w w' := by
  subst hn
  by_cases hbig : 1048576 < xs.length
  · go_enter Try.func3, Try.ntmps3
    go_wp2
    go_ret
    exact ⟨rfl, (by repeat (first | exact bw_refl _ | assumption | apply bw_alloc | apply bw_drew | apply bw_drewN | (refine bw_trans ?_ (by assumption)) | (refine bw_set ?_ (by simp only [go_sem]; omega) _)))⟩
  · have hsame := eqIs_same xs
    go_enter Try.func3, Try.ntmps3
    go_wp2_with fail
    refine (toIntS_any A _ _ xs _ rfl h (by omega)).mono ?_
    rintro e w1 ⟨rfl, r1, b1⟩
    go_wp2_with fail
    refine (specSeriesValid_any _ _ _ xs _ rfl r1.is (by omega)).mono ?_
    rintro e w2 ⟨rfl, rfl⟩
    go_wp2_with fail
    refine (toIntS_any A _ _ xs _ rfl (h.up (by repeat (first | exact bw_refl _ | assumption | apply bw_alloc | apply bw_drew | apply bw_drewN | (refine bw_trans ?_ (by assumption)) | (refine bw_set ?_ (by simp only [go_sem]; omega) _)))) (by omega)).mono ?_
    rintro e w3 ⟨rfl, r3, b3⟩
    go_wp2_with fail
    refine (implSeriesValid_any _ _ _ xs _ rfl r3.is (by omega)).mono ?_
    rintro e w4 ⟨rfl, rfl⟩
    go_wp2_with fail
    refine (toIntS_any A _ _ xs _ rfl (h.up (by repeat (first | exact bw_refl _ | assumption | apply bw_alloc | apply bw_drew | apply bw_drewN | (refine bw_trans ?_ (by assumption)) | (refine bw_set ?_ (by simp only [go_sem]; omega) _)))) (by omega)).mono ?_
    rintro e w5 ⟨rfl, r5, b5⟩
    go_wp2_with fail
    refine (eqIntS_any _ _ _ _ _ _ xs xs _ rfl rfl (r3.up b5).is r5.is (by omega) (by omega)).mono ?_
    rintro e w6 ⟨rfl, b6⟩
    go_wp2
    go_ret
    exact ⟨rfl, (by repeat (first | exact bw_refl _ | assumption | apply bw_alloc | apply bw_drew | apply bw_drewN | (refine bw_trans ?_ (by assumption)) | (refine bw_set ?_ (by simp only [go_sem]; omega) _)))⟩
end Go.Proofs.Ytpmojbdoiahodaa
