/- KnotsRise, both sides; condition: lengths of at most 2^32. -/
import Derived.Test.YtiimaodphhaohaaKn6
namespace Go.Proofs.Ytiimaodphhaohaa
open Go.RowKit
set_option linter.unusedVariables false
set_option linter.unusedSimpArgs false
set_option maxHeartbeats 1000000

def rOk (xs : List Int) (k : Nat) : Bool := k == 0 || decide (kVal xs (k - 1) < kVal xs k)
def riseB (xs : List Int) (n : Nat) : Bool := (List.range n).all (rOk xs) && knotsB xs n
theorem riseB_no (xs : List Int) (n k : Nat) (hk : k < n) (h : rOk xs k = false) : riseB xs n = false := by
  have : (List.range n).all (rOk xs) = false := by
    rw [List.all_eq_false]
    exact ⟨k, List.mem_range.2 hk, by rw [h]; decide⟩
  unfold riseB; rw [this, Bool.false_and]
theorem riseB_all (xs : List Int) (n : Nat) (h : ∀ k, k < n → rOk xs k = true) : riseB xs n = knotsB xs n := by
  have : (List.range n).all (rOk xs) = true := List.all_eq_true.2 fun k hk => h k (List.mem_range.1 hk)
  unfold riseB; rw [this, Bool.true_and]
theorem specKnotsRise_any (A : Option Addr) (n c : Nat) (xs : List Int) (w : World) (hn : xs.length = n * 2) (h : Ints w w.heap.size A xs) (hlen : n ≤ 4294967296) :
    Calls Try.prog 18 #[.slice A n c] w fun e w' => e = .returned (.bool (riseB xs n)) ∧ Below w.heap.size w w' := by
  have HN := Lib.hid hn
  clear hn
  go_enter Try.func18, Try.ntmps18
  go_wp2
  go_loopw [3] (fun i wr => ∃ m : Nat, (m = 0 ∨ m + 1 ≤ n) ∧ i = .int .i64 ((m : Int) + 1) ∧ (∀ j, j < m + 1 → rOk xs j = true) ∧ Below w.heap.size w wr)
    (fun i _ => n + 1 - (intOf i).toNat)
  case atStart => exact ⟨0, .inl rfl, rfl, fun j hj => by obtain rfl : j = 0 := by omega
                                                          rfl, (by repeat (first | exact bw_refl _ | assumption | apply bw_alloc | apply bw_drew | apply bw_drewN | (refine bw_trans ?_ (by assumption)) | (refine bw_set ?_ (by simp only [go_sem]; omega) _)))⟩
  case round =>
    obtain ⟨m, hk, rfl, he, hb⟩ := hrel
    have HE := Lib.hid he
    clear he
    by_cases hlt : m + 1 < n
    · obtain ⟨b1, f1, rfl, hb1, hc1⟩ := h (by rw [HN.out]; omega)
      have k1 : wr.cell? ⟨b1, f1 + (m + 1) * 2 + 1, none⟩ = _ := (hb.cell (p := ⟨b1, f1 + ((m + 1) * 2 + 1), none⟩) hb1).trans (hc1 ((m + 1) * 2 + 1) (by rw [HN.out]; omega))
      have k2 : wr.cell? ⟨b1, f1 + m * 2 + 1, none⟩ = _ := (hb.cell (p := ⟨b1, f1 + (m * 2 + 1), none⟩) hb1).trans (hc1 (m * 2 + 1) (by rw [HN.out]; omega))
      clear hc1
      have z1 := lt_keep hb hb1
      obtain ⟨x, hx⟩ : ∃ x, xs.getD ((m + 1) * 2 + 1) 0 = x := ⟨_, rfl⟩
      obtain ⟨p, hp⟩ : ∃ x, xs.getD (m * 2 + 1) 0 = x := ⟨_, rfl⟩
      rw [hx] at k1; rw [hp] at k2
      have hr : rOk xs (m + 1) = decide (p < x) := by unfold rOk kVal; rw [Nat.add_sub_cancel, hx, hp]; simp
      have HR := Lib.hid hr
      clear hx hp hr
      have e1 : IntKind.i64.wrap (m : Int) = (m : Int) := IntWalk.i64_in _ (by omega)
      have e2 : ((m : Int) + 1).toNat = m + 1 := by omega
      have e3 : (m : Int).toNat = m := Int.toNat_natCast _
      have e4 : IntKind.i64.wrap ((m : Int) + 1 + 1) = (m : Int) + 1 + 1 := IntWalk.i64_in _ (by omega)
      have i0 : (0 : Int) ≤ (m : Int) + 1 := by omega
      have i1 : (m : Int) + 1 < (n : Int) := by omega
      have i2 : (0 : Int) ≤ (m : Int) := by omega
      have i3 : (m : Int) < (n : Int) := by omega
      by_cases hxp : x ≤ p
      · have hd : decide (x ≤ p) = true := decide_eq_true hxp
        have HNO := Lib.hid (riseB_no xs n (m + 1) hlt (by rw [HR.out]; simp; exact hxp))
        go_wp2
        go_quiet (fail)
        go_wp2
        go_ret
        exact ⟨ret_bool HNO.out.symm, (by repeat (first | exact bw_refl _ | assumption | apply bw_alloc | apply bw_drew | apply bw_drewN | (refine bw_trans ?_ (by assumption)) | (refine bw_set ?_ (by simp only [go_sem]; omega) _)))⟩
      · have hd : decide (x ≤ p) = false := decide_eq_false hxp
        go_wp2
        go_quiet (fail)
        go_wp2
        go_roundw
        case rel =>
          refine ⟨m + 1, .inr (by omega), by first | rfl | go_num, fun j hj => ?_, (by repeat (first | exact bw_refl _ | assumption | apply bw_alloc | apply bw_drew | apply bw_drewN | (refine bw_trans ?_ (by assumption)) | (refine bw_set ?_ (by simp only [go_sem]; omega) _)))⟩
          by_cases hjk : j = m + 1
          · subst hjk; rw [HR.out]; simp; omega
          · exact HE.out j (by omega)
        case measure => simp [intOf]; omega
    · have hge : ¬ (m : Int) + 1 < (n : Int) := by omega
      go_wp2_with fail
      refine (specKnotsValid_any A n c xs _ HN.out (h.up hb) hlen).mono ?_
      rintro e w2 ⟨rfl, b2⟩
      go_wp2
      go_ret
      exact ⟨ret_bool (riseB_all xs n fun j hj => HE.out j (by omega)).symm, (by repeat (first | exact bw_refl _ | assumption | apply bw_alloc | apply bw_drew | apply bw_drewN | (refine bw_trans ?_ (by assumption)) | (refine bw_set ?_ (by simp only [go_sem]; omega) _)))⟩
end Go.Proofs.Ytiimaodphhaohaa
