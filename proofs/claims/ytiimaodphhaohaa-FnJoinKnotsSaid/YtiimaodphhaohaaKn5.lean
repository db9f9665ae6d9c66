/- The program's KnotsValid; condition: lengths of at most 2^32. -/
import Derived.Test.YtiimaodphhaohaaKn4
namespace Go.Proofs.Ytiimaodphhaohaa
open Go.RowKit
set_option linter.unusedVariables false
set_option linter.unusedSimpArgs false
set_option maxHeartbeats 1000000

theorem implKnotsValid_any (A : Option Addr) (n c : Nat) (xs : List Int) (w : World) (hn : xs.length = n * 2) (h : Ints w w.heap.size A xs) (hlen : n ≤ 4294967296) :
    Calls Try.prog 16 #[.slice A n c] w fun e w' => e = .returned (.bool (knotsB xs n)) ∧ Below w.heap.size w w' := by
  have HN := Lib.hid hn
  clear hn
  by_cases hbad : n < 2 ∨ 12 < n
  · have HNO : Hid (knotsB xs n = false) := by
      have : inB (n : Int) 2 12 = false := by simp [inB]; omega
      unfold Hid knotsB; rw [this, Bool.false_and]
    by_cases h2 : n < 2
    · have h2' : (n : Int) < 2 := by omega
      clear hbad
      go_enter Try.func16, Try.ntmps16
      go_wp2
      go_ret
      exact ⟨ret_bool HNO.out.symm, (by repeat (first | exact bw_refl _ | assumption | apply bw_alloc | apply bw_drew | apply bw_drewN | (refine bw_trans ?_ (by assumption)) | (refine bw_set ?_ (by simp only [go_sem]; omega) _)))⟩
    · have h3 : ¬ (n : Int) < 2 := by omega
      have h4 : (12 : Int) < (n : Int) := by omega
      clear hbad
      go_enter Try.func16, Try.ntmps16
      go_wp2
      go_ret
      exact ⟨ret_bool HNO.out.symm, (by repeat (first | exact bw_refl _ | assumption | apply bw_alloc | apply bw_drew | apply bw_drewN | (refine bw_trans ?_ (by assumption)) | (refine bw_set ?_ (by simp only [go_sem]; omega) _)))⟩
  · have h3 : ¬ (n : Int) < 2 := by omega
    have h4 : ¬ (12 : Int) < (n : Int) := by omega
    have hin : inB (n : Int) 2 12 = true := by simp [inB]; omega
    have HIN := Lib.hid hin
    clear hbad hin
    go_enter Try.func16, Try.ntmps16
    go_wp2
    go_loopw [15] (fun i wr => ∃ k : Nat, k ≤ n ∧ i = .int .i64 k ∧ (∀ j, j < k → kOk xs j = true) ∧ Below w.heap.size w wr)
      (fun i _ => n - (intOf i).toNat)
    case atStart => exact ⟨0, Nat.zero_le _, rfl, fun j hj => by omega, (by repeat (first | exact bw_refl _ | assumption | apply bw_alloc | apply bw_drew | apply bw_drewN | (refine bw_trans ?_ (by assumption)) | (refine bw_set ?_ (by simp only [go_sem]; omega) _)))⟩
    case round =>
      obtain ⟨k, hk, rfl, he, hb⟩ := hrel
      have HE := Lib.hid he
      clear he
      by_cases hlt : k < n
      · obtain ⟨b1, f1, rfl, hb1, hc1⟩ := h (by rw [HN.out]; omega)
        have CX := fun j (hj : j < xs.length) => (hb.cell (p := ⟨b1, f1 + j, none⟩) hb1).trans (hc1 j hj)
        have HX := Lib.hid CX
        clear hc1 CX
        have k1 := HX.out (k * 2) (by rw [HN.out]; omega)
        have k2 : wr.cell? ⟨b1, f1 + k * 2 + 1, none⟩ = _ := HX.out (k * 2 + 1) (by rw [HN.out]; omega)
        have z1 := lt_keep hb hb1
        have i0 : (0 : Int) ≤ (k : Int) := by omega
        have i1 : (k : Int) < (n : Int) := by omega
        obtain ⟨x, hx⟩ : ∃ x, xs.getD (k * 2) 0 = x := ⟨_, rfl⟩
        obtain ⟨y, hy⟩ : ∃ x, xs.getD (k * 2 + 1) 0 = x := ⟨_, rfl⟩
        rw [hx] at k1; rw [hy] at k2
        have hok : kOk xs k = (inB x (-1000000) 1000000 && inB y (-1000000) 1000000 && (k == 0 || decide (kAt xs (k - 1) < x))) := by unfold kOk kAt kVal; rw [hx, hy]
        have HOK := Lib.hid hok
        clear hx hy hok
        cases ha : inB x (-1000000) 1000000
        · have HNO := Lib.hid (knotsB_no xs n k hlt (by rw [HOK.out, ha]; rfl))
          go_wp2_with (go_at_call 37; (with_reducible refine (within_any x _ (by omega) (by omega) _).mono ?_); rintro e w6 ⟨he, rfl⟩; rw [ha] at he; subst he)
          go_ret
          exact ⟨ret_bool HNO.out.symm, (by repeat (first | exact bw_refl _ | assumption | apply bw_alloc | apply bw_drew | apply bw_drewN | (refine bw_trans ?_ (by assumption)) | (refine bw_set ?_ (by simp only [go_sem]; omega) _)))⟩
        · cases hbb : inB y (-1000000) 1000000
          · have HNO := Lib.hid (knotsB_no xs n k hlt (by rw [HOK.out, ha, hbb]; rfl))
            go_wp2_with (first | (go_at_call 37; (with_reducible refine (within_any x _ (by omega) (by omega) _).mono ?_); rintro e w6 ⟨he, rfl⟩; rw [ha] at he; subst he) | (go_at_call 37; (with_reducible refine (within_any y _ (by omega) (by omega) _).mono ?_); rintro e w6 ⟨he, rfl⟩; rw [hbb] at he; subst he))
            go_ret
            exact ⟨ret_bool HNO.out.symm, (by repeat (first | exact bw_refl _ | assumption | apply bw_alloc | apply bw_drew | apply bw_drewN | (refine bw_trans ?_ (by assumption)) | (refine bw_set ?_ (by simp only [go_sem]; omega) _)))⟩
          · rcases Nat.eq_zero_or_pos k with hz | hz
            · subst hz
              simp only [Nat.zero_mul, Nat.add_zero] at k1 k2
              go_upto_region 8 with (first | (go_at_call 37; (with_reducible refine (within_any x _ (by omega) (by omega) _).mono ?_); rintro e w6 ⟨he, rfl⟩; rw [ha] at he; subst he) | (go_at_call 37; (with_reducible refine (within_any y _ (by omega) (by omega) _).mono ?_); rintro e w6 ⟨he, rfl⟩; rw [hbb] at he; subst he))
              go_quiet (fail)
              go_wp2
              go_roundw
              case rel =>
                refine ⟨1, by omega, by go_num, fun j hj => ?_, (by repeat (first | exact bw_refl _ | assumption | apply bw_alloc | apply bw_drew | apply bw_drewN | (refine bw_trans ?_ (by assumption)) | (refine bw_set ?_ (by simp only [go_sem]; omega) _)))⟩
                by_cases hjk : j = 0
                · subst hjk; rw [HOK.out, ha, hbb]; rfl
                · exact HE.out j (by omega)
              case measure => simp [intOf]; omega
            · obtain ⟨m, rfl⟩ : ∃ m, k = m + 1 := ⟨k - 1, by omega⟩
              have k3 := HX.out (m * 2) (by rw [HN.out]; omega)
              obtain ⟨p, hp⟩ : ∃ x, xs.getD (m * 2) 0 = x := ⟨_, rfl⟩
              rw [hp] at k3
              have hka : kAt xs (m + 1 - 1) = p := by rw [Nat.add_sub_cancel]; exact hp
              have HKA := Lib.hid hka
              clear hp hka
              have ek : ((m + 1 : Nat) : Int) = (m : Int) + 1 := rfl
              rw [ek] at i0 i1 ⊢
              clear ek
              have e1 : IntKind.i64.wrap (m : Int) = (m : Int) := IntWalk.i64_in _ (by omega)
              have e2 : ((m : Int) + 1).toNat = m + 1 := by omega
              have e3 : (m : Int).toNat = m := Int.toNat_natCast _
              have i2 : (0 : Int) ≤ (m : Int) := by omega
              have i3 : (m : Int) < (n : Int) := by omega
              have i4 : decide ((0 : Int) < (m : Int) + 1) = true := decide_eq_true (by omega)
              by_cases hxp : x ≤ p
              · have hd : decide (x ≤ p) = true := decide_eq_true hxp
                have HNO := Lib.hid (knotsB_no xs n (m + 1) hlt (by rw [HOK.out, HKA.out]; simp; intro _ _; exact hxp))
                go_upto_region 8 with (first | (go_at_call 37; (with_reducible refine (within_any x _ (by omega) (by omega) _).mono ?_); rintro e w6 ⟨he, rfl⟩; rw [ha] at he; subst he) | (go_at_call 37; (with_reducible refine (within_any y _ (by omega) (by omega) _).mono ?_); rintro e w6 ⟨he, rfl⟩; rw [hbb] at he; subst he))
                go_quiet (fail)
                go_wp2
                go_ret
                exact ⟨ret_bool HNO.out.symm, (by repeat (first | exact bw_refl _ | assumption | apply bw_alloc | apply bw_drew | apply bw_drewN | (refine bw_trans ?_ (by assumption)) | (refine bw_set ?_ (by simp only [go_sem]; omega) _)))⟩
              · have hd : decide (x ≤ p) = false := decide_eq_false hxp
                go_upto_region 8 with (first | (go_at_call 37; (with_reducible refine (within_any x _ (by omega) (by omega) _).mono ?_); rintro e w6 ⟨he, rfl⟩; rw [ha] at he; subst he) | (go_at_call 37; (with_reducible refine (within_any y _ (by omega) (by omega) _).mono ?_); rintro e w6 ⟨he, rfl⟩; rw [hbb] at he; subst he))
                go_quiet (fail)
                go_wp2
                go_roundw
                case rel =>
                  refine ⟨m + 1 + 1, by omega, by go_num, fun j hj => ?_, (by repeat (first | exact bw_refl _ | assumption | apply bw_alloc | apply bw_drew | apply bw_drewN | (refine bw_trans ?_ (by assumption)) | (refine bw_set ?_ (by simp only [go_sem]; omega) _)))⟩
                  by_cases hjk : j = m + 1
                  · subst hjk; rw [HOK.out, HKA.out, ha, hbb]; simp; omega
                  · exact HE.out j (by omega)
                case measure => simp [intOf]; omega
      · have hkk : k = n := by omega
        subst hkk
        go_wp2
        go_ret
        exact ⟨ret_bool (by rw [knotsB_all xs k HE.out, HIN.out]), (by repeat (first | exact bw_refl _ | assumption | apply bw_alloc | apply bw_drew | apply bw_drewN | (refine bw_trans ?_ (by assumption)) | (refine bw_set ?_ (by simp only [go_sem]; omega) _)))⟩
end Go.Proofs.Ytiimaodphhaohaa
