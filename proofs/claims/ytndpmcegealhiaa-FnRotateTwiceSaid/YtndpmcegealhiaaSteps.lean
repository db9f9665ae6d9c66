/- Contracts of the angles of the steps of a rotation, both sides; condition: a step that there is, and twenty of them. -/
import Derived.Test.YtndpmcegealhiaaKeep
import Derived.Test.YtndpmcegealhiaaLists
namespace Go.Proofs.Ytndpmcegealhiaa
open Go.RowKit
set_option linter.unusedVariables false
set_option linter.unusedSimpArgs false
set_option maxHeartbeats 2000000

theorem rdiv_bd2 (a m : Int) (h0 : -m ≤ a) (h1 : a ≤ m) (hm : 0 ≤ m) : -m ≤ rdiv a 2 ∧ rdiv a 2 ≤ m + 1 := by unfold rdiv; split <;> omega
theorem pow_17 : ∀ k, k < 17 → 1 ≤ k → (2 : Int) ≤ 2 ^ k ∧ (2 : Int) ^ k ≤ 65536 := by decide
theorem arcN_20 : ∀ k, k < 17 → arcN.getD k 0 ≤ 20 := by decide
theorem implRoundDiv_ok (a b : Int) (hb : 0 < b) (hb2 : b ≤ 1152921504606846976) (h0 : -1152921504606846976 ≤ a) (h1 : a ≤ 1152921504606846976) (w : World) :
    Calls Try.prog 62 #[.int .i64 a, .int .i64 b] w fun e w' => e = .returned (.int .i64 (rdiv a b)) ∧ w = w' := by
  have hi : inB a (-1152921504606846976) 1152921504606846976 = true := (inB_iff _ _ _).2 ⟨h0, h1⟩
  obtain ⟨q0, q1⟩ := ediv_bd a b 1152921504606846976 hb h0 h1 (by omega)
  obtain ⟨r0, r1⟩ := rest_bd a b hb
  have hp : bits .and .i64 (a / b) 1 = a / b % 2 := and_mask (a / b) 1 (by omega)
  have hz : a / b % 2 = 0 ∨ a / b % 2 = 1 := by omega
  have HZ := Lib.hid hz
  clear hz
  go_enter Try.func62, Try.ntmps62
  go_wp2_with (first
    | (go_at_call 24; refine (workable_any _ _).mono ?_; rintro e w' ⟨rfl, rfl⟩)
    | (go_at_call 65; refine (implFloorDiv_ok a b hb hb2 h0 h1 _).mono ?_; rintro e w' ⟨rfl, rfl⟩))
  all_goals (go_ret; refine ⟨ret_int ?_, rfl⟩; have := HZ.out; unfold rdiv; split <;> (first | omega | (simp_all; try omega)))
/-- What a step of 1 to 16 needs: its arc, its part of the circle, and the angle. -/
theorem step_facts (k : Nat) (h0 : 1 ≤ k) (h1 : k < 17) : ∃ (n : Nat) (x y D E : Int), n ≤ 20 ∧ arcOk (2 ^ k) n = true ∧ (arcS (2 ^ k) n).1 = x ∧ (arcS (2 ^ k) n).2.1 = y ∧ spOk x y = true ∧ 0 ≤ x ∧ divL x 843314944 = D ∧ divH y 843314816 = E ∧ spOk D E = true ∧ stepAt k = rdiv (rdiv (D + E) 2) 8 := by
  obtain ⟨a, b, c, d, e⟩ := arc_all k h1 h0
  exact ⟨_, _, _, _, _, arcN_20 k h1, a, rfl, rfl, b, c, rfl, rfl, d, e⟩
theorem specStepAngle_ok : ∀ (k : Nat), k < 21 → ∀ w : World, Calls Try.prog 57 #[.int .i64 k] w fun e w' => e = .returned (.int .i64 (stepAt k)) ∧ Below w.heap.size w w'
  | 0, _, w => by
    have hin : inB 0 0 20 = true := by decide
    have hs := Lib.hid step_zero
    go_enter Try.func57, Try.ntmps57
    go_wp2_with (go_at_call 27; refine (l1In_any _ _ _ _).mono ?_; rintro e w' ⟨he, rfl⟩; simp only [Int.natCast_zero, Int.cast_ofNat_Int, hin] at he; subst he)
    go_ret
    exact ⟨ret_int hs.out.symm, (by repeat (first | exact bw_refl _ | assumption | apply bw_alloc | apply bw_drew | apply bw_drewN | (refine bw_trans ?_ (by assumption)) | (refine bw_set ?_ (by simp only [go_sem]; omega) _)))⟩
  | m + 1, hk, w => by
    have hin : inB ((m : Int) + 1) 0 20 = true := by rw [inB_iff]; omega
    have ek : ((m + 1 : Nat) : Int) = (m : Int) + 1 := rfl
    have e1 : IntKind.i64.wrap (m : Int) = (m : Int) := IntWalk.i64_in _ (by omega)
    have e2 : ((m : Int) + 1).toNat = m + 1 := by omega
    have q0 : ((m : Int) + 1 == 0) = false := beq_eq_false_iff_ne.2 (by omega)
    by_cases h16 : m + 1 < 17
    · obtain ⟨n, x, y, D, E, hn, ho, hx, hy, hxy, x0, hD, hE, hDE, hs⟩ := step_facts (m + 1) (by omega) h16
      obtain ⟨p0, p1⟩ := pow_17 (m + 1) h16 (by omega)
      have M1 := specArcSpan_ok (2 ^ (m + 1)) n p0 p1 hn ho
      unfold arcPost at M1
      rw [hx, hy] at M1
      have M2 := specSpanDiv_yes x y 843314816 843314944 hxy (by decide) x0 (by decide) (by rw [hD, hE]; exact hDE)
      unfold divPost at M2
      rw [hD, hE] at M2
      obtain ⟨⟨d0, d1⟩, ⟨e0, e1'⟩, -⟩ := (spOk_iff D E).1 hDE
      obtain ⟨r0, r1⟩ := rdiv_bd2 (D + E) 2147483648 (by omega) (by omega) (by omega)
      have HS := Lib.hid hs
      have R := Lib.hid r0
      have R1 := Lib.hid r1
      have PW : IntKind.i64.wrap (2 ^ (m + 1)) = 2 ^ (m + 1) := IntWalk.i64_in _ (by omega)
      have q1 : ¬ 16 < (m : Int) + 1 := by omega
      clear hx hy hD hE hDE hxy hs r0 r1 ho
      rw [ek]
      go_enter Try.func57, Try.ntmps57
      go_wp2_with (go_at_call 27; refine (l1In_any _ _ _ _).mono ?_; rintro e w' ⟨he, rfl⟩; rw [hin] at he; subst he)
      refine (M1 _).mono ?_
      rintro e w1 ⟨rfl, b1⟩
      go_wp2_with fail
      refine (specPiSpan_any _).mono ?_
      rintro e w2 ⟨rfl, b2⟩
      go_wp2_with fail
      refine (M2 _).mono ?_
      rintro e w3 ⟨rfl, b3⟩
      clear M1 M2
      go_wp2_with fail
      refine (l1Round_any (D + E) 2 (by omega) (by omega) (by omega) (by omega) _).mono ?_
      rintro e w4 ⟨rfl, rfl⟩
      go_wp2_with fail
      refine (l1Round_any (rdiv (D + E) 2) 8 (by omega) (by omega) (by have := R.out; omega) (by have := R1.out; omega) _).mono ?_
      rintro e w5 ⟨rfl, rfl⟩
      go_wp2
      go_ret
      exact ⟨ret_int HS.out.symm, (by repeat (first | exact bw_refl _ | assumption | apply bw_alloc | apply bw_drew | apply bw_drewN | (refine bw_trans ?_ (by assumption)) | (refine bw_set ?_ (by simp only [go_sem]; omega) _)))⟩
    · have hs := step_half (m + 1) hk (by omega)
      rw [Nat.add_sub_cancel] at hs
      obtain ⟨b0, b1⟩ := step_bd m (by omega)
      have HS := Lib.hid hs
      have B0 := Lib.hid b0
      have B1 := Lib.hid b1
      have M := specStepAngle_ok m (by omega)
      have q1 : 16 < (m : Int) + 1 := by omega
      clear hs b0 b1
      rw [ek]
      go_enter Try.func57, Try.ntmps57
      go_wp2_with (go_at_call 27; refine (l1In_any _ _ _ _).mono ?_; rintro e w' ⟨he, rfl⟩; rw [hin] at he; subst he)
      refine (M _).mono ?_
      rintro e w1 ⟨rfl, b1⟩
      go_wp2_with fail
      refine (l1Round_any (stepAt m) 2 (by omega) (by omega) (by have := B0.out; omega) (by have := B1.out; omega) _).mono ?_
      rintro e w5 ⟨rfl, rfl⟩
      go_wp2
      go_ret
      exact ⟨ret_int HS.out.symm, (by repeat (first | exact bw_refl _ | assumption | apply bw_alloc | apply bw_drew | apply bw_drewN | (refine bw_trans ?_ (by assumption)) | (refine bw_set ?_ (by simp only [go_sem]; omega) _)))⟩
end Go.Proofs.Ytndpmcegealhiaa
