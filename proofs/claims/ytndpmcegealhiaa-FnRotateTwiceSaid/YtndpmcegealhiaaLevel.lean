/- Contracts of the rotation towards the X axis, both sides; condition: numbers of at most 2^40 and twenty steps. -/
import Derived.Test.YtndpmcegealhiaaTurn
import Derived.Test.YtndpmcegealhiaaVec
namespace Go.Proofs.Ytndpmcegealhiaa
open Go.RowKit
set_option linter.unusedVariables false
set_option linter.unusedSimpArgs false
set_option maxHeartbeats 2000000

theorem pow_20 : ∀ k, k ≤ 20 → (1099511627776 : Int) * 2 ^ k ≤ 1152921504606846976 := by decide
/-- A round's numbers: the state, its bounds, and what a step makes of it. -/
theorem level_round (x y : Int) (hx : -1099511627776 ≤ x ∧ x ≤ 1099511627776) (hy : -1099511627776 ≤ y ∧ y ≤ 1099511627776) (k : Nat) (hk : k < 20) : ∃ X Y Z s u v : Int, levelS x y k = (X, Y, Z) ∧ (-1152921504606846976 ≤ X ∧ X ≤ 1152921504606846976) ∧ (-1152921504606846976 ≤ Y ∧ Y ≤ 1152921504606846976) ∧ (-167772160 ≤ Z ∧ Z ≤ 167772160) ∧
    stepAt k = s ∧ (0 < s ∧ s ≤ 8388608) ∧ X / 2 ^ k = u ∧ Y / 2 ^ k = v ∧ (0 < Y → levelS x y (k + 1) = (X + v, Y - u, Z + s)) ∧ (¬ 0 < Y → levelS x y (k + 1) = (X - v, Y + u, Z - s)) := by
  obtain ⟨h1, h2, h3⟩ := levelS_bd x y 1099511627776 (by omega) hx hy k (by omega)
  have hp := pow_20 k (by omega)
  refine ⟨(levelS x y k).1, (levelS x y k).2.1, (levelS x y k).2.2, _, _, _, rfl, ⟨by omega, by omega⟩, ⟨by omega, by omega⟩, ⟨by omega, by omega⟩, rfl, step_bd k (by omega), rfl, rfl, fun h => ?_, fun h => ?_⟩
  · show level1 k (levelS x y k) = _; unfold level1; rw [if_pos h]
  · show level1 k (levelS x y k) = _; unfold level1; rw [if_neg h]
theorem level_end (x y : Int) (hx : -1099511627776 ≤ x ∧ x ≤ 1099511627776) (hy : -1099511627776 ≤ y ∧ y ≤ 1099511627776) : -167772160 ≤ (levelS x y 20).2.2 ∧ (levelS x y 20).2.2 ≤ 167772160 := by
  have h := (levelS_bd x y 1099511627776 (by omega) hx hy 20 (by omega)).2.2
  omega
def levelPost (x y : Int) (w : World) (e : Ending) (w' : World) : Prop := e = .returned (.tuple #[.agg #[.int .i64 (levelS x y 20).1, .int .i64 (levelS x y 20).2.1], .int .i64 (levelS x y 20).2.2, .bool true]) ∧ Below w.heap.size w w'
theorem l14Vector_any (X Y : Int) (w : World) : Calls Try.prog 55 #[.agg #[.int .i64 X, .int .i64 Y]] w fun e w' => e = .returned (.bool (vecB 1099511627776 X Y)) ∧ Below w.heap.size w w' := by
  have e1 : vecB 1099511627776 X Y = (inB X (-1099511627776) 1099511627776 && inB Y (-1099511627776) 1099511627776) := rfl
  rw [e1]
  clear e1
  cases hX : inB X (-1099511627776) 1099511627776
  all_goals
    go_enter Try.func55, Try.ntmps55
    go_wp2_with (go_at_call 27; refine (l1In_any _ _ _ _).mono ?_; rintro e w' ⟨rfl, rfl⟩)
    go_ret
    exact ⟨ret_bool (by simp), (by repeat (first | exact bw_refl _ | assumption | apply bw_alloc | apply bw_drew | apply bw_drewN | (refine bw_trans ?_ (by assumption)) | (refine bw_set ?_ (by simp only [go_sem]; omega) _)))⟩
theorem implLevel_20 (x y : Int) (hx : -1099511627776 ≤ x ∧ x ≤ 1099511627776) (hy : -1099511627776 ≤ y ∧ y ≤ 1099511627776) (w : World) :
    Calls Try.prog 48 #[.agg #[.int .i64 x, .int .i64 y], .int .i64 20] w (levelPost x y w) := by
  have hv : vecB 1099511627776 x y = true := by unfold vecB; rw [Bool.and_eq_true, inB_iff, inB_iff]; exact ⟨hx, hy⟩
  have HV := Lib.hid hv
  have HX := Lib.hid hx
  have HY := Lib.hid hy
  clear hv hx hy
  have l0 := Blk.alloc (Blk.new w 24 #[.int .i64 x, .int .i64 y]) (.cells #[.int .i64 0, .int .i64 0] 24)
  have l1 := Blk.new (w.alloc (.cells #[.int .i64 x, .int .i64 y] 24)) 24 #[.int .i64 0, .int .i64 0]
  rw [World.size_alloc] at l1
  go_enter Try.func48, Try.ntmps48
  go_wp2_with fail
  refine (vwithin_any x y 1099511627776 (by decide) (by decide) _).mono ?_
  rintro e w1 ⟨he, hb⟩
  rw [HV.out] at he
  subst he
  replace l0 := l0.up hb
  replace l1 := l1.up hb
  have b1 : Below w.heap.size w w1 := (by repeat (first | exact bw_refl _ | assumption | apply bw_alloc | apply bw_drew | apply bw_drewN | (refine bw_trans ?_ (by assumption)) | (refine bw_set ?_ (by simp only [go_sem]; omega) _)))
  clear hb
  go_wp2_with fail
  refine (implStepAngles_20 _).mono ?_
  rintro e w2 ⟨g, ys, rfl, hy20, hys, hR, hb, hg⟩
  have HY20 := Lib.hid hy20
  have HYS := Lib.hid hys
  have z1 := l1.lt
  replace l0 := l0.up hb
  replace l1 := l1.up hb
  have b2 := bw_trans b1 hb
  clear hb hy20 hys b1
  go_wp2
  go_loopw [7, 26] (fun s i wr => ∃ (k : Nat) (X Y Z : Int), k ≤ 20 ∧ s = .int .i64 Z ∧ i = .int .i64 k ∧ levelS x y k = (X, Y, Z) ∧ Row wr g ys ∧ Blk wr w.heap.size 24 #[.int .i64 X, .int .i64 Y] ∧ Blk wr (w.heap.size + 1) 24 #[.int .i64 0, .int .i64 0] ∧ Below w.heap.size w wr)
    (fun _ i _ => 20 - (intOf i).toNat)
  case atStart => exact ⟨0, x, y, 0, Nat.zero_le _, rfl, rfl, rfl, hR, l0, l1, b2⟩
  case round =>
    clear l0 l1 b2 hR
    obtain ⟨k, X, Y, Z, hk, rfl, rfl, hS, hR, l0, l1, hb⟩ := hrel
    have HS := Lib.hid hS
    clear hS
    obtain ⟨c0, c1, d0, d1⟩ := l0.rd2
    have z0 := l0.lt
    by_cases hlt : k < 20
    · obtain ⟨X', Y', Z', s, u, v, hS', ⟨x0, x1⟩, ⟨y0, y1⟩, ⟨t0, t1⟩, hs, ⟨s0, s1⟩, hu, hv, hpos, hneg⟩ := level_round x y HX.out HY.out k hlt
      rw [HS.out] at hS'
      injection hS' with e1 e2
      injection e2 with e2 e3
      subst e1 e2 e3
      have hrow := hR.cell (j := k) (by rw [HY20.out]; exact hlt)
      rw [HYS.out k hlt, hs] at hrow
      have i0 : (0 : Int) ≤ (k : Int) := by omega
      have i1 : (k : Int) < 20 := by omega
      have HP := Lib.hid hpos
      have HN := Lib.hid hneg
      have hne0 : w.heap.size ≠ g := by omega
      rcases Int.lt_or_le 0 Y with hY | hY
      · have M := step_right X Y k (by omega) x0 x1 y0 y1
        rw [hu, hv] at M
        have S := signed_right s (by omega) (by omega)
        have r1 : (-Y) / 9223372036854775808 = -1 := by omega
        have r2 : IntKind.i64.wrap (-Y) = -Y := IntWalk.i64_in _ (by omega)
        have r3 : IntKind.i64.wrap (Z - -s) = Z + s := by rw [IntWalk.i64_in _ (by omega)]; omega
        have r4 : IntKind.i64.wrap (Z + s) = Z + s := IntWalk.i64_in _ (by omega)
        clear hu hv hs hpos hneg x0 x1
        go_wp2_with fail
        refine (M _).mono ?_
        rintro e w3 ⟨rfl, hb2⟩
        clear M c0 c1 d0 d1 hrow
        replace l0 := l0.up hb2
        replace l1 := l1.up hb2
        replace hR := hR.up hb2
        obtain ⟨c0, c1, d0, d1⟩ := l0.rd2
        have b2 := bw_trans hb hb2
        clear hb hb2
        go_wp2_with fail
        refine (S _).mono ?_
        rintro e w4 ⟨rfl, rfl⟩
        clear S
        have k0 := l0.two (.int .i64 (X + v)) (.int .i64 (Y - u))
        have k1 := Blk.far (p := ⟨w.heap.size, 1, none⟩) (Blk.far (p := ⟨w.heap.size, 0, none⟩) l1 (Nat.succ_ne_self _) (.int .i64 (X + v))) (Nat.succ_ne_self _) (.int .i64 (Y - u))
        have kR := Row.far (p := ⟨w.heap.size, 1, none⟩) (Row.far (p := ⟨w.heap.size, 0, none⟩) hR (Ne.symm hne0) (.int .i64 (X + v))) (Ne.symm hne0) (.int .i64 (Y - u))
        have b3 := bw_set (bw_set b2 (p := ⟨w.heap.size, 0, none⟩) (Nat.le_refl _) (.int .i64 (X + v))) (p := ⟨w.heap.size, 1, none⟩) (Nat.le_refl _) (.int .i64 (Y - u))
        clear l0 l1 b2 hR c0 c1 d0 d1
        go_wp2
        go_roundw
        case rel => exact ⟨k + 1, X + v, Y - u, Z + s, by omega, rfl, by go_num, HP.out hY, kR, k0, k1, b3⟩
        case measure => simp [intOf]; omega
      · have hY' : ¬ 0 < Y := by omega
        have M := step_left X Y k (by omega) x0 x1 y0 y1
        rw [hu, hv] at M
        have S := signed_left s (by omega) (by omega)
        have r1 : (-Y) / 9223372036854775808 = 0 := by omega
        have r2 : IntKind.i64.wrap (-Y) = -Y := IntWalk.i64_in _ (by omega)
        have r4 : IntKind.i64.wrap (Z - s) = Z - s := IntWalk.i64_in _ (by omega)
        clear hu hv hs hpos hneg x0 x1
        go_wp2_with fail
        refine (M _).mono ?_
        rintro e w3 ⟨rfl, hb2⟩
        clear M c0 c1 d0 d1 hrow
        replace l0 := l0.up hb2
        replace l1 := l1.up hb2
        replace hR := hR.up hb2
        obtain ⟨c0, c1, d0, d1⟩ := l0.rd2
        have b2 := bw_trans hb hb2
        clear hb hb2
        go_wp2_with fail
        refine (S _).mono ?_
        rintro e w4 ⟨rfl, rfl⟩
        clear S
        have k0 := l0.two (.int .i64 (X - v)) (.int .i64 (Y + u))
        have k1 := Blk.far (p := ⟨w.heap.size, 1, none⟩) (Blk.far (p := ⟨w.heap.size, 0, none⟩) l1 (Nat.succ_ne_self _) (.int .i64 (X - v))) (Nat.succ_ne_self _) (.int .i64 (Y + u))
        have kR := Row.far (p := ⟨w.heap.size, 1, none⟩) (Row.far (p := ⟨w.heap.size, 0, none⟩) hR (Ne.symm hne0) (.int .i64 (X - v))) (Ne.symm hne0) (.int .i64 (Y + u))
        have b3 := bw_set (bw_set b2 (p := ⟨w.heap.size, 0, none⟩) (Nat.le_refl _) (.int .i64 (X - v))) (p := ⟨w.heap.size, 1, none⟩) (Nat.le_refl _) (.int .i64 (Y + u))
        clear l0 l1 b2 hR c0 c1 d0 d1
        go_wp2
        go_roundw
        case rel => exact ⟨k + 1, X - v, Y + u, Z - s, by omega, rfl, by go_num, HN.out hY', kR, k0, k1, b3⟩
        case measure => simp [intOf]; omega
    · have hkk : k = 20 := by omega
      subst hkk
      obtain ⟨g0, g1, f0, f1⟩ := l1.rd2
      go_wp2
      unfold levelPost
      rw [HS.out]
      refine bodyPost_ret (by simp only [results, Try.results48]; go_simp; all_goals (first | exact rfl | exact ⟨rfl, rfl⟩ | skip)) rfl ⟨rfl, (by repeat (first | exact bw_refl _ | assumption | apply bw_alloc | apply bw_drew | apply bw_drewN | (refine bw_trans ?_ (by assumption)) | (refine bw_set ?_ (by simp only [go_sem]; omega) _)))⟩
end Go.Proofs.Ytndpmcegealhiaa
