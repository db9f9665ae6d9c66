/- Contracts of the program's growth of a rotation, and of the starts; no condition. -/
import Derived.Test.YtndpmcegealhiaaGrow
namespace Go.Proofs.Ytndpmcegealhiaa
open Go.RowKit
set_option linter.unusedVariables false
set_option linter.unusedSimpArgs false
set_option maxHeartbeats 2000000

theorem implGrow_20 (w : World) : Calls Try.prog 54 #[.int .i64 20] w (growPost w) := by
  have l0 := Blk.new w 62 #[.int .i64 0, .int .i64 0]
  go_enter Try.func54, Try.ntmps54
  go_wp2_with fail
  refine (alone_any _ _).mono ?_
  rintro e w1 ⟨rfl, hb⟩
  replace l0 := (l0.up hb).alloc (.cells #[.int .i64 268435456, .int .i64 268435456] 62)
  have l1 := Blk.new w1 62 #[.int .i64 268435456, .int .i64 268435456]
  have b1 : Below w.heap.size w (w1.alloc (.cells #[.int .i64 268435456, .int .i64 268435456] 62)) := (by repeat (first | exact bw_refl _ | assumption | apply bw_alloc | apply bw_drew | apply bw_drewN | (refine bw_trans ?_ (by assumption)) | (refine bw_set ?_ (by simp only [go_sem]; omega) _)))
  have hge : w.heap.size < w1.heap.size := Nat.lt_of_lt_of_le (by simp) hb.size
  obtain ⟨g, hg⟩ : ∃ g, w1.heap.size = g := ⟨_, rfl⟩
  rw [hg] at l1 hge
  clear hb
  go_wp2
  go_loopw [18] (fun s wr => ∃ (k : Nat) (p q : Int), k ≤ 20 ∧ s = .int .i64 k ∧ growS k = (p, q) ∧ Blk wr w.heap.size 62 #[.int .i64 0, .int .i64 0] ∧ Blk wr g 62 #[.int .i64 p, .int .i64 q] ∧ Below w.heap.size w wr)
    (fun s _ => 20 - (intOf s).toNat)
  case atStart => exact ⟨0, 268435456, 268435456, Nat.zero_le _, rfl, rfl, l0, l1, b1⟩
  case round =>
    clear l0 l1 b1 hg
    obtain ⟨k, p, q, hk, rfl, hS, l0, l1, hb⟩ := hrel
    have HS := Lib.hid hS
    clear hS
    have z0 := l0.lt
    have z1 := l1.lt
    by_cases hlt : k < 20
    · obtain ⟨p', q', P, d, p2, q2, hS', ok1, hP, ⟨P0, P1⟩, hd0, hd1, ok2, hL, hH, ok3, hS2⟩ := grow_round k hlt
      rw [HS.out] at hS'
      injection hS' with e1 e2
      subst e1 e2
      have HS2 := Lib.hid hS2
      have M := implSpanMul_yes p q (268435456 + P) (268435456 + P + d) ok1 ok2 (by rw [hL, hH]; exact ok3)
      unfold mulPost at M
      rw [hL, hH] at M
      obtain ⟨-, -, ⟨s0, s1⟩, r0, r1⟩ := part_facts k hlt
      have t1 : (2 * (k : Int)).toNat = 2 * k := by omega
      have t2 : min (2 * k) 64 = 2 * k := by omega
      have t3 : (0 : Int) ≤ 2 * (k : Int) := by omega
      have t5 : IntKind.u64.wrap (2 * (k : Int)) = 2 * (k : Int) := IntWalk.u64_in _ (by omega)
      have t6 : IntKind.i64.wrap (2 ^ (2 * k)) = 2 ^ (2 * k) := IntWalk.i64_in _ (by omega)
      have F := implFloorDiv_ok 268435456 (2 ^ (2 * k)) (by omega) (by omega) (by omega) (by omega)
      rw [hP] at F
      have hne : g ≠ w.heap.size := by omega
      by_cases h15 : k < 15
      · have hd := hd0 h15
        subst hd
        have r := r0 h15
        have r2 : (268435456 : Int).tmod (2 ^ (2 * k)) = 0 := by rw [Int.tmod_eq_emod_of_nonneg (by omega)]; exact r
        clear hd0 hd1 ok1 ok2 ok3 hL hH hS2 r0 r1 hP
        have M' := M
        rw [Int.add_zero] at M'
        clear M
        go_wp2_with fail
        refine (F _).mono ?_
        rintro e w2 ⟨rfl, rfl⟩
        clear F
        go_wp2_with fail
        refine (alone_any _ _).mono ?_
        rintro e w3 ⟨rfl, hb2⟩
        replace l0 := (l0.up hb2).alloc (.cells #[.int .i64 (268435456 + P), .int .i64 (268435456 + P)] 62)
        replace l1 := (l1.up hb2).alloc (.cells #[.int .i64 (268435456 + P), .int .i64 (268435456 + P)] 62)
        have b2 : Below w.heap.size w w3 := (by repeat (first | exact bw_refl _ | assumption | apply bw_alloc | apply bw_drew | apply bw_drewN | (refine bw_trans ?_ (by assumption)) | (refine bw_set ?_ (by simp only [go_sem]; omega) _)))
        clear hb hb2 z0 z1
        have z1 := l1.lt
        obtain ⟨c0, c1, -, -⟩ := l1.rd2
        go_wp2_with fail
        refine (M' _).mono ?_
        rintro e w4 ⟨rfl, hb2⟩
        clear M' c0 c1
        replace l0 := l0.up hb2
        replace l1 := l1.up hb2
        have b3 : Below w.heap.size w w4 := (by repeat (first | exact bw_refl _ | assumption | apply bw_alloc | apply bw_drew | apply bw_drewN | (refine bw_trans ?_ (by assumption)) | (refine bw_set ?_ (by simp only [go_sem]; omega) _)))
        clear b2 hb2
        have k1 := l1.two (.int .i64 p2) (.int .i64 q2)
        have k0 := Blk.far (p := ⟨g, 1, none⟩) (Blk.far (p := ⟨g, 0, none⟩) l0 (Ne.symm hne) (.int .i64 p2)) (Ne.symm hne) (.int .i64 q2)
        have b4 := bw_set (bw_set b3 (p := ⟨g, 0, none⟩) (Nat.le_of_lt hge) (.int .i64 p2)) (p := ⟨g, 1, none⟩) (Nat.le_of_lt hge) (.int .i64 q2)
        obtain ⟨c0, c1, f0, f1⟩ := l1.rd2
        clear l0 l1 b3
        go_wp2
        go_roundw
        case rel => exact ⟨k + 1, p2, q2, by omega, by go_num, HS2.out, k0, k1, b4⟩
        case measure => simp [intOf]; omega
      · have hd := hd1 (by omega)
        subst hd
        have r := r1 (by omega)
        have r2 : (268435456 : Int).tmod (2 ^ (2 * k)) = 268435456 := by rw [Int.tmod_eq_emod_of_nonneg (by omega)]; exact r
        clear hd0 hd1 ok1 ok2 ok3 hL hH hS2 r0 r1 hP
        go_wp2_with fail
        refine (F _).mono ?_
        rintro e w2 ⟨rfl, rfl⟩
        clear F
        go_wp2_with fail
        refine (alone_any _ _).mono ?_
        rintro e w3 ⟨rfl, hb2⟩
        replace l0 := (l0.up hb2).alloc (.cells #[.int .i64 (268435456 + P), .int .i64 (268435456 + P + 1)] 62)
        replace l1 := (l1.up hb2).alloc (.cells #[.int .i64 (268435456 + P), .int .i64 (268435456 + P + 1)] 62)
        have b2 : Below w.heap.size w w3 := (by repeat (first | exact bw_refl _ | assumption | apply bw_alloc | apply bw_drew | apply bw_drewN | (refine bw_trans ?_ (by assumption)) | (refine bw_set ?_ (by simp only [go_sem]; omega) _)))
        clear hb hb2 z0 z1
        have z1 := l1.lt
        obtain ⟨c0, c1, -, -⟩ := l1.rd2
        go_wp2_with fail
        refine (M _).mono ?_
        rintro e w4 ⟨rfl, hb2⟩
        clear M c0 c1
        replace l0 := l0.up hb2
        replace l1 := l1.up hb2
        have b3 : Below w.heap.size w w4 := (by repeat (first | exact bw_refl _ | assumption | apply bw_alloc | apply bw_drew | apply bw_drewN | (refine bw_trans ?_ (by assumption)) | (refine bw_set ?_ (by simp only [go_sem]; omega) _)))
        clear b2 hb2
        have k1 := l1.two (.int .i64 p2) (.int .i64 q2)
        have k0 := Blk.far (p := ⟨g, 1, none⟩) (Blk.far (p := ⟨g, 0, none⟩) l0 (Ne.symm hne) (.int .i64 p2)) (Ne.symm hne) (.int .i64 q2)
        have b4 := bw_set (bw_set b3 (p := ⟨g, 0, none⟩) (Nat.le_of_lt hge) (.int .i64 p2)) (p := ⟨g, 1, none⟩) (Nat.le_of_lt hge) (.int .i64 q2)
        obtain ⟨c0, c1, f0, f1⟩ := l1.rd2
        clear l0 l1 b3
        go_wp2
        go_roundw
        case rel => exact ⟨k + 1, p2, q2, by omega, by go_num, HS2.out, k0, k1, b4⟩
        case measure => simp [intOf]; omega
    · have hkk : k = 20 := by omega
      subst hkk
      have hg := HS.out
      rw [grow_is] at hg
      injection hg with e1 e2
      subst e1 e2
      obtain ⟨c0, c1, -, -⟩ := l1.rd2
      go_wp2_with fail
      refine (implSqrt_c _).mono ?_
      rintro e w2 ⟨rfl, hb2⟩
      replace l0 := l0.up hb2
      have b2 := bw_trans hb hb2
      clear hb hb2 c0 c1 z0 z1 l1
      have z0 := l0.lt
      obtain ⟨c2, c3, f2, f3⟩ := l0.rd2
      go_wp2
      unfold growPost
      refine bodyPost_ret (by simp only [results, Try.results54]; go_simp; all_goals (first | exact rfl | exact ⟨rfl, rfl⟩ | skip)) rfl ⟨rfl, (by repeat (first | exact bw_refl _ | assumption | apply bw_alloc | apply bw_drew | apply bw_drewN | (refine bw_trans ?_ (by assumption)) | (refine bw_set ?_ (by simp only [go_sem]; omega) _)))⟩
theorem start_ok : spOk (divL 268435456 442048847) (divH 268435456 442048838) = true := by decide
theorem specStart_20 (w : World) : Calls Try.prog 47 #[.int .i64 20] w fun e w' => e = .returned (.int .i64 163008216) ∧ Below w.heap.size w w' := by
  have hin : inB 20 0 20 = true := by decide
  have M := specSpanDiv_yes 268435456 268435456 442048838 442048847 (by decide) (by decide) (by decide) (by decide) start_ok
  unfold divPost at M
  rw [start_is] at M
  generalize divH 268435456 442048838 = y at M
  go_enter Try.func47, Try.ntmps47
  go_wp2_with (go_at_call 27; refine (l1In_any _ _ _ _).mono ?_; rintro e w' ⟨he, rfl⟩; rw [hin] at he; subst he)
  refine (specGrow_20 _).mono ?_
  rintro e w1 ⟨rfl, b1⟩
  go_wp2_with fail
  refine (M _).mono ?_
  rintro e w2 ⟨rfl, b2⟩
  go_wp2
  go_ret
  exact ⟨rfl, (by repeat (first | exact bw_refl _ | assumption | apply bw_alloc | apply bw_drew | apply bw_drewN | (refine bw_trans ?_ (by assumption)) | (refine bw_set ?_ (by simp only [go_sem]; omega) _)))⟩
theorem implStart_20 (w : World) : Calls Try.prog 45 #[.int .i64 20] w fun e w' => e = .returned (.int .i64 163008216) ∧ Below w.heap.size w w' := by
  have M := implSpanDiv_yes 268435456 268435456 442048838 442048847 (by decide) (by decide) (by decide) (by decide) start_ok
  unfold divPost at M
  rw [start_is] at M
  generalize divH 268435456 442048838 = y at M
  go_enter Try.func45, Try.ntmps45
  go_wp2_with fail
  refine (alone_any _ _).mono ?_
  rintro e w0 ⟨rfl, b0⟩
  go_wp2_with fail
  refine (implGrow_20 _).mono ?_
  rintro e w1 ⟨rfl, b1⟩
  go_wp2_with fail
  refine (M _).mono ?_
  rintro e w2 ⟨rfl, b2⟩
  go_wp2
  go_ret
  exact ⟨rfl, (by repeat (first | exact bw_refl _ | assumption | apply bw_alloc | apply bw_drew | apply bw_drewN | (refine bw_trans ?_ (by assumption)) | (refine bw_set ?_ (by simp only [go_sem]; omega) _)))⟩
end Go.Proofs.Ytndpmcegealhiaa
