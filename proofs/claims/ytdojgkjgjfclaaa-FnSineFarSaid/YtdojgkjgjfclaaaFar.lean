/- Contracts of SineFar, both sides, and the walk of ExactSineFar; no condition. -/
import Derived.Test.YtdojgkjgjfclaaaCos
import Derived.Test.YtdojgkjgjfclaaaSinE
namespace Go.Proofs.Ytdojgkjgjfclaaa
open Go.RowKit
set_option linter.unusedVariables false
set_option linter.unusedSimpArgs false
set_option maxHeartbeats 2000000

theorem cs_eighth {a : Int} (h0 : 0 ≤ a) (h1 : a ≤ 8192) : csT a = (eighC a, eighS a) := by
  have e1 : a % 65536 = a := by omega
  have e2 : (a / 16384).toNat = 0 := by omega
  have e3 : foldB a = false := decide_eq_false (by omega)
  have e4 : foldR a = a := by unfold foldR; rw [if_neg (by omega)]; omega
  unfold csT csP
  rw [(inB_iff _ _ _).2 ⟨by omega, by omega⟩, if_pos rfl, e1, e2]
  unfold rotQ baseP
  rw [e3, e4]
  rfl
theorem eighS_bd {a : Int} (h0 : 0 ≤ a) (h1 : a ≤ 8192) : 0 ≤ eighS a ∧ eighS a ≤ 17179869185 := by
  have h := (turnS_bd 163008216 0 (a * 1024) 268435456 67108864 (by omega) (by omega) (by omega) (by omega) 20 (by omega)).2.1
  have hp : (268435456 : Int) * 2 ^ 20 = 281474976710656 := by decide
  rw [hp] at h
  unfold eighS rdiv
  split
  · omega
  · split <;> omega
def IsInt (v : Int) (w : World) (e : Ending) (w' : World) : Prop := e = .returned (.int .i64 v) ∧ Below w.heap.size w w'
theorem implSine_ok (a : Int) (h0 : 0 ≤ a) (h1 : a ≤ 8192) (w : World) : Calls Try.prog 27 #[.int .i64 a] w (IsInt (eighS a) w) := by
  have M := implCs_any a
  unfold IsCs at M
  rw [cs_eighth h0 h1] at M
  generalize eighC a = c at *
  generalize eighS a = s at *
  go_enter Try.func27, Try.ntmps27
  go_wp2_with fail
  refine (M _).mono ?_
  rintro e w1 ⟨rfl, b1⟩
  go_wp2
  go_ret
  exact ⟨rfl, (by repeat (first | exact bw_refl _ | assumption | apply bw_alloc | apply bw_drew | apply bw_drewN | (refine bw_trans ?_ (by assumption)) | (refine bw_set ?_ (by simp only [go_sem]; omega) _)))⟩
theorem specSine_ok (a : Int) (h0 : 0 ≤ a) (h1 : a ≤ 8192) (w : World) : Calls Try.prog 25 #[.int .i64 a] w (IsInt (eighS a) w) := by
  have M := specCs_any a
  unfold IsCs at M
  rw [cs_eighth h0 h1] at M
  generalize eighC a = c at *
  generalize eighS a = s at *
  go_enter Try.func25, Try.ntmps25
  go_wp2_with fail
  refine (M _).mono ?_
  rintro e w1 ⟨rfl, b1⟩
  go_wp2
  go_ret
  exact ⟨rfl, (by repeat (first | exact bw_refl _ | assumption | apply bw_alloc | apply bw_drew | apply bw_drewN | (refine bw_trans ?_ (by assumption)) | (refine bw_set ?_ (by simp only [go_sem]; omega) _)))⟩
def mx3 (p q : Int) : Int := max (max p q) 0
theorem run_max3 (p q r : Int) (ts : Array TypeId) (t : TypeId) (W : World) : (Builtin.max_ ts t #[.int .i64 p, .int .i64 q, .int .i64 r]).run Try.prog W = .ok (.int .i64 (max (max p q) r)) W := by
  have e : ∀ x y : Int, (if x < y then y else x) = max x y := fun x y => by split <;> omega
  simp [Builtin.max_, Builtin.max2, e]
def farF (a : Int) : Int := if 0 ≤ a ∧ a ≤ 8192 then cdiv (mx3 (sinLow a - eighS a * 16384) (eighS a * 16384 - sinHigh a)) 16384 else -1
theorem sin_bd {a : Int} (h0 : 0 ≤ a) (h1 : a ≤ 8192) : (-1073741824 ≤ sinLow a ∧ sinLow a ≤ 1073741824) ∧ (-1073741824 ≤ sinHigh a ∧ sinHigh a ≤ 1073741824) := by
  obtain ⟨A0, A1, A2⟩ := arc_bd h0 h1
  have p1 := part_bd A0 A1 A2 3 6 (by decide)
  have p2 := part_bd A0 A1 A2 5 120 (by decide)
  have p3 := part_bd A0 A1 A2 7 5040 (by decide)
  unfold sinLow sinHigh
  omega
theorem implFar_any (a : Int) (w : World) : Calls Try.prog 10 #[.int .i64 a] w (IsInt (farF a) w) := by
  by_cases hr : 0 ≤ a ∧ a ≤ 8192
  · have e0 : Hid (farF a = cdiv (mx3 (sinLow a - eighS a * 16384) (eighS a * 16384 - sinHigh a)) 16384) := by unfold Hid farF; rw [if_pos hr]
    obtain ⟨h0, h1⟩ := hr
    have hn0 : ¬ a < 0 := by omega
    have hn1 : ¬ 8192 < a := by omega
    have M1 := implSineSpan_ok a h0 h1
    unfold SineSpanPost at M1
    have M2 := implSine_ok a h0 h1
    unfold IsInt at M2
    obtain ⟨⟨X0, X1⟩, Y0, Y1⟩ := sin_bd h0 h1
    obtain ⟨s0, s1⟩ := eighS_bd h0 h1
    generalize sinLow a = X at *
    generalize sinHigh a = Y at *
    generalize eighS a = s at *
    have w1 : IntKind.i64.wrap (s * 16384) = s * 16384 := IntWalk.i64_in _ (by omega)
    have w2 : IntKind.i64.wrap (X - s * 16384) = X - s * 16384 := IntWalk.i64_in _ (by omega)
    have w3 : IntKind.i64.wrap (s * 16384 - Y) = s * 16384 - Y := IntWalk.i64_in _ (by omega)
    have m := run_max3 (X - s * 16384) (s * 16384 - Y) 0
    have em : max (max (X - s * 16384) (s * 16384 - Y)) 0 = mx3 (X - s * 16384) (s * 16384 - Y) := rfl
    rw [em] at m
    have mb : Hid (0 ≤ mx3 (X - s * 16384) (s * 16384 - Y) ∧ mx3 (X - s * 16384) (s * 16384 - Y) ≤ 1152921504606846976) := by unfold Hid mx3; omega
    clear em
    generalize mx3 (X - s * 16384) (s * 16384 - Y) = t at *
    go_enter Try.func10, Try.ntmps10
    go_wp2_with fail
    refine (M1 _).mono ?_
    rintro e w1 ⟨rfl, b1⟩
    have l3 := Blk.new w1 29 #[.int .i64 X, .int .i64 Y]
    have b2 : Below w.heap.size w (w1.alloc (.cells #[.int .i64 X, .int .i64 Y] 29)) := (by repeat (first | exact bw_refl _ | assumption | apply bw_alloc | apply bw_drew | apply bw_drewN | (refine bw_trans ?_ (by assumption)) | (refine bw_set ?_ (by simp only [go_sem]; omega) _)))
    have z3 := l3.lt
    clear M1
    go_wp2_with fail
    refine (M2 _).mono ?_
    rintro e w2 ⟨rfl, hb⟩
    replace l3 := l3.up hb
    have b3 := bw_trans b2 hb
    clear M2 hb b1 b2 z3
    obtain ⟨c0, c1, -, -⟩ := l3.rd2
    have z3 := l3.lt
    go_wp2_with (go_at_call 28; refine (implCeilDiv_ok t 16384 (by decide) (by decide) (by have := mb.out; omega) (by have := mb.out; omega) _).mono ?_; rintro e w4 ⟨rfl, rfl⟩)
    go_ret
    unfold IsInt
    rw [e0.out]
    exact ⟨rfl, (by repeat (first | exact bw_refl _ | assumption | apply bw_alloc | apply bw_drew | apply bw_drewN | (refine bw_trans ?_ (by assumption)) | (refine bw_set ?_ (by simp only [go_sem]; omega) _)))⟩
  · have e0 : Hid (farF a = -1) := by unfold Hid farF; rw [if_neg hr]
    by_cases h0 : a < 0
    · clear hr
      go_enter Try.func10, Try.ntmps10
      go_wp2
      go_ret
      unfold IsInt
      rw [e0.out]
      exact ⟨rfl, (by repeat (first | exact bw_refl _ | assumption | apply bw_alloc | apply bw_drew | apply bw_drewN | (refine bw_trans ?_ (by assumption)) | (refine bw_set ?_ (by simp only [go_sem]; omega) _)))⟩
    · have h1 : 8192 < a := by omega
      clear hr
      go_enter Try.func10, Try.ntmps10
      go_wp2
      go_ret
      unfold IsInt
      rw [e0.out]
      exact ⟨rfl, (by repeat (first | exact bw_refl _ | assumption | apply bw_alloc | apply bw_drew | apply bw_drewN | (refine bw_trans ?_ (by assumption)) | (refine bw_set ?_ (by simp only [go_sem]; omega) _)))⟩
theorem specFar_any (a : Int) (w : World) : Calls Try.prog 9 #[.int .i64 a] w (IsInt (farF a) w) := by
  by_cases hr : 0 ≤ a ∧ a ≤ 8192
  · have e0 : Hid (farF a = cdiv (mx3 (sinLow a - eighS a * 16384) (eighS a * 16384 - sinHigh a)) 16384) := by unfold Hid farF; rw [if_pos hr]
    have hin : inB a 0 8192 = true := (inB_iff _ _ _).2 hr
    obtain ⟨h0, h1⟩ := hr
    have M1 := specSineSpan_ok a h0 h1
    unfold SineSpanPost at M1
    have M2 := specSine_ok a h0 h1
    unfold IsInt at M2
    obtain ⟨⟨X0, X1⟩, Y0, Y1⟩ := sin_bd h0 h1
    obtain ⟨s0, s1⟩ := eighS_bd h0 h1
    generalize sinLow a = X at *
    generalize sinHigh a = Y at *
    generalize eighS a = s at *
    have w1 : IntKind.i64.wrap (s * 16384) = s * 16384 := IntWalk.i64_in _ (by omega)
    have w2 : IntKind.i64.wrap (X - s * 16384) = X - s * 16384 := IntWalk.i64_in _ (by omega)
    have w3 : IntKind.i64.wrap (s * 16384 - Y) = s * 16384 - Y := IntWalk.i64_in _ (by omega)
    have m := run_max3 0 (X - s * 16384) (s * 16384 - Y)
    have em : max (max 0 (X - s * 16384)) (s * 16384 - Y) = mx3 (X - s * 16384) (s * 16384 - Y) := by unfold mx3; omega
    rw [em] at m
    have mb : Hid (0 ≤ mx3 (X - s * 16384) (s * 16384 - Y) ∧ mx3 (X - s * 16384) (s * 16384 - Y) ≤ 1152921504606846976) := by unfold Hid mx3; omega
    clear em
    generalize mx3 (X - s * 16384) (s * 16384 - Y) = t at *
    go_enter Try.func9, Try.ntmps9
    go_wp2_with (go_at_call 24; refine (l1In_any _ _ _ _).mono ?_; rintro e w' ⟨he, rfl⟩; rw [hin] at he; subst he)
    refine (M1 _).mono ?_
    rintro e w1 ⟨rfl, b1⟩
    have l3 := Blk.new w1 29 #[.int .i64 X, .int .i64 Y]
    have b2 : Below w.heap.size w (w1.alloc (.cells #[.int .i64 X, .int .i64 Y] 29)) := (by repeat (first | exact bw_refl _ | assumption | apply bw_alloc | apply bw_drew | apply bw_drewN | (refine bw_trans ?_ (by assumption)) | (refine bw_set ?_ (by simp only [go_sem]; omega) _)))
    have z3 := l3.lt
    clear M1
    go_wp2_with fail
    refine (M2 _).mono ?_
    rintro e w2 ⟨rfl, hb⟩
    replace l3 := l3.up hb
    have b3 := bw_trans b2 hb
    clear M2 hb b1 b2 z3
    obtain ⟨c0, c1, -, -⟩ := l3.rd2
    have z3 := l3.lt
    go_wp2_with (go_at_call 26; refine (l7Ceil_ok t 16384 (by decide) (by decide) (by have := mb.out; omega) (by have := mb.out; omega) _).mono ?_; rintro e w4 ⟨rfl, rfl⟩)
    go_ret
    unfold IsInt
    rw [e0.out]
    exact ⟨rfl, (by repeat (first | exact bw_refl _ | assumption | apply bw_alloc | apply bw_drew | apply bw_drewN | (refine bw_trans ?_ (by assumption)) | (refine bw_set ?_ (by simp only [go_sem]; omega) _)))⟩
  · have e0 : Hid (farF a = -1) := by unfold Hid farF; rw [if_neg hr]
    have hin : inB a 0 8192 = false := (inB_no _ _ _).2 hr
    clear hr
    go_enter Try.func9, Try.ntmps9
    go_wp2_with (go_at_call 24; refine (l1In_any _ _ _ _).mono ?_; rintro e w' ⟨he, rfl⟩; rw [hin] at he; subst he)
    go_ret
    unfold IsInt
    rw [e0.out]
    exact ⟨rfl, (by repeat (first | exact bw_refl _ | assumption | apply bw_alloc | apply bw_drew | apply bw_drewN | (refine bw_trans ?_ (by assumption)) | (refine bw_set ?_ (by simp only [go_sem]; omega) _)))⟩
theorem walk_FnExactSineFar (a : Int) (w : World) (_ : (Lit.int .i64 a).wf = true) : Calls Try.prog 3 #[.int .i64 a] w fun e w' => e = .returned (.bool true) ∧ Below w.heap.size w w' := by
  have M1 := specFar_any a
  have M2 := implFar_any a
  unfold IsInt at M1 M2
  generalize farF a = v at *
  go_enter Try.func3, Try.ntmps3
  go_wp2_with fail
  refine (M1 _).mono ?_
  rintro e w1 ⟨rfl, b1⟩
  go_wp2_with fail
  refine (M2 _).mono ?_
  rintro e w2 ⟨rfl, b2⟩
  go_wp2
  go_ret
  exact ⟨ret_bool (by simp), (by repeat (first | exact bw_refl _ | assumption | apply bw_alloc | apply bw_drew | apply bw_drewN | (refine bw_trans ?_ (by assumption)) | (refine bw_set ?_ (by simp only [go_sem]; omega) _)))⟩
end Go.Proofs.Ytdojgkjgjfclaaa
