/- Contracts of the products of spans; conditions: valid spans. -/
import Derived.Test.YtndpmcegealhiaaSpan
namespace Go.Proofs.Ytndpmcegealhiaa
open Go.RowKit
set_option linter.unusedVariables false
set_option linter.unusedSimpArgs false
set_option maxHeartbeats 2000000

theorem bw_undrewN {W w2 : World} {n : Nat} (hb : Below (W.drewN n).heap.size (W.drewN n) w2) : Below W.heap.size W w2 := bw_trans (by apply bw_drewN; exact bw_refl _) hb
theorem mul_bd30 (a c : Int) (a0 : -1073741824 ≤ a) (a1 : a ≤ 1073741824) (c0 : -1073741824 ≤ c) (c1 : c ≤ 1073741824) : -1152921504606846976 ≤ a * c ∧ a * c ≤ 1152921504606846976 := by
  have h := Int.natAbs_mul a c
  have h1 : a.natAbs ≤ 1073741824 := by omega
  have h2 : c.natAbs ≤ 1073741824 := by omega
  have h3 : a.natAbs * c.natAbs ≤ 1073741824 * 1073741824 := Nat.mul_le_mul h1 h2
  omega
def mn4 (p q r s : Int) : Int := min (min (min p q) r) s
def mx4 (p q r s : Int) : Int := max (max (max p q) r) s
theorem run_min4 (p q r s : Int) (ts : Array TypeId) (t : TypeId) (W : World) : (Builtin.min_ ts t #[.int .i64 p, .int .i64 q, .int .i64 r, .int .i64 s]).run Try.prog W = .ok (.int .i64 (mn4 p q r s)) W := by
  have e : ∀ x y : Int, (if y < x then y else x) = min x y := fun x y => by split <;> omega
  simp [Builtin.min_, Builtin.min2, e, mn4]
theorem run_max4 (p q r s : Int) (ts : Array TypeId) (t : TypeId) (W : World) : (Builtin.max_ ts t #[.int .i64 p, .int .i64 q, .int .i64 r, .int .i64 s]).run Try.prog W = .ok (.int .i64 (mx4 p q r s)) W := by
  have e : ∀ x y : Int, (if x < y then y else x) = max x y := fun x y => by split <;> omega
  simp [Builtin.max_, Builtin.max2, e, mx4]
def mulL (a b c d : Int) : Int := mn4 (a * c) (a * d) (b * c) (b * d) / 268435456
def mulH (a b c d : Int) : Int := cdiv (mx4 (a * c) (a * d) (b * c) (b * d)) 268435456
theorem specSpanMul_ok (a b c d : Int) (h1 : spOk a b = true) (h2 : spOk c d = true) (w : World) : Calls Try.prog 75 #[.agg #[.int .i64 a, .int .i64 b], .agg #[.int .i64 c, .int .i64 d]] w fun e w' =>
    e = .returned (.tuple #[.agg #[.int .i64 (chkL (mulL a b c d) (mulH a b c d)), .int .i64 (chkH (mulL a b c d) (mulH a b c d))], .bool (spOk (mulL a b c d) (mulH a b c d))]) ∧ Below w.heap.size w w' := by
  obtain ⟨⟨a0, a1⟩, ⟨b0, b1⟩, ab⟩ := (spOk_iff a b).1 h1
  obtain ⟨⟨c0, c1⟩, ⟨d0, d1⟩, cd⟩ := (spOk_iff c d).1 h2
  obtain ⟨p, hp⟩ : ∃ x, a * c = x := ⟨_, rfl⟩
  obtain ⟨q, hq⟩ : ∃ x, a * d = x := ⟨_, rfl⟩
  obtain ⟨r, hr⟩ : ∃ x, b * c = x := ⟨_, rfl⟩
  obtain ⟨s, hs⟩ : ∃ x, b * d = x := ⟨_, rfl⟩
  have k1 := mul_bd30 a c a0 a1 c0 c1
  have k2 := mul_bd30 a d a0 a1 d0 d1
  have k3 := mul_bd30 b c b0 b1 c0 c1
  have k4 := mul_bd30 b d b0 b1 d0 d1
  rw [hp] at k1; rw [hq] at k2; rw [hr] at k3; rw [hs] at k4
  have eL : mulL a b c d = mn4 p q r s / 268435456 := by unfold mulL; rw [hp, hq, hr, hs]
  have eH : mulH a b c d = cdiv (mx4 p q r s) 268435456 := by unfold mulH; rw [hp, hq, hr, hs]
  rw [eL, eH]
  clear eL eH
  have x1 : IntKind.i64.wrap p = p := IntWalk.i64_in _ (by omega)
  have x2 : IntKind.i64.wrap q = q := IntWalk.i64_in _ (by omega)
  have x3 : IntKind.i64.wrap r = r := IntWalk.i64_in _ (by omega)
  have x4 : IntKind.i64.wrap s = s := IntWalk.i64_in _ (by omega)
  have m0 : -1152921504606846976 ≤ mn4 p q r s ∧ mn4 p q r s ≤ 1152921504606846976 := by unfold mn4; omega
  have m1 : -1152921504606846976 ≤ mx4 p q r s ∧ mx4 p q r s ≤ 1152921504606846976 := by unfold mx4; omega
  have r4 := run_min4 p q r s
  have r5 := run_max4 p q r s
  obtain ⟨u, hu⟩ : ∃ x, mn4 p q r s = x := ⟨_, rfl⟩
  obtain ⟨v, hv⟩ : ∃ x, mx4 p q r s = x := ⟨_, rfl⟩
  rw [hu] at m0 r4 ⊢
  rw [hv] at m1 r5 ⊢
  clear hu hv
  have M0 := Lib.hid m0
  have M1 := Lib.hid m1
  clear a0 a1 b0 b1 c0 c1 d0 d1 ab cd k1 k2 k3 k4 m0 m1
  go_enter Try.func75, Try.ntmps75
  go_wp2_with (first
    | (go_at_call 72; (with_reducible refine (specSpanValid_any a b _).mono ?_); rintro e w1 ⟨he, hb⟩; rw [h1] at he; subst he; (first | (have hq := bcomp hc hf hz hb; clear hc hf hz; obtain ⟨hc, hf, hz⟩ := hq) | (obtain ⟨hc, hf⟩ := bcell hb; have hz := bsize hb)))
    | (go_at_call 72; (with_reducible refine (specSpanValid_any c d _).mono ?_); rintro e w1 ⟨he, hb⟩; rw [h2] at he; subst he; (first | (have hq := bcomp hc hf hz hb; clear hc hf hz; obtain ⟨hc, hf, hz⟩ := hq) | (obtain ⟨hc, hf⟩ := bcell hb; have hz := bsize hb)))
    | (go_at_call 42; (with_reducible refine (l1Floor_any _ _ (by decide) (by decide) (by have := M0.out; omega) (by have := M0.out; omega) _).mono ?_); rintro e w1 ⟨rfl, rfl⟩)
    | (go_at_call 74; (with_reducible refine (l7Ceil_ok _ _ (by decide) (by decide) (by have := M1.out; omega) (by have := M1.out; omega) _).mono ?_); rintro e w1 ⟨rfl, rfl⟩)
    | (go_at_call 73; (with_reducible refine (l7Good_any _ _ _).mono ?_); rintro e w1 ⟨rfl, hb⟩; (first | (have hq := bcomp hc hf hz hb; clear hc hf hz; obtain ⟨hc, hf, hz⟩ := hq) | (obtain ⟨hc, hf⟩ := bcell hb; have hz := bsize hb))))
  refine bodyPost_ret (by simp only [results, Try.results75]; go_simp; all_goals (first | exact rfl | exact ⟨rfl, rfl⟩ | skip)) rfl ⟨rfl, (by repeat (first | exact bw_refl _ | assumption | apply bw_alloc | apply bw_drew | apply bw_drewN | (refine bw_trans ?_ (by assumption)) | (refine bw_set ?_ (by simp only [go_sem]; omega) _)))⟩
theorem implSpanMul_ok (a b c d : Int) (h1 : spOk a b = true) (h2 : spOk c d = true) (w : World) : Calls Try.prog 68 #[.agg #[.int .i64 a, .int .i64 b], .agg #[.int .i64 c, .int .i64 d]] w fun e w' =>
    e = .returned (.tuple #[.agg #[.int .i64 (chkL (mulL a b c d) (mulH a b c d)), .int .i64 (chkH (mulL a b c d) (mulH a b c d))], .bool (spOk (mulL a b c d) (mulH a b c d))]) ∧ Below w.heap.size w w' := by
  obtain ⟨⟨a0, a1⟩, ⟨b0, b1⟩, ab⟩ := (spOk_iff a b).1 h1
  obtain ⟨⟨c0, c1⟩, ⟨d0, d1⟩, cd⟩ := (spOk_iff c d).1 h2
  obtain ⟨p, hp⟩ : ∃ x, a * c = x := ⟨_, rfl⟩
  obtain ⟨q, hq⟩ : ∃ x, a * d = x := ⟨_, rfl⟩
  obtain ⟨r, hr⟩ : ∃ x, b * c = x := ⟨_, rfl⟩
  obtain ⟨s, hs⟩ : ∃ x, b * d = x := ⟨_, rfl⟩
  have k1 := mul_bd30 a c a0 a1 c0 c1
  have k2 := mul_bd30 a d a0 a1 d0 d1
  have k3 := mul_bd30 b c b0 b1 c0 c1
  have k4 := mul_bd30 b d b0 b1 d0 d1
  rw [hp] at k1; rw [hq] at k2; rw [hr] at k3; rw [hs] at k4
  have eL : mulL a b c d = mn4 p q r s / 268435456 := by unfold mulL; rw [hp, hq, hr, hs]
  have eH : mulH a b c d = cdiv (mx4 p q r s) 268435456 := by unfold mulH; rw [hp, hq, hr, hs]
  rw [eL, eH]
  clear eL eH
  have x1 : IntKind.i64.wrap p = p := IntWalk.i64_in _ (by omega)
  have x2 : IntKind.i64.wrap q = q := IntWalk.i64_in _ (by omega)
  have x3 : IntKind.i64.wrap r = r := IntWalk.i64_in _ (by omega)
  have x4 : IntKind.i64.wrap s = s := IntWalk.i64_in _ (by omega)
  have m0 : -1152921504606846976 ≤ mn4 p q r s ∧ mn4 p q r s ≤ 1152921504606846976 := by unfold mn4; omega
  have m1 : -1152921504606846976 ≤ mx4 p q r s ∧ mx4 p q r s ≤ 1152921504606846976 := by unfold mx4; omega
  have r4 := run_min4 p q r s
  have r5 := run_max4 p q r s
  obtain ⟨u, hu⟩ : ∃ x, mn4 p q r s = x := ⟨_, rfl⟩
  obtain ⟨v, hv⟩ : ∃ x, mx4 p q r s = x := ⟨_, rfl⟩
  rw [hu] at m0 r4 ⊢
  rw [hv] at m1 r5 ⊢
  clear hu hv
  have M0 := Lib.hid m0
  have M1 := Lib.hid m1
  clear a0 a1 b0 b1 c0 c1 d0 d1 ab cd k1 k2 k3 k4 m0 m1
  go_enter Try.func68, Try.ntmps68
  go_upto_region 3 with (first
    | (go_at_call 64; (with_reducible refine (implSpanValid_any a b _).mono ?_); rintro e w1 ⟨he, hb⟩; rw [h1] at he; subst he; (first | (have hq := bcomp hc hf hz hb; clear hc hf hz; obtain ⟨hc, hf, hz⟩ := hq) | (obtain ⟨hc, hf⟩ := bcell hb; have hz := bsize hb)))
    | (go_at_call 64; (with_reducible refine (implSpanValid_any c d _).mono ?_); rintro e w1 ⟨he, hb⟩; rw [h2] at he; subst he; (first | (have hq := bcomp hc hf hz hb; clear hc hf hz; obtain ⟨hc, hf, hz⟩ := hq) | (obtain ⟨hc, hf⟩ := bcell hb; have hz := bsize hb))))
  go_quiet (fail)
  go_wp2_with (first
    | (go_at_call 65; (with_reducible refine (implFloorDiv_ok _ _ (by decide) (by decide) (by have := M0.out; omega) (by have := M0.out; omega) _).mono ?_); rintro e w1 ⟨rfl, rfl⟩)
    | (go_at_call 66; (with_reducible refine (implCeilDiv_ok _ _ (by decide) (by decide) (by have := M1.out; omega) (by have := M1.out; omega) _).mono ?_); rintro e w1 ⟨rfl, rfl⟩)
    | (go_at_call 67; (with_reducible refine (checked_any _ _ _).mono ?_); rintro e w1 ⟨rfl, hb⟩; have hb := bw_undrewN hb; (first | (have hq := bcomp hc hf hz hb; clear hc hf hz; obtain ⟨hc, hf, hz⟩ := hq) | (obtain ⟨hc, hf⟩ := bcell hb; have hz := bsize hb))))
  refine bodyPost_ret (by simp only [results, Try.results68]; go_simp; all_goals (first | exact rfl | exact ⟨rfl, rfl⟩ | skip)) rfl ⟨rfl, (by repeat (first | exact bw_refl _ | assumption | apply bw_alloc | apply bw_drew | apply bw_drewN | (refine bw_trans ?_ (by assumption)) | (refine bw_set ?_ (by simp only [go_sem]; omega) _)))⟩
end Go.Proofs.Ytndpmcegealhiaa
