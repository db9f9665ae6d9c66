/- Contracts of the functions on spans: validity, products; conditions: valid spans. -/
import Derived.Test.YtndpmcegealhiaaNum
namespace Go.Proofs.Ytndpmcegealhiaa
open Go.RowKit
set_option linter.unusedVariables false
set_option linter.unusedSimpArgs false
set_option maxHeartbeats 2000000

def spOk (L H : Int) : Bool := inB L (-1073741824) 1073741824 && inB H (-1073741824) 1073741824 && decide (L ≤ H)
theorem spOk_iff (L H : Int) : spOk L H = true ↔ (-1073741824 ≤ L ∧ L ≤ 1073741824) ∧ (-1073741824 ≤ H ∧ H ≤ 1073741824) ∧ L ≤ H := by
  unfold spOk; rw [Bool.and_eq_true, Bool.and_eq_true, inB_iff, inB_iff, decide_eq_true_eq]; exact ⟨fun ⟨⟨a, b⟩, c⟩ => ⟨a, b, c⟩, fun ⟨a, b, c⟩ => ⟨⟨a, b⟩, c⟩⟩
def cdiv (a b : Int) : Int := -((-a) / b)
theorem cdiv_bd (a b m : Int) (hb : 0 < b) (h0 : -m ≤ a) (h1 : a ≤ m) (hm : 0 ≤ m) : -m ≤ cdiv a b ∧ cdiv a b ≤ m := by
  have := ediv_bd (-a) b m hb (by omega) (by omega) hm
  unfold cdiv; omega
def chkL (L H : Int) : Int := if spOk L H = true then L else 0
def chkH (L H : Int) : Int := if spOk L H = true then H else 0
theorem specSpanValid_any (L H : Int) (w : World) : Calls Try.prog 72 #[.agg #[.int .i64 L, .int .i64 H]] w fun e w' => e = .returned (.bool (spOk L H)) ∧ Below w.heap.size w w' := by
  have e0 : spOk L H = (inB L (-1073741824) 1073741824 && inB H (-1073741824) 1073741824 && decide (L ≤ H)) := rfl
  rw [e0]
  clear e0
  cases hL : inB L (-1073741824) 1073741824
  · go_enter Try.func72, Try.ntmps72
    go_wp2_with (go_at_call 27; refine (l1In_any _ _ _ _).mono ?_; rintro e w' ⟨rfl, rfl⟩)
    go_ret
    exact ⟨ret_bool (by simp), (by repeat (first | exact bw_refl _ | assumption | apply bw_alloc | apply bw_drew | apply bw_drewN | (refine bw_trans ?_ (by assumption)) | (refine bw_set ?_ (by simp only [go_sem]; omega) _)))⟩
  · cases hH : inB H (-1073741824) 1073741824
    all_goals
      go_enter Try.func72, Try.ntmps72
      go_wp2_with (go_at_call 27; refine (l1In_any _ _ _ _).mono ?_; rintro e w' ⟨rfl, rfl⟩)
      go_ret
      exact ⟨ret_bool (by simp), (by repeat (first | exact bw_refl _ | assumption | apply bw_alloc | apply bw_drew | apply bw_drewN | (refine bw_trans ?_ (by assumption)) | (refine bw_set ?_ (by simp only [go_sem]; omega) _)))⟩
theorem implSpanValid_any (L H : Int) (w : World) : Calls Try.prog 64 #[.agg #[.int .i64 L, .int .i64 H]] w fun e w' => e = .returned (.bool (spOk L H)) ∧ Below w.heap.size w w' := by
  have e0 : spOk L H = (inB L (-1073741824) 1073741824 && inB H (-1073741824) 1073741824 && decide (L ≤ H)) := rfl
  rw [e0]
  clear e0
  cases hL : inB L (-1073741824) 1073741824
  · go_enter Try.func64, Try.ntmps64
    go_wp2_with (go_at_call 41; refine (within_any _ _ (by omega) (by omega) _).mono ?_; rintro e w' ⟨rfl, rfl⟩)
    go_ret
    exact ⟨ret_bool (by simp), (by repeat (first | exact bw_refl _ | assumption | apply bw_alloc | apply bw_drew | apply bw_drewN | (refine bw_trans ?_ (by assumption)) | (refine bw_set ?_ (by simp only [go_sem]; omega) _)))⟩
  · cases hH : inB H (-1073741824) 1073741824
    all_goals
      go_enter Try.func64, Try.ntmps64
      go_wp2_with (go_at_call 41; refine (within_any _ _ (by omega) (by omega) _).mono ?_; rintro e w' ⟨rfl, rfl⟩)
      go_ret
      exact ⟨ret_bool (by simp), (by repeat (first | exact bw_refl _ | assumption | apply bw_alloc | apply bw_drew | apply bw_drewN | (refine bw_trans ?_ (by assumption)) | (refine bw_set ?_ (by simp only [go_sem]; omega) _)))⟩
theorem implCeilDiv_ok (a b : Int) (hb : 0 < b) (hb2 : b ≤ 1152921504606846976) (h0 : -1152921504606846976 ≤ a) (h1 : a ≤ 1152921504606846976) (w : World) :
    Calls Try.prog 66 #[.int .i64 a, .int .i64 b] w fun e w' => e = .returned (.int .i64 (cdiv a b)) ∧ w = w' := by
  obtain ⟨q0, q1⟩ := ediv_bd (-a) b 1152921504606846976 hb (by omega) (by omega) (by omega)
  go_enter Try.func66, Try.ntmps66
  go_wp2_with (go_at_call 65; refine (implFloorDiv_ok (-a) b hb hb2 (by omega) (by omega) _).mono ?_; rintro e w' ⟨rfl, rfl⟩)
  go_ret
  exact ⟨rfl, rfl⟩
theorem l7Ceil_ok (a b : Int) (hb : 0 < b) (hb2 : b ≤ 4611686018427387904) (h0 : -4611686018427387904 ≤ a) (h1 : a ≤ 4611686018427387904) (w : World) :
    Calls Try.prog 74 #[.int .i64 a, .int .i64 b] w fun e w' => e = .returned (.int .i64 (cdiv a b)) ∧ w = w' := by
  obtain ⟨q0, q1⟩ := ediv_bd (-a) b 4611686018427387904 hb (by omega) (by omega) (by omega)
  go_enter Try.func74, Try.ntmps74
  go_wp2_with (go_at_call 42; refine (l1Floor_any (-a) b hb hb2 (by omega) (by omega) _).mono ?_; rintro e w' ⟨rfl, rfl⟩)
  go_ret
  exact ⟨rfl, rfl⟩
theorem checked_any (L H : Int) (w : World) : Calls Try.prog 67 #[.agg #[.int .i64 L, .int .i64 H]] w fun e w' => e = .returned (.tuple #[.agg #[.int .i64 (chkL L H), .int .i64 (chkH L H)], .bool (spOk L H)]) ∧ Below w.heap.size w w' := by
  cases ho : spOk L H
  · have E : Hid (chkL L H = 0 ∧ chkH L H = 0) := by unfold Hid chkL chkH; rw [ho]; exact ⟨rfl, rfl⟩
    go_enter Try.func67, Try.ntmps67
    go_wp2_with (go_at_call 64; refine (implSpanValid_any _ _ _).mono ?_; rintro e w1 ⟨he, hb⟩; rw [ho] at he; subst he; (first | (have hq := bcomp hc hf hz hb; clear hc hf hz; obtain ⟨hc, hf, hz⟩ := hq) | (obtain ⟨hc, hf⟩ := bcell hb; have hz := bsize hb)))
    rw [E.out.1, E.out.2]
    refine bodyPost_ret (by simp only [results, Try.results67]; go_simp; all_goals (first | exact rfl | exact ⟨rfl, rfl⟩ | skip)) rfl ⟨rfl, (by repeat (first | exact bw_refl _ | assumption | apply bw_alloc | apply bw_drew | apply bw_drewN | (refine bw_trans ?_ (by assumption)) | (refine bw_set ?_ (by simp only [go_sem]; omega) _)))⟩
  · have E : Hid (chkL L H = L ∧ chkH L H = H) := by unfold Hid chkL chkH; rw [ho]; exact ⟨rfl, rfl⟩
    go_enter Try.func67, Try.ntmps67
    go_wp2_with (go_at_call 64; refine (implSpanValid_any _ _ _).mono ?_; rintro e w1 ⟨he, hb⟩; rw [ho] at he; subst he; (first | (have hq := bcomp hc hf hz hb; clear hc hf hz; obtain ⟨hc, hf, hz⟩ := hq) | (obtain ⟨hc, hf⟩ := bcell hb; have hz := bsize hb)))
    rw [E.out.1, E.out.2]
    refine bodyPost_ret (by simp only [results, Try.results67]; go_simp; all_goals (first | exact rfl | exact ⟨rfl, rfl⟩ | skip)) rfl ⟨rfl, (by repeat (first | exact bw_refl _ | assumption | apply bw_alloc | apply bw_drew | apply bw_drewN | (refine bw_trans ?_ (by assumption)) | (refine bw_set ?_ (by simp only [go_sem]; omega) _)))⟩
theorem l7Good_any (L H : Int) (w : World) : Calls Try.prog 73 #[.agg #[.int .i64 L, .int .i64 H]] w fun e w' => e = .returned (.tuple #[.agg #[.int .i64 (chkL L H), .int .i64 (chkH L H)], .bool (spOk L H)]) ∧ Below w.heap.size w w' := by
  cases ho : spOk L H
  · have E : Hid (chkL L H = 0 ∧ chkH L H = 0) := by unfold Hid chkL chkH; rw [ho]; exact ⟨rfl, rfl⟩
    go_enter Try.func73, Try.ntmps73
    go_wp2_with (go_at_call 72; refine (specSpanValid_any _ _ _).mono ?_; rintro e w1 ⟨he, hb⟩; rw [ho] at he; subst he; (first | (have hq := bcomp hc hf hz hb; clear hc hf hz; obtain ⟨hc, hf, hz⟩ := hq) | (obtain ⟨hc, hf⟩ := bcell hb; have hz := bsize hb)))
    rw [E.out.1, E.out.2]
    refine bodyPost_ret (by simp only [results, Try.results73]; go_simp; all_goals (first | exact rfl | exact ⟨rfl, rfl⟩ | skip)) rfl ⟨rfl, (by repeat (first | exact bw_refl _ | assumption | apply bw_alloc | apply bw_drew | apply bw_drewN | (refine bw_trans ?_ (by assumption)) | (refine bw_set ?_ (by simp only [go_sem]; omega) _)))⟩
  · have E : Hid (chkL L H = L ∧ chkH L H = H) := by unfold Hid chkL chkH; rw [ho]; exact ⟨rfl, rfl⟩
    go_enter Try.func73, Try.ntmps73
    go_wp2_with (go_at_call 72; refine (specSpanValid_any _ _ _).mono ?_; rintro e w1 ⟨he, hb⟩; rw [ho] at he; subst he; (first | (have hq := bcomp hc hf hz hb; clear hc hf hz; obtain ⟨hc, hf, hz⟩ := hq) | (obtain ⟨hc, hf⟩ := bcell hb; have hz := bsize hb)))
    rw [E.out.1, E.out.2]
    refine bodyPost_ret (by simp only [results, Try.results73]; go_simp; all_goals (first | exact rfl | exact ⟨rfl, rfl⟩ | skip)) rfl ⟨rfl, (by repeat (first | exact bw_refl _ | assumption | apply bw_alloc | apply bw_drew | apply bw_drewN | (refine bw_trans ?_ (by assumption)) | (refine bw_set ?_ (by simp only [go_sem]; omega) _)))⟩
end Go.Proofs.Ytndpmcegealhiaa
