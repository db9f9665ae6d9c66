/- Contracts of the functions on sums, and the walks of their exact laws; no condition. -/
import Derived.Test.YtmpcoljollkfjaaNum
namespace Go.Proofs.Ytmpcoljollkfjaa
open Go.RowKit
set_option linter.unusedVariables false

/-! ### SqrtRight -/
def sqrtRight (n r : Int) : Bool := inB n 0 1152921504606846976 && inB r 0 1073741824 && decide (r * r ≤ n) && decide (n < (r + 1) * (r + 1))
theorem sq_bd (r m : Int) (h0 : 0 ≤ r) (h1 : r ≤ m) : 0 ≤ r * r ∧ r * r ≤ m * m := ⟨Int.mul_nonneg h0 h0, Int.mul_le_mul h1 h1 h0 (by omega)⟩
theorem specSqrtRight_any (n r : Int) (w : World) : Calls Try.prog 15 #[.int .i64 n, .int .i64 r] w fun e w' => e = .returned (.bool (sqrtRight n r)) ∧ w = w' := by
  rcases inB_cases n 0 1152921504606846976 with ⟨hn, n0, n1⟩ | ⟨hn, nn⟩
  · rcases inB_cases r 0 1073741824 with ⟨hr, r0, r1⟩ | ⟨hr, nr⟩
    · obtain ⟨s0, s1⟩ := sq_bd r 1073741824 r0 r1
      obtain ⟨t0, t1⟩ := sq_bd (r + 1) 1073741825 (by omega) (by omega)
      unfold sqrtRight
      go_enter Try.func15, Try.ntmps15
      go_wp2_with (go_at_call 44; refine (l1In_any _ _ _ _).mono ?_; rintro e w' ⟨rfl, rfl⟩)
      all_goals (go_ret; exact ⟨ret_bool (by simp [*] <;> omega), rfl⟩)
    · unfold sqrtRight
      go_enter Try.func15, Try.ntmps15
      go_wp2_with (go_at_call 44; refine (l1In_any _ _ _ _).mono ?_; rintro e w' ⟨rfl, rfl⟩)
      all_goals (go_ret; exact ⟨ret_bool (by simp [*] <;> omega), rfl⟩)
  · unfold sqrtRight
    go_enter Try.func15, Try.ntmps15
    go_wp2_with (go_at_call 44; refine (l1In_any _ _ _ _).mono ?_; rintro e w' ⟨rfl, rfl⟩)
    all_goals (go_ret; exact ⟨ret_bool (by simp [*] <;> omega), rfl⟩)
theorem implSqrtRight_any (n r : Int) (w : World) : Calls Try.prog 16 #[.int .i64 n, .int .i64 r] w fun e w' => e = .returned (.bool (sqrtRight n r)) ∧ w = w' := by
  by_cases h1 : n < 0
  · have hs : sqrtRight n r = false := by simp [sqrtRight, inB]; omega
    go_enter Try.func16, Try.ntmps16
    go_wp2
    all_goals (go_ret; exact ⟨ret_bool (by simp [*] <;> omega), rfl⟩)
  by_cases h2 : 1152921504606846976 < n
  · have hs : sqrtRight n r = false := by simp [sqrtRight, inB]; omega
    go_enter Try.func16, Try.ntmps16
    go_wp2
    all_goals (go_ret; exact ⟨ret_bool (by simp [*] <;> omega), rfl⟩)
  by_cases h3 : r < 0
  · have hs : sqrtRight n r = false := by simp [sqrtRight, inB]; omega
    go_enter Try.func16, Try.ntmps16
    go_wp2
    all_goals (go_ret; exact ⟨ret_bool (by simp [*] <;> omega), rfl⟩)
  by_cases h4 : 1073741824 < r
  · have hs : sqrtRight n r = false := by simp [sqrtRight, inB]; omega
    go_enter Try.func16, Try.ntmps16
    go_wp2
    all_goals (go_ret; exact ⟨ret_bool (by simp [*] <;> omega), rfl⟩)
  obtain ⟨s0, s1⟩ := sq_bd r 1073741824 (by omega) (by omega)
  obtain ⟨t0, t1⟩ := sq_bd (r + 1) 1073741825 (by omega) (by omega)
  have hs : sqrtRight n r = (decide (r * r ≤ n) && decide (n < (r + 1) * (r + 1))) := by
    have e1 : inB n 0 1152921504606846976 = true := (inB_iff _ _ _).2 ⟨by omega, by omega⟩
    have e2 : inB r 0 1073741824 = true := (inB_iff _ _ _).2 ⟨by omega, by omega⟩
    simp [sqrtRight, e1, e2]
  rw [hs]
  clear hs
  go_enter Try.func16, Try.ntmps16
  go_wp2
  all_goals (go_ret; exact ⟨ret_bool (by simp [*] <;> omega), rfl⟩)
theorem walk_FnExactSqrtRight (n r : Int) (w : World) (_ : (Lit.int .i64 n).wf = true) (_ : (Lit.int .i64 r).wf = true) :
    Calls Try.prog 3 #[.int .i64 n, .int .i64 r] w fun e w' => e = .returned (.bool true) ∧ Below w.heap.size w w' := by
  go_enter Try.func3, Try.ntmps3
  go_wp2_with (first
    | (go_at_call 15; refine (specSqrtRight_any _ _ _).mono ?_; rintro e w' ⟨rfl, rfl⟩)
    | (go_at_call 16; refine (implSqrtRight_any _ _ _).mono ?_; rintro e w' ⟨rfl, rfl⟩))
  go_ret
  exact ⟨rfl, Below.refl _ _⟩

/-! ### sums -/
def cutS (x : Int) : Int := max (-1125899906842624) (min 1125899906842624 x)
theorem cutS_bd (x : Int) : -1125899906842624 ≤ cutS x ∧ cutS x ≤ 1125899906842624 := by unfold cutS; omega
theorem cutS_cases (x : Int) : (cutS x = x ∧ -1125899906842624 ≤ x ∧ x ≤ 1125899906842624) ∨ (cutS x = 1125899906842624 ∧ 1125899906842624 < x) ∨ (cutS x = -1125899906842624 ∧ x < -1125899906842624) := by
  unfold cutS; omega
def okS (v n : Int) : Bool := inB v (-1125899906842624) 1125899906842624 && inB n (-1152921504606846976) 1152921504606846976
def sumV (v n : Int) : Int := if okS v n = true then cutS (v + n) else 0
def sumL (v : Int) (l : Bool) (n : Int) : Bool := if okS v n = true then l || (cutS (v + n) != v + n) else false
theorem specSumValid_any (v : Int) (l : Bool) (w : World) : Calls Try.prog 17 #[.agg #[.int .i64 v, .bool l]] w fun e w' => e = .returned (.bool (inB v (-1125899906842624) 1125899906842624)) ∧ Below w.heap.size w w' := by
  go_enter Try.func17, Try.ntmps17
  go_wp2_with (go_at_call 44; refine (l1In_any _ _ _ _).mono ?_; rintro e w' ⟨rfl, rfl⟩)
  go_ret
  exact ⟨rfl, (by repeat (first | exact bw_refl _ | assumption | apply bw_alloc | apply bw_drew | apply bw_drewN | (refine bw_trans ?_ (by assumption)) | (refine bw_set ?_ (by simp only [go_sem]; omega) _)))⟩
theorem implSumValid_any (v : Int) (l : Bool) (w : World) : Calls Try.prog 19 #[.agg #[.int .i64 v, .bool l]] w fun e w' => e = .returned (.bool (inB v (-1125899906842624) 1125899906842624)) ∧ Below w.heap.size w w' := by
  go_enter Try.func19, Try.ntmps19
  go_wp2_with (go_at_call 45; refine (within_any _ _ (by omega) (by omega) _).mono ?_; rintro e w' ⟨rfl, rfl⟩)
  go_ret
  exact ⟨rfl, (by repeat (first | exact bw_refl _ | assumption | apply bw_alloc | apply bw_drew | apply bw_drewN | (refine bw_trans ?_ (by assumption)) | (refine bw_set ?_ (by simp only [go_sem]; omega) _)))⟩
theorem toSum_any (v : Int) (l : Bool) (w : World) : Calls Try.prog 18 #[.agg #[.int .i64 v, .bool l]] w fun e w' => e = .returned (.agg #[.int .i64 v, .bool l]) ∧ Below w.heap.size w w' := by
  go_enter Try.func18, Try.ntmps18
  go_wp2
  exact bodyPost_ret (v := .agg #[.int .i64 v, .bool l]) (by simp [results, Try.results18, go_sem]) rfl ⟨rfl, (by repeat (first | exact bw_refl _ | assumption | apply bw_alloc | apply bw_drew | apply bw_drewN | (refine bw_trans ?_ (by assumption)) | (refine bw_set ?_ (by simp only [go_sem]; omega) _)))⟩
theorem eqSum_same (v : Int) (l : Bool) (w : World) : Calls Try.prog 22 #[.agg #[.int .i64 v, .bool l], .agg #[.int .i64 v, .bool l]] w fun e w' => e = .returned (.bool true) ∧ Below w.heap.size w w' := by
  go_enter Try.func22, Try.ntmps22
  go_wp2
  go_ret
  exact ⟨rfl, (by repeat (first | exact bw_refl _ | assumption | apply bw_alloc | apply bw_drew | apply bw_drewN | (refine bw_trans ?_ (by assumption)) | (refine bw_set ?_ (by simp only [go_sem]; omega) _)))⟩
theorem walk_FnExactSumValid (v : Int) (l : Bool) (w : World) (_ : (Lit.int .i64 v).wf = true) :
    Calls Try.prog 4 #[.agg #[.int .i64 v, .bool l]] w fun e w' => e = .returned (.bool true) ∧ Below w.heap.size w w' := by
  go_enter Try.func4, Try.ntmps4
  go_wp2_with (first
    | (go_at_call 18; refine (toSum_any _ _ _).mono ?_; rintro e w1 ⟨rfl, hb⟩; (first | (have hq := bcomp hc hf hz hb; clear hc hf hz; obtain ⟨hc, hf, hz⟩ := hq) | (obtain ⟨hc, hf⟩ := bcell hb; have hz := bsize hb)))
    | (go_at_call 17; refine (specSumValid_any _ _ _).mono ?_; rintro e w1 ⟨rfl, hb⟩; (first | (have hq := bcomp hc hf hz hb; clear hc hf hz; obtain ⟨hc, hf, hz⟩ := hq) | (obtain ⟨hc, hf⟩ := bcell hb; have hz := bsize hb)))
    | (go_at_call 19; refine (implSumValid_any _ _ _).mono ?_; rintro e w1 ⟨rfl, hb⟩; (first | (have hq := bcomp hc hf hz hb; clear hc hf hz; obtain ⟨hc, hf, hz⟩ := hq) | (obtain ⟨hc, hf⟩ := bcell hb; have hz := bsize hb))))
  go_ret
  exact ⟨rfl, (by repeat (first | exact bw_refl _ | assumption | apply bw_alloc | apply bw_drew | apply bw_drewN | (refine bw_trans ?_ (by assumption)) | (refine bw_set ?_ (by simp only [go_sem]; omega) _)))⟩
theorem l21Add_ok (v : Int) (l : Bool) (n : Int) (v0 : -1125899906842624 ≤ v) (v1 : v ≤ 1125899906842624) (n0 : -1152921504606846976 ≤ n) (n1 : n ≤ 1152921504606846976) (w : World) :
    Calls Try.prog 46 #[.agg #[.int .i64 v, .bool l], .int .i64 n] w fun e w' => e = .returned (.agg #[.int .i64 (cutS (v + n)), .bool (l || (cutS (v + n) != v + n))]) ∧ Below w.heap.size w w' := by
  rcases cutS_cases (v + n) with ⟨e, h1, h2⟩ | ⟨e, h1⟩ | ⟨e, h1⟩
  all_goals
    have E := Lib.hid e
    clear e
    go_enter Try.func46, Try.ntmps46
    go_wp2
    all_goals
      refine bodyPost_ret (by simp only [results, Try.results46]; go_simp; all_goals (try exact rfl)) rfl ⟨?_, (by repeat (first | exact bw_refl _ | assumption | apply bw_alloc | apply bw_drew | apply bw_drewN | (refine bw_trans ?_ (by assumption)) | (refine bw_set ?_ (by simp only [go_sem]; omega) _)))⟩
      have e := E.out
      simp [*]
      try omega
theorem specSumAdd_any (v : Int) (l : Bool) (n : Int) (w : World) :
    Calls Try.prog 20 #[.agg #[.int .i64 v, .bool l], .int .i64 n] w fun e w' => e = .returned (.agg #[.int .i64 (sumV v n), .bool (sumL v l n)]) ∧ Below w.heap.size w w' := by
  rcases inB_cases v (-1125899906842624) 1125899906842624 with ⟨hv, v0, v1⟩ | ⟨hv, -⟩
  · rcases inB_cases n (-1152921504606846976) 1152921504606846976 with ⟨hn, n0, n1⟩ | ⟨hn, -⟩
    · have e1 : sumV v n = cutS (v + n) := by simp [sumV, okS, hv, hn]
      have e2 : sumL v l n = (l || (cutS (v + n) != v + n)) := by simp [sumL, okS, hv, hn]
      rw [e1, e2]
      clear e1 e2
      go_enter Try.func20, Try.ntmps20
      go_wp2_with (first
        | (go_at_call 17; refine (specSumValid_any _ _ _).mono ?_; rintro e w1 ⟨rfl, hb⟩; (first | (have hq := bcomp hc hf hz hb; clear hc hf hz; obtain ⟨hc, hf, hz⟩ := hq) | (obtain ⟨hc, hf⟩ := bcell hb; have hz := bsize hb)))
        | (go_at_call 44; refine (l1In_any _ _ _ _).mono ?_; rintro e w' ⟨rfl, rfl⟩)
        | (go_at_call 46; refine (l21Add_ok v l n v0 v1 n0 n1 _).mono ?_; rintro e w1 ⟨rfl, hb⟩; (first | (have hq := bcomp hc hf hz hb; clear hc hf hz; obtain ⟨hc, hf, hz⟩ := hq) | (obtain ⟨hc, hf⟩ := bcell hb; have hz := bsize hb))))
      refine bodyPost_ret (by simp only [results, Try.results20]; go_simp; all_goals (try exact rfl)) rfl ⟨rfl, (by repeat (first | exact bw_refl _ | assumption | apply bw_alloc | apply bw_drew | apply bw_drewN | (refine bw_trans ?_ (by assumption)) | (refine bw_set ?_ (by simp only [go_sem]; omega) _)))⟩
    · have e1 : sumV v n = 0 := by simp [sumV, okS, hv, hn]
      have e2 : sumL v l n = false := by simp [sumL, okS, hv, hn]
      rw [e1, e2]
      clear e1 e2
      go_enter Try.func20, Try.ntmps20
      go_wp2_with (first
        | (go_at_call 17; refine (specSumValid_any _ _ _).mono ?_; rintro e w1 ⟨rfl, hb⟩; (first | (have hq := bcomp hc hf hz hb; clear hc hf hz; obtain ⟨hc, hf, hz⟩ := hq) | (obtain ⟨hc, hf⟩ := bcell hb; have hz := bsize hb)))
        | (go_at_call 44; refine (l1In_any _ _ _ _).mono ?_; rintro e w' ⟨rfl, rfl⟩))
      refine bodyPost_ret (by simp only [results, Try.results20]; go_simp; all_goals (try exact rfl)) rfl ⟨rfl, (by repeat (first | exact bw_refl _ | assumption | apply bw_alloc | apply bw_drew | apply bw_drewN | (refine bw_trans ?_ (by assumption)) | (refine bw_set ?_ (by simp only [go_sem]; omega) _)))⟩
  · have e1 : sumV v n = 0 := by simp [sumV, okS, hv]
    have e2 : sumL v l n = false := by simp [sumL, okS, hv]
    rw [e1, e2]
    clear e1 e2
    go_enter Try.func20, Try.ntmps20
    go_wp2_with (first
      | (go_at_call 17; refine (specSumValid_any _ _ _).mono ?_; rintro e w1 ⟨rfl, hb⟩; (first | (have hq := bcomp hc hf hz hb; clear hc hf hz; obtain ⟨hc, hf, hz⟩ := hq) | (obtain ⟨hc, hf⟩ := bcell hb; have hz := bsize hb)))
      | (go_at_call 44; refine (l1In_any _ _ _ _).mono ?_; rintro e w' ⟨rfl, rfl⟩))
    refine bodyPost_ret (by simp only [results, Try.results20]; go_simp; all_goals (try exact rfl)) rfl ⟨rfl, (by repeat (first | exact bw_refl _ | assumption | apply bw_alloc | apply bw_drew | apply bw_drewN | (refine bw_trans ?_ (by assumption)) | (refine bw_set ?_ (by simp only [go_sem]; omega) _)))⟩
theorem implSumAdd_any (v : Int) (l : Bool) (n : Int) (w : World) :
    Calls Try.prog 21 #[.agg #[.int .i64 v, .bool l], .int .i64 n] w fun e w' => e = .returned (.agg #[.int .i64 (sumV v n), .bool (sumL v l n)]) ∧ Below w.heap.size w w' := by
  rcases inB_cases v (-1125899906842624) 1125899906842624 with ⟨hv, v0, v1⟩ | ⟨hv, -⟩
  · rcases inB_cases n (-1152921504606846976) 1152921504606846976 with ⟨hn, n0, n1⟩ | ⟨hn, -⟩
    · have e1 : sumV v n = cutS (v + n) := by simp [sumV, okS, hv, hn]
      have e2 : sumL v l n = (l || (cutS (v + n) != v + n)) := by simp [sumL, okS, hv, hn]
      rw [e1, e2]
      clear e1 e2
      rcases cutS_cases (v + n) with ⟨e, h1, h2⟩ | ⟨e, h1⟩ | ⟨e, h1⟩
      all_goals
        have E := Lib.hid e
        clear e
        go_enter Try.func21, Try.ntmps21
        go_wp2_with (first
          | (go_at_call 19; refine (implSumValid_any _ _ _).mono ?_; rintro e w1 ⟨rfl, hb⟩; (first | (have hq := bcomp hc hf hz hb; clear hc hf hz; obtain ⟨hc, hf, hz⟩ := hq) | (obtain ⟨hc, hf⟩ := bcell hb; have hz := bsize hb)))
          | (go_at_call 47; refine (workable_any _ _).mono ?_; rintro e w' ⟨rfl, rfl⟩))
        all_goals
          refine bodyPost_ret (by simp only [results, Try.results21]; go_simp; all_goals (try exact rfl)) rfl ⟨?_, (by repeat (first | exact bw_refl _ | assumption | apply bw_alloc | apply bw_drew | apply bw_drewN | (refine bw_trans ?_ (by assumption)) | (refine bw_set ?_ (by simp only [go_sem]; omega) _)))⟩
          have e := E.out
          simp [*]
          try omega
    · have e1 : sumV v n = 0 := by simp [sumV, okS, hv, hn]
      have e2 : sumL v l n = false := by simp [sumL, okS, hv, hn]
      rw [e1, e2]
      clear e1 e2
      go_enter Try.func21, Try.ntmps21
      go_wp2_with (first
        | (go_at_call 19; refine (implSumValid_any _ _ _).mono ?_; rintro e w1 ⟨rfl, hb⟩; (first | (have hq := bcomp hc hf hz hb; clear hc hf hz; obtain ⟨hc, hf, hz⟩ := hq) | (obtain ⟨hc, hf⟩ := bcell hb; have hz := bsize hb)))
        | (go_at_call 47; refine (workable_any _ _).mono ?_; rintro e w' ⟨rfl, rfl⟩))
      refine bodyPost_ret (by simp only [results, Try.results21]; go_simp; all_goals (try exact rfl)) rfl ⟨rfl, (by repeat (first | exact bw_refl _ | assumption | apply bw_alloc | apply bw_drew | apply bw_drewN | (refine bw_trans ?_ (by assumption)) | (refine bw_set ?_ (by simp only [go_sem]; omega) _)))⟩
  · have e1 : sumV v n = 0 := by simp [sumV, okS, hv]
    have e2 : sumL v l n = false := by simp [sumL, okS, hv]
    rw [e1, e2]
    clear e1 e2
    go_enter Try.func21, Try.ntmps21
    go_wp2_with (first
      | (go_at_call 19; refine (implSumValid_any _ _ _).mono ?_; rintro e w1 ⟨rfl, hb⟩; (first | (have hq := bcomp hc hf hz hb; clear hc hf hz; obtain ⟨hc, hf, hz⟩ := hq) | (obtain ⟨hc, hf⟩ := bcell hb; have hz := bsize hb)))
      | (go_at_call 47; refine (workable_any _ _).mono ?_; rintro e w' ⟨rfl, rfl⟩))
    refine bodyPost_ret (by simp only [results, Try.results21]; go_simp; all_goals (try exact rfl)) rfl ⟨rfl, (by repeat (first | exact bw_refl _ | assumption | apply bw_alloc | apply bw_drew | apply bw_drewN | (refine bw_trans ?_ (by assumption)) | (refine bw_set ?_ (by simp only [go_sem]; omega) _)))⟩
theorem walk_FnExactSumAdd (v : Int) (l : Bool) (n : Int) (w : World) (_ : (Lit.int .i64 v).wf = true) (_ : (Lit.int .i64 n).wf = true) :
    Calls Try.prog 5 #[.agg #[.int .i64 v, .bool l], .int .i64 n] w fun e w' => e = .returned (.bool true) ∧ Below w.heap.size w w' := by
  go_enter Try.func5, Try.ntmps5
  go_wp2_with (first
    | (go_at_call 18; refine (toSum_any _ _ _).mono ?_; rintro e w1 ⟨rfl, hb⟩; (first | (have hq := bcomp hc hf hz hb; clear hc hf hz; obtain ⟨hc, hf, hz⟩ := hq) | (obtain ⟨hc, hf⟩ := bcell hb; have hz := bsize hb)))
    | (go_at_call 20; refine (specSumAdd_any _ _ _ _).mono ?_; rintro e w1 ⟨rfl, hb⟩; (first | (have hq := bcomp hc hf hz hb; clear hc hf hz; obtain ⟨hc, hf, hz⟩ := hq) | (obtain ⟨hc, hf⟩ := bcell hb; have hz := bsize hb)))
    | (go_at_call 21; refine (implSumAdd_any _ _ _ _).mono ?_; rintro e w1 ⟨rfl, hb⟩; (first | (have hq := bcomp hc hf hz hb; clear hc hf hz; obtain ⟨hc, hf, hz⟩ := hq) | (obtain ⟨hc, hf⟩ := bcell hb; have hz := bsize hb)))
    | (go_at_call 22; refine (eqSum_same _ _ _).mono ?_; rintro e w1 ⟨rfl, hb⟩; (first | (have hq := bcomp hc hf hz hb; clear hc hf hz; obtain ⟨hc, hf, hz⟩ := hq) | (obtain ⟨hc, hf⟩ := bcell hb; have hz := bsize hb))))
  go_ret
  exact ⟨rfl, (by repeat (first | exact bw_refl _ | assumption | apply bw_alloc | apply bw_drew | apply bw_drewN | (refine bw_trans ?_ (by assumption)) | (refine bw_set ?_ (by simp only [go_sem]; omega) _)))⟩
end Go.Proofs.Ytmpcoljollkfjaa
