/- The walks of the laws ExactSineSpan and ExactCosineSpan; no condition. -/
import Derived.Test.YtdojgkjgjfclaaaSinI
namespace Go.Proofs.Ytdojgkjgjfclaaa
open Go.RowKit
set_option linter.unusedVariables false
set_option linter.unusedSimpArgs false
set_option maxHeartbeats 1000000

theorem eqSpan_any (x y u v : Int) (w : World) : Calls Try.prog 15 #[.agg #[.int .i64 x, .int .i64 y], .agg #[.int .i64 u, .int .i64 v]] w fun e w' => e = .returned (.bool (x == u && y == v)) ∧ Below w.heap.size w w' := by
  by_cases h1 : x = u
  · subst h1
    by_cases h2 : y = v
    · subst h2
      go_enter Try.func15, Try.ntmps15
      go_wp2
      go_ret
      exact ⟨ret_bool (by simp), (by repeat (first | exact bw_refl _ | assumption | apply bw_alloc | apply bw_drew | apply bw_drewN | (refine bw_trans ?_ (by assumption)) | (refine bw_set ?_ (by simp only [go_sem]; omega) _)))⟩
    · have h3 : (y != v) = true := bne_iff_ne.2 h2
      go_enter Try.func15, Try.ntmps15
      go_wp2
      go_ret
      exact ⟨ret_bool (by simp [h2]), (by repeat (first | exact bw_refl _ | assumption | apply bw_alloc | apply bw_drew | apply bw_drewN | (refine bw_trans ?_ (by assumption)) | (refine bw_set ?_ (by simp only [go_sem]; omega) _)))⟩
  · have h3 : (x != u) = true := bne_iff_ne.2 h1
    go_enter Try.func15, Try.ntmps15
    go_wp2
    go_ret
    exact ⟨ret_bool (by simp [h1]), (by repeat (first | exact bw_refl _ | assumption | apply bw_alloc | apply bw_drew | apply bw_drewN | (refine bw_trans ?_ (by assumption)) | (refine bw_set ?_ (by simp only [go_sem]; omega) _)))⟩
/-- The result is the span of X and Y. -/
def IsSp (X Y : Int) (w : World) (e : Ending) (w' : World) : Prop := e = .returned (.agg #[.int .i64 X, .int .i64 Y]) ∧ Below w.heap.size w w'
theorem specSineSpan_no (a : Int) (h : ¬ (0 ≤ a ∧ a ≤ 8192)) (w : World) : Calls Try.prog 16 #[.int .i64 a] w (IsSp 0 0 w) := by
  have hin : inB a 0 8192 = false := by rw [inB_no]; exact h
  have HN := Lib.hid h
  clear h
  go_enter Try.func16, Try.ntmps16
  go_wp2_with (go_at_call 24; refine (l1In_any _ _ _ _).mono ?_; rintro e w' ⟨he, rfl⟩; rw [hin] at he; subst he)
  unfold IsSp
  refine bodyPost_ret (by simp only [results, Try.results16]; go_simp; all_goals (first | exact rfl | exact ⟨rfl, rfl⟩ | skip)) rfl ⟨rfl, (by repeat (first | exact bw_refl _ | assumption | apply bw_alloc | apply bw_drew | apply bw_drewN | (refine bw_trans ?_ (by assumption)) | (refine bw_set ?_ (by simp only [go_sem]; omega) _)))⟩
theorem implSineSpan_no (a : Int) (h : ¬ (0 ≤ a ∧ a ≤ 8192)) (w : World) : Calls Try.prog 17 #[.int .i64 a] w (IsSp 0 0 w) := by
  by_cases h0 : a < 0
  · clear h
    go_enter Try.func17, Try.ntmps17
    go_wp2
    unfold IsSp
    refine bodyPost_ret (by simp only [results, Try.results17]; go_simp; all_goals (first | exact rfl | exact ⟨rfl, rfl⟩ | skip)) rfl ⟨rfl, (by repeat (first | exact bw_refl _ | assumption | apply bw_alloc | apply bw_drew | apply bw_drewN | (refine bw_trans ?_ (by assumption)) | (refine bw_set ?_ (by simp only [go_sem]; omega) _)))⟩
  · have h1 : 8192 < a := by omega
    clear h
    go_enter Try.func17, Try.ntmps17
    go_wp2
    unfold IsSp
    refine bodyPost_ret (by simp only [results, Try.results17]; go_simp; all_goals (first | exact rfl | exact ⟨rfl, rfl⟩ | skip)) rfl ⟨rfl, (by repeat (first | exact bw_refl _ | assumption | apply bw_alloc | apply bw_drew | apply bw_drewN | (refine bw_trans ?_ (by assumption)) | (refine bw_set ?_ (by simp only [go_sem]; omega) _)))⟩
theorem sine_both (a : Int) : ∃ X Y : Int, (∀ w, Calls Try.prog 16 #[.int .i64 a] w (IsSp X Y w)) ∧ (∀ w, Calls Try.prog 17 #[.int .i64 a] w (IsSp X Y w)) ∧ (0 ≤ a ∧ a ≤ 8192 → X = sinLow a ∧ Y = sinHigh a) ∧ (¬ (0 ≤ a ∧ a ≤ 8192) → X = 0 ∧ Y = 0) := by
  by_cases h : 0 ≤ a ∧ a ≤ 8192
  · exact ⟨sinLow a, sinHigh a, fun w => specSineSpan_ok a h.1 h.2 w, fun w => implSineSpan_ok a h.1 h.2 w, fun _ => ⟨rfl, rfl⟩, fun h2 => absurd h h2⟩
  · exact ⟨0, 0, fun w => specSineSpan_no a h w, fun w => implSineSpan_no a h w, fun h2 => absurd h2 h, fun _ => ⟨rfl, rfl⟩⟩
theorem walk_FnExactSineSpan (a : Int) (w : World) (_ : (Lit.int .i64 a).wf = true) : Calls Try.prog 6 #[.int .i64 a] w fun e w' => e = .returned (.bool true) ∧ Below w.heap.size w w' := by
  obtain ⟨X, Y, hS, hI, -, -⟩ := sine_both a
  have hxx : (X == X && Y == Y) = true := by simp
  have HX := Lib.hid hxx
  clear hxx
  go_enter Try.func6, Try.ntmps6
  go_wp2_with fail
  refine (hS _).mono ?_
  rintro e w1 ⟨rfl, hb⟩
  have l1 := Blk.new w1 29 #[.int .i64 X, .int .i64 Y]
  have z1 := l1.lt
  go_wp2_with fail
  refine (hI _).mono ?_
  rintro e w2 ⟨rfl, hb2⟩
  replace l1 := (l1.up hb2).alloc (.cells #[.int .i64 X, .int .i64 Y] 29)
  have b2 : Below w.heap.size w w2 := (by repeat (first | exact bw_refl _ | assumption | apply bw_alloc | apply bw_drew | apply bw_drewN | (refine bw_trans ?_ (by assumption)) | (refine bw_set ?_ (by simp only [go_sem]; omega) _)))
  clear hb hb2 z1
  obtain ⟨g0, g1, -, -⟩ := l1.rd2
  have z1 := l1.lt
  go_wp2_with fail
  refine (eqSpan_any X Y X Y _).mono ?_
  rintro e w3 ⟨he, hb3⟩
  rw [HX.out] at he
  subst he
  go_wp2
  go_ret
  exact ⟨rfl, (by repeat (first | exact bw_refl _ | assumption | apply bw_alloc | apply bw_drew | apply bw_drewN | (refine bw_trans ?_ (by assumption)) | (refine bw_set ?_ (by simp only [go_sem]; omega) _)))⟩
theorem specCosineSpan_no (a : Int) (h : ¬ (0 ≤ a ∧ a ≤ 8192)) (w : World) : Calls Try.prog 13 #[.int .i64 a] w (IsSp 0 0 w) := by
  have hin : inB a 0 8192 = false := by rw [inB_no]; exact h
  have HN := Lib.hid h
  clear h
  go_enter Try.func13, Try.ntmps13
  go_wp2_with (go_at_call 24; refine (l1In_any _ _ _ _).mono ?_; rintro e w' ⟨he, rfl⟩; rw [hin] at he; subst he)
  unfold IsSp
  refine bodyPost_ret (by simp only [results, Try.results13]; go_simp; all_goals (first | exact rfl | exact ⟨rfl, rfl⟩ | skip)) rfl ⟨rfl, (by repeat (first | exact bw_refl _ | assumption | apply bw_alloc | apply bw_drew | apply bw_drewN | (refine bw_trans ?_ (by assumption)) | (refine bw_set ?_ (by simp only [go_sem]; omega) _)))⟩
theorem implCosineSpan_no (a : Int) (h : ¬ (0 ≤ a ∧ a ≤ 8192)) (w : World) : Calls Try.prog 14 #[.int .i64 a] w (IsSp 0 0 w) := by
  by_cases h0 : a < 0
  · clear h
    go_enter Try.func14, Try.ntmps14
    go_wp2
    unfold IsSp
    refine bodyPost_ret (by simp only [results, Try.results14]; go_simp; all_goals (first | exact rfl | exact ⟨rfl, rfl⟩ | skip)) rfl ⟨rfl, (by repeat (first | exact bw_refl _ | assumption | apply bw_alloc | apply bw_drew | apply bw_drewN | (refine bw_trans ?_ (by assumption)) | (refine bw_set ?_ (by simp only [go_sem]; omega) _)))⟩
  · have h1 : 8192 < a := by omega
    clear h
    go_enter Try.func14, Try.ntmps14
    go_wp2
    unfold IsSp
    refine bodyPost_ret (by simp only [results, Try.results14]; go_simp; all_goals (first | exact rfl | exact ⟨rfl, rfl⟩ | skip)) rfl ⟨rfl, (by repeat (first | exact bw_refl _ | assumption | apply bw_alloc | apply bw_drew | apply bw_drewN | (refine bw_trans ?_ (by assumption)) | (refine bw_set ?_ (by simp only [go_sem]; omega) _)))⟩
theorem cosine_both (a : Int) : ∃ X Y : Int, (∀ w, Calls Try.prog 13 #[.int .i64 a] w (IsSp X Y w)) ∧ (∀ w, Calls Try.prog 14 #[.int .i64 a] w (IsSp X Y w)) ∧ (0 ≤ a ∧ a ≤ 8192 → X = cosLow a ∧ Y = cosHigh a) ∧ (¬ (0 ≤ a ∧ a ≤ 8192) → X = 0 ∧ Y = 0) := by
  by_cases h : 0 ≤ a ∧ a ≤ 8192
  · exact ⟨cosLow a, cosHigh a, fun w => specCosineSpan_ok a h.1 h.2 w, fun w => implCosineSpan_ok a h.1 h.2 w, fun _ => ⟨rfl, rfl⟩, fun h2 => absurd h h2⟩
  · exact ⟨0, 0, fun w => specCosineSpan_no a h w, fun w => implCosineSpan_no a h w, fun h2 => absurd h2 h, fun _ => ⟨rfl, rfl⟩⟩
theorem walk_FnExactCosineSpan (a : Int) (w : World) (_ : (Lit.int .i64 a).wf = true) : Calls Try.prog 5 #[.int .i64 a] w fun e w' => e = .returned (.bool true) ∧ Below w.heap.size w w' := by
  obtain ⟨X, Y, hS, hI, -, -⟩ := cosine_both a
  have hxx : (X == X && Y == Y) = true := by simp
  have HX := Lib.hid hxx
  clear hxx
  go_enter Try.func5, Try.ntmps5
  go_wp2_with fail
  refine (hS _).mono ?_
  rintro e w1 ⟨rfl, hb⟩
  have l1 := Blk.new w1 29 #[.int .i64 X, .int .i64 Y]
  have z1 := l1.lt
  go_wp2_with fail
  refine (hI _).mono ?_
  rintro e w2 ⟨rfl, hb2⟩
  replace l1 := (l1.up hb2).alloc (.cells #[.int .i64 X, .int .i64 Y] 29)
  have b2 : Below w.heap.size w w2 := (by repeat (first | exact bw_refl _ | assumption | apply bw_alloc | apply bw_drew | apply bw_drewN | (refine bw_trans ?_ (by assumption)) | (refine bw_set ?_ (by simp only [go_sem]; omega) _)))
  clear hb hb2 z1
  obtain ⟨g0, g1, -, -⟩ := l1.rd2
  have z1 := l1.lt
  go_wp2_with fail
  refine (eqSpan_any X Y X Y _).mono ?_
  rintro e w3 ⟨he, hb3⟩
  rw [HX.out] at he
  subst he
  go_wp2
  go_ret
  exact ⟨rfl, (by repeat (first | exact bw_refl _ | assumption | apply bw_alloc | apply bw_drew | apply bw_drewN | (refine bw_trans ?_ (by assumption)) | (refine bw_set ?_ (by simp only [go_sem]; omega) _)))⟩
end Go.Proofs.Ytdojgkjgjfclaaa
