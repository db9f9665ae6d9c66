/- Contracts of the quotients, multiples, sums and powers of spans; conditions: valid spans. -/
import Derived.Test.YtndpmcegealhiaaAng
namespace Go.Proofs.Ytndpmcegealhiaa
open Go.RowKit
set_option linter.unusedVariables false
set_option linter.unusedSimpArgs false
set_option maxHeartbeats 2000000

theorem Blk.rd2 {w : World} {g : Nat} {t : TypeId} {a b : Value} (h : Blk w g t #[a, b]) : w.cell? ⟨g, 0, none⟩ = some a ∧ w.cell? ⟨g, 1, none⟩ = some b ∧ w.frozen? ⟨g, 0, none⟩ = false ∧ w.frozen? ⟨g, 1, none⟩ = false :=
  ⟨h.cell 0, h.cell 1, h.frozen 0, h.frozen 1⟩
theorem Blk.up {w w' : World} {g : Nat} {t : TypeId} {cs : Array Value} (h : Blk w g t cs) (hb : Below w.heap.size w w') : Blk w' g t cs := heap_keep hb h
theorem four_keep {w w' : World} {p q r s : Addr} {a b c d : Value} (hb : Below w.heap.size w w') (h : w.cell? p = some a ∧ w.cell? q = some b ∧ w.cell? r = some c ∧ w.cell? s = some d) : w'.cell? p = some a ∧ w'.cell? q = some b ∧ w'.cell? r = some c ∧ w'.cell? s = some d :=
  ⟨cell_keep hb h.1, cell_keep hb h.2.1, cell_keep hb h.2.2.1, cell_keep hb h.2.2.2⟩
theorem bmore {w w1 w2 : World} {B : Nat} (h : Below w.heap.size w w1) (h2 : Below B w1 w2) (hB : w.heap.size ≤ B) : Below w.heap.size w w2 := h.trans (h2.mono hB)

theorem specSpanDiv_ok (a b c d : Int) (h1 : spOk a b = true) (h2 : spOk c d = true) (ha : 0 ≤ a) (hc0 : 0 < c) (w : World) : Calls Try.prog 58 #[.agg #[.int .i64 a, .int .i64 b], .agg #[.int .i64 c, .int .i64 d]] w fun e w' =>
    e = .returned (.tuple #[.agg #[.int .i64 (chkL (divL a d) (divH b c)), .int .i64 (chkH (divL a d) (divH b c))], .bool (spOk (divL a d) (divH b c))]) ∧ Below w.heap.size w w' := by
  obtain ⟨⟨a0, a1⟩, ⟨b0, b1⟩, ab⟩ := (spOk_iff a b).1 h1
  obtain ⟨⟨c0, c1⟩, ⟨d0, d1⟩, cd⟩ := (spOk_iff c d).1 h2
  have x1 : IntKind.i64.wrap (a * 268435456) = a * 268435456 := IntWalk.i64_in _ (by omega)
  have x2 : IntKind.i64.wrap (b * 268435456) = b * 268435456 := IntWalk.i64_in _ (by omega)
  have y1 : -1152921504606846976 ≤ a * 268435456 ∧ a * 268435456 ≤ 1152921504606846976 := by omega
  have y2 : -1152921504606846976 ≤ b * 268435456 ∧ b * 268435456 ≤ 1152921504606846976 := by omega
  have eL : divL a d = a * 268435456 / d := rfl
  have eH : divH b c = cdiv (b * 268435456) c := rfl
  rw [eL, eH]
  clear eL eH
  obtain ⟨u, hu⟩ : ∃ x, a * 268435456 = x := ⟨_, rfl⟩
  obtain ⟨v, hv⟩ : ∃ x, b * 268435456 = x := ⟨_, rfl⟩
  rw [hu] at x1 y1 ⊢
  rw [hv] at x2 y2 ⊢
  have Y1 := Lib.hid y1
  have Y2 := Lib.hid y2
  have D1 := Lib.hid (show 0 < d ∧ d ≤ 1073741824 by omega)
  have C1 := Lib.hid (show 0 < c ∧ c ≤ 1073741824 by omega)
  have n1 : ¬ a < 0 := by omega
  have n2 : ¬ c ≤ 0 := by omega
  clear y1 y2 a0 a1 b0 b1 c0 c1 d0 d1 ab cd ha hc0
  have l0 := Blk.alloc (Blk.alloc (Blk.new w 62 #[.int .i64 a, .int .i64 b]) (.cells #[.int .i64 c, .int .i64 d] 62)) (.cells #[.int .i64 0, .int .i64 0] 62)
  have l1 := Blk.alloc (Blk.new (w.alloc (.cells #[.int .i64 a, .int .i64 b] 62)) 62 #[.int .i64 c, .int .i64 d]) (.cells #[.int .i64 0, .int .i64 0] 62)
  have l2 := Blk.new ((w.alloc (.cells #[.int .i64 a, .int .i64 b] 62)).alloc (.cells #[.int .i64 c, .int .i64 d] 62)) 62 #[.int .i64 0, .int .i64 0]
  simp only [World.size_alloc] at l1 l2
  go_enter Try.func58, Try.ntmps58
  go_wp2_with fail
  refine (specSpanValid_any a b _).mono ?_
  rintro e w1 ⟨he, hb⟩
  rw [h1] at he
  subst he
  replace l0 := l0.up hb
  replace l1 := l1.up hb
  replace l2 := l2.up hb
  have b1 : Below w.heap.size w w1 := (by repeat (first | exact bw_refl _ | assumption | apply bw_alloc | apply bw_drew | apply bw_drewN | (refine bw_trans ?_ (by assumption)) | (refine bw_set ?_ (by simp only [go_sem]; omega) _)))
  clear hb
  have d1 := l1.rd2
  have z1 := l2.lt
  go_wp2_with fail
  refine (specSpanValid_any c d _).mono ?_
  rintro e w3 ⟨he, hb⟩
  rw [h2] at he
  subst he
  replace l0 := l0.up hb
  replace l1 := l1.up hb
  replace l2 := l2.up hb
  have b3 : Below w.heap.size w w3 := (by repeat (first | exact bw_refl _ | assumption | apply bw_alloc | apply bw_drew | apply bw_drewN | (refine bw_trans ?_ (by assumption)) | (refine bw_set ?_ (by simp only [go_sem]; omega) _)))
  clear hb d1 z1 b1
  obtain ⟨g0, g1, -, -⟩ := l0.rd2
  obtain ⟨g2, g3, -, -⟩ := l1.rd2
  obtain ⟨g4, g5, g6, g7⟩ := l2.rd2
  have z3 := l2.lt
  have ne1 : w.heap.size + 1 + 1 ≠ w.heap.size := by omega
  have ne2 : w.heap.size ≠ w.heap.size + 1 + 1 := by omega
  go_wp2_with fail
  go_region_held3 (fun w' => w'.cell? ⟨w.heap.size, 0, none⟩ = some (.int .i64 a) ∧ w'.cell? ⟨w.heap.size, 1, none⟩ = some (.int .i64 b) ∧ w'.cell? ⟨w.heap.size + 1, 0, none⟩ = some (.int .i64 c) ∧ w'.cell? ⟨w.heap.size + 1, 1, none⟩ = some (.int .i64 d)) (first | exact four_keep hb (by assumption) | (simp [*]; done) | go_keep | (simp [*] <;> omega)) (first
    | (go_at_call 42; (with_reducible refine (l1Floor_any _ _ (by have := D1.out; omega) (by have := D1.out; omega) (by have := Y1.out; omega) (by have := Y1.out; omega) _).mono ?_); rintro e w1 ⟨rfl, rfl⟩)
    | (go_at_call 74; (with_reducible refine (l7Ceil_ok _ _ (by have := C1.out; omega) (by have := C1.out; omega) (by have := Y2.out; omega) (by have := Y2.out; omega) _).mono ?_); rintro e w1 ⟨rfl, rfl⟩)
    | (go_at_call 73; (with_reducible refine (l7Good_any _ _ _).mono ?_); rintro e w4 ⟨rfl, hb⟩; have k2 := Blk.up (by exact l2) hb; obtain ⟨g4, g5, g6, g7⟩ := k2.rd2))
  all_goals
    go_wp2
    refine bodyPost_ret (by simp only [results, Try.results58]; go_simp; all_goals (first | exact rfl | exact ⟨rfl, rfl⟩ | skip)) rfl ⟨rfl, (by repeat (first | exact bw_refl _ | assumption | apply bw_alloc | apply bw_drew | apply bw_drewN | (refine bw_trans ?_ (by assumption)) | (refine bw_set ?_ (by simp only [go_sem]; omega) _)))⟩
theorem implSpanDiv_ok (a b c d : Int) (h1 : spOk a b = true) (h2 : spOk c d = true) (ha : 0 ≤ a) (hc0 : 0 < c) (w : World) : Calls Try.prog 52 #[.agg #[.int .i64 a, .int .i64 b], .agg #[.int .i64 c, .int .i64 d]] w fun e w' =>
    e = .returned (.tuple #[.agg #[.int .i64 (chkL (divL a d) (divH b c)), .int .i64 (chkH (divL a d) (divH b c))], .bool (spOk (divL a d) (divH b c))]) ∧ Below w.heap.size w w' := by
  obtain ⟨⟨a0, a1⟩, ⟨b0, b1⟩, ab⟩ := (spOk_iff a b).1 h1
  obtain ⟨⟨c0, c1⟩, ⟨d0, d1⟩, cd⟩ := (spOk_iff c d).1 h2
  have x1 : IntKind.i64.wrap (a * 268435456) = a * 268435456 := IntWalk.i64_in _ (by omega)
  have x2 : IntKind.i64.wrap (b * 268435456) = b * 268435456 := IntWalk.i64_in _ (by omega)
  have y1 : -1152921504606846976 ≤ a * 268435456 ∧ a * 268435456 ≤ 1152921504606846976 := by omega
  have y2 : -1152921504606846976 ≤ b * 268435456 ∧ b * 268435456 ≤ 1152921504606846976 := by omega
  have eL : divL a d = a * 268435456 / d := rfl
  have eH : divH b c = cdiv (b * 268435456) c := rfl
  rw [eL, eH]
  clear eL eH
  obtain ⟨u, hu⟩ : ∃ x, a * 268435456 = x := ⟨_, rfl⟩
  obtain ⟨v, hv⟩ : ∃ x, b * 268435456 = x := ⟨_, rfl⟩
  rw [hu] at x1 y1 ⊢
  rw [hv] at x2 y2 ⊢
  have Y1 := Lib.hid y1
  have Y2 := Lib.hid y2
  have D1 := Lib.hid (show 0 < d ∧ d ≤ 1073741824 by omega)
  have C1 := Lib.hid (show 0 < c ∧ c ≤ 1073741824 by omega)
  have n1 : ¬ a < 0 := by omega
  have n2 : ¬ c ≤ 0 := by omega
  clear y1 y2 a0 a1 b0 b1 c0 c1 d0 d1 ab cd ha hc0
  have l0 := Blk.alloc (Blk.alloc (Blk.new w 62 #[.int .i64 a, .int .i64 b]) (.cells #[.int .i64 c, .int .i64 d] 62)) (.cells #[.int .i64 0, .int .i64 0] 62)
  have l1 := Blk.alloc (Blk.new (w.alloc (.cells #[.int .i64 a, .int .i64 b] 62)) 62 #[.int .i64 c, .int .i64 d]) (.cells #[.int .i64 0, .int .i64 0] 62)
  have l2 := Blk.new ((w.alloc (.cells #[.int .i64 a, .int .i64 b] 62)).alloc (.cells #[.int .i64 c, .int .i64 d] 62)) 62 #[.int .i64 0, .int .i64 0]
  simp only [World.size_alloc] at l1 l2
  go_enter Try.func52, Try.ntmps52
  go_wp2_with fail
  refine (implSpanValid_any a b _).mono ?_
  rintro e w1 ⟨he, hb⟩
  rw [h1] at he
  subst he
  replace l0 := l0.up hb
  replace l1 := l1.up hb
  replace l2 := l2.up hb
  have b1 : Below w.heap.size w w1 := (by repeat (first | exact bw_refl _ | assumption | apply bw_alloc | apply bw_drew | apply bw_drewN | (refine bw_trans ?_ (by assumption)) | (refine bw_set ?_ (by simp only [go_sem]; omega) _)))
  clear hb
  have d1 := l1.rd2
  have z1 := l2.lt
  go_wp2_with fail
  refine (implSpanValid_any c d _).mono ?_
  rintro e w3 ⟨he, hb⟩
  rw [h2] at he
  subst he
  replace l0 := l0.up hb
  replace l1 := l1.up hb
  replace l2 := l2.up hb
  have b3 : Below w.heap.size w w3 := (by repeat (first | exact bw_refl _ | assumption | apply bw_alloc | apply bw_drew | apply bw_drewN | (refine bw_trans ?_ (by assumption)) | (refine bw_set ?_ (by simp only [go_sem]; omega) _)))
  clear hb d1 z1 b1
  obtain ⟨g0, g1, -, -⟩ := l0.rd2
  obtain ⟨g2, g3, -, -⟩ := l1.rd2
  obtain ⟨g4, g5, g6, g7⟩ := l2.rd2
  have z3 := l2.lt
  have ne1 : w.heap.size + 1 + 1 ≠ w.heap.size := by omega
  have ne2 : w.heap.size ≠ w.heap.size + 1 + 1 := by omega
  go_wp2_with fail
  go_region_held3 (fun w' => w'.cell? ⟨w.heap.size, 0, none⟩ = some (.int .i64 a) ∧ w'.cell? ⟨w.heap.size, 1, none⟩ = some (.int .i64 b) ∧ w'.cell? ⟨w.heap.size + 1, 0, none⟩ = some (.int .i64 c) ∧ w'.cell? ⟨w.heap.size + 1, 1, none⟩ = some (.int .i64 d)) (first | exact four_keep hb (by assumption) | (simp [*]; done) | go_keep | (simp [*] <;> omega)) (first
    | (go_at_call 65; (with_reducible refine (implFloorDiv_ok _ _ (by have := D1.out; omega) (by have := D1.out; omega) (by have := Y1.out; omega) (by have := Y1.out; omega) _).mono ?_); rintro e w1 ⟨rfl, rfl⟩)
    | (go_at_call 66; (with_reducible refine (implCeilDiv_ok _ _ (by have := C1.out; omega) (by have := C1.out; omega) (by have := Y2.out; omega) (by have := Y2.out; omega) _).mono ?_); rintro e w1 ⟨rfl, rfl⟩)
    | (go_at_call 67; (with_reducible refine (checked_any _ _ _).mono ?_); rintro e w4 ⟨rfl, hb⟩; have k2 := Blk.up (by exact l2) hb; obtain ⟨g4, g5, g6, g7⟩ := k2.rd2))
  all_goals
    go_wp2
    refine bodyPost_ret (by simp only [results, Try.results52]; go_simp; all_goals (first | exact rfl | exact ⟨rfl, rfl⟩ | skip)) rfl ⟨rfl, (by repeat (first | exact bw_refl _ | assumption | apply bw_alloc | apply bw_drew | apply bw_drewN | (refine bw_trans ?_ (by assumption)) | (refine bw_set ?_ (by simp only [go_sem]; omega) _)))⟩

def mulPost (a b c d : Int) (w : World) (e : Ending) (w' : World) : Prop := e = .returned (.tuple #[.agg #[.int .i64 (mulL a b c d), .int .i64 (mulH a b c d)], .bool true]) ∧ Below w.heap.size w w'
theorem specSpanMul_yes (a b c d : Int) (h1 : spOk a b = true) (h2 : spOk c d = true) (h3 : spOk (mulL a b c d) (mulH a b c d) = true) (w : World) : Calls Try.prog 75 #[.agg #[.int .i64 a, .int .i64 b], .agg #[.int .i64 c, .int .i64 d]] w (mulPost a b c d w) :=
  (specSpanMul_ok a b c d h1 h2 w).mono fun e w' ⟨he, hb⟩ => ⟨by rw [he]; unfold chkL chkH; rw [h3, if_pos rfl, if_pos rfl], hb⟩
theorem implSpanMul_yes (a b c d : Int) (h1 : spOk a b = true) (h2 : spOk c d = true) (h3 : spOk (mulL a b c d) (mulH a b c d) = true) (w : World) : Calls Try.prog 68 #[.agg #[.int .i64 a, .int .i64 b], .agg #[.int .i64 c, .int .i64 d]] w (mulPost a b c d w) :=
  (implSpanMul_ok a b c d h1 h2 w).mono fun e w' ⟨he, hb⟩ => ⟨by rw [he]; unfold chkL chkH; rw [h3, if_pos rfl, if_pos rfl], hb⟩
def divPost (a b c d : Int) (w : World) (e : Ending) (w' : World) : Prop := e = .returned (.tuple #[.agg #[.int .i64 (divL a d), .int .i64 (divH b c)], .bool true]) ∧ Below w.heap.size w w'
theorem specSpanDiv_yes (a b c d : Int) (h1 : spOk a b = true) (h2 : spOk c d = true) (ha : 0 ≤ a) (hc0 : 0 < c) (h3 : spOk (divL a d) (divH b c) = true) (w : World) : Calls Try.prog 58 #[.agg #[.int .i64 a, .int .i64 b], .agg #[.int .i64 c, .int .i64 d]] w (divPost a b c d w) :=
  (specSpanDiv_ok a b c d h1 h2 ha hc0 w).mono fun e w' ⟨he, hb⟩ => ⟨by rw [he]; unfold chkL chkH; rw [h3, if_pos rfl, if_pos rfl], hb⟩
theorem implSpanDiv_yes (a b c d : Int) (h1 : spOk a b = true) (h2 : spOk c d = true) (ha : 0 ≤ a) (hc0 : 0 < c) (h3 : spOk (divL a d) (divH b c) = true) (w : World) : Calls Try.prog 52 #[.agg #[.int .i64 a, .int .i64 b], .agg #[.int .i64 c, .int .i64 d]] w (divPost a b c d w) :=
  (implSpanDiv_ok a b c d h1 h2 ha hc0 w).mono fun e w' ⟨he, hb⟩ => ⟨by rw [he]; unfold chkL chkH; rw [h3, if_pos rfl, if_pos rfl], hb⟩
theorem implSpanAdd_ok (a b c d : Int) (h1 : spOk a b = true) (h2 : spOk c d = true) (w : World) : Calls Try.prog 78 #[.agg #[.int .i64 a, .int .i64 b], .agg #[.int .i64 c, .int .i64 d]] w fun e w' =>
    e = .returned (.tuple #[.agg #[.int .i64 (chkL (a + c) (b + d)), .int .i64 (chkH (a + c) (b + d))], .bool (spOk (a + c) (b + d))]) ∧ Below w.heap.size w w' := by
  obtain ⟨⟨a0, a1⟩, ⟨b0, b1⟩, ab⟩ := (spOk_iff a b).1 h1
  obtain ⟨⟨c0, c1⟩, ⟨d0, d1⟩, cd⟩ := (spOk_iff c d).1 h2
  go_enter Try.func78, Try.ntmps78
  go_wp2_with (first
    | (go_at_call 64; (with_reducible refine (implSpanValid_any a b _).mono ?_); rintro e w1 ⟨he, hb⟩; rw [h1] at he; subst he; (first | (have hq := bcomp hc hf hz hb; clear hc hf hz; obtain ⟨hc, hf, hz⟩ := hq) | (obtain ⟨hc, hf⟩ := bcell hb; have hz := bsize hb)))
    | (go_at_call 64; (with_reducible refine (implSpanValid_any c d _).mono ?_); rintro e w1 ⟨he, hb⟩; rw [h2] at he; subst he; (first | (have hq := bcomp hc hf hz hb; clear hc hf hz; obtain ⟨hc, hf, hz⟩ := hq) | (obtain ⟨hc, hf⟩ := bcell hb; have hz := bsize hb)))
    | (go_at_call 67; (with_reducible refine (checked_any _ _ _).mono ?_); rintro e w1 ⟨rfl, hb⟩; (first | (have hq := bcomp hc hf hz hb; clear hc hf hz; obtain ⟨hc, hf, hz⟩ := hq) | (obtain ⟨hc, hf⟩ := bcell hb; have hz := bsize hb))))
  refine bodyPost_ret (by simp only [results, Try.results78]; go_simp; all_goals (first | exact rfl | exact ⟨rfl, rfl⟩ | skip)) rfl ⟨rfl, (by repeat (first | exact bw_refl _ | assumption | apply bw_alloc | apply bw_drew | apply bw_drewN | (refine bw_trans ?_ (by assumption)) | (refine bw_set ?_ (by simp only [go_sem]; omega) _)))⟩
theorem implTimes16 (w : World) : Calls Try.prog 77 #[.agg #[.int .i64 52987965, .int .i64 52987972], .int .i64 16] w fun e w' => e = .returned (.tuple #[.agg #[.int .i64 847807440, .int .i64 847807552], .bool true]) ∧ Below w.heap.size w w' := by
  have h1 : spOk 52987965 52987972 = true := by decide
  have h2 : chkL 847807440 847807552 = 847807440 ∧ chkH 847807440 847807552 = 847807552 ∧ spOk 847807440 847807552 = true := by decide
  go_enter Try.func77, Try.ntmps77
  go_wp2_with (first
    | (go_at_call 64; (with_reducible refine (implSpanValid_any _ _ _).mono ?_); rintro e w1 ⟨he, hb⟩; rw [h1] at he; subst he; (first | (have hq := bcomp hc hf hz hb; clear hc hf hz; obtain ⟨hc, hf, hz⟩ := hq) | (obtain ⟨hc, hf⟩ := bcell hb; have hz := bsize hb)))
    | (go_at_call 41; (with_reducible refine (within_any _ _ (by decide) (by decide) _).mono ?_); rintro e w1 ⟨rfl, rfl⟩)
    | (go_at_call 67; (with_reducible refine (checked_any _ _ _).mono ?_); rintro e w1 ⟨he, hb⟩; rw [h2.1, h2.2.1, h2.2.2] at he; subst he; (first | (have hq := bcomp hc hf hz hb; clear hc hf hz; obtain ⟨hc, hf, hz⟩ := hq) | (obtain ⟨hc, hf⟩ := bcell hb; have hz := bsize hb))))
  refine bodyPost_ret (by simp only [results, Try.results77]; go_simp; all_goals (first | exact rfl | exact ⟨rfl, rfl⟩ | skip)) rfl ⟨rfl, (by repeat (first | exact bw_refl _ | assumption | apply bw_alloc | apply bw_drew | apply bw_drewN | (refine bw_trans ?_ (by assumption)) | (refine bw_set ?_ (by simp only [go_sem]; omega) _)))⟩
theorem implTimes4 (w : World) : Calls Try.prog 77 #[.agg #[.int .i64 1123152, .int .i64 1123156], .int .i64 (-4)] w fun e w' => e = .returned (.tuple #[.agg #[.int .i64 (-4492624), .int .i64 (-4492608)], .bool true]) ∧ Below w.heap.size w w' := by
  have h1 : spOk 1123152 1123156 = true := by decide
  have h2 : chkL (-4492624) (-4492608) = -4492624 ∧ chkH (-4492624) (-4492608) = -4492608 ∧ spOk (-4492624) (-4492608) = true := by decide
  go_enter Try.func77, Try.ntmps77
  go_wp2_with (first
    | (go_at_call 64; (with_reducible refine (implSpanValid_any _ _ _).mono ?_); rintro e w1 ⟨he, hb⟩; rw [h1] at he; subst he; (first | (have hq := bcomp hc hf hz hb; clear hc hf hz; obtain ⟨hc, hf, hz⟩ := hq) | (obtain ⟨hc, hf⟩ := bcell hb; have hz := bsize hb)))
    | (go_at_call 41; (with_reducible refine (within_any _ _ (by decide) (by decide) _).mono ?_); rintro e w1 ⟨rfl, rfl⟩)
    | (go_at_call 67; (with_reducible refine (checked_any _ _ _).mono ?_); rintro e w1 ⟨he, hb⟩; rw [h2.1, h2.2.1, h2.2.2] at he; subst he; (first | (have hq := bcomp hc hf hz hb; clear hc hf hz; obtain ⟨hc, hf, hz⟩ := hq) | (obtain ⟨hc, hf⟩ := bcell hb; have hz := bsize hb))))
  refine bodyPost_ret (by simp only [results, Try.results77]; go_simp; all_goals (first | exact rfl | exact ⟨rfl, rfl⟩ | skip)) rfl ⟨rfl, (by repeat (first | exact bw_refl _ | assumption | apply bw_alloc | apply bw_drew | apply bw_drewN | (refine bw_trans ?_ (by assumption)) | (refine bw_set ?_ (by simp only [go_sem]; omega) _)))⟩
theorem alone_any (n : Int) (w : World) : Calls Try.prog 53 #[.int .i64 n] w fun e w' => e = .returned (.agg #[.int .i64 n, .int .i64 n]) ∧ Below w.heap.size w w' := by
  go_enter Try.func53, Try.ntmps53
  go_wp2
  refine bodyPost_ret (by simp only [results, Try.results53]; go_simp; all_goals (first | exact rfl | exact ⟨rfl, rfl⟩ | skip)) rfl ⟨rfl, (by repeat (first | exact bw_refl _ | assumption | apply bw_alloc | apply bw_drew | apply bw_drewN | (refine bw_trans ?_ (by assumption)) | (refine bw_set ?_ (by simp only [go_sem]; omega) _)))⟩
end Go.Proofs.Ytndpmcegealhiaa
