/- The walks of the laws of vectors that draw: MirrorLength, LengthOf, DotOf; no condition. -/
import Derived.Test.YtamllajbnmedgaaVDraw
import Derived.Test.YtamllajbnmedgaaAlive
import Derived.Test.YtamllajbnmedgaaRoot
namespace Go.Proofs.Ytamllajbnmedgaa
open Go.RowKit
set_option linter.unusedVariables false

def GetsV (w : World) (e : Ending) (w' : World) : Prop := ∃ X Y : Int, e = .returned (.agg #[.int .i64 X, .int .i64 Y]) ∧ Below w.heap.size w w'
def GetsVV (w : World) (e : Ending) (w' : World) : Prop := ∃ X Y X2 Y2 : Int, e = .returned (.tuple #[.agg #[.int .i64 X, .int .i64 Y], .agg #[.int .i64 X2, .int .i64 Y2]]) ∧ Below w.heap.size w w'
theorem drawLengthOf_any (A : Option Addr) (n c : Nat) (xs : List Int) (w0 w : World) (h : Byts w0 w0.heap.size A xs) (hn : xs.length = n) (hc : n ≤ c) (hm : c ≤ maxLen) (hlen : n ≤ 1048576) (hb0 : Below w0.heap.size w0 w) :
    Calls Try.prog 13 #[.slice A n c] w (GetsV w) := by
  have l2 := Blk.new w 25 #[.int .i64 0, .int .i64 0]
  go_enter Try.func13, Try.ntmps13
  go_wp2_with fail
  refine (open_any A n c xs w0 _ h hn hc hm hlen (hb0.alloc hb0.size _)).mono ?_
  rintro e w1 ⟨R, rfl, hRs, hR, hb⟩
  have hb1 : Below w.heap.size w w1 := (by repeat (first | exact bw_refl _ | assumption | apply bw_alloc | apply bw_drew | apply bw_drewN | (refine bw_trans ?_ (by assumption)) | (refine bw_set ?_ (by simp only [go_sem]; omega) _)))
  replace l2 := heap_keep hb l2
  rw [World.size_alloc] at hRs
  clear hb
  go_wp2_with fail
  refine (l20Vector_any R 0 _ _ (by omega) (by omega) (by omega) (by omega) _ hR (by omega)).mono ?_
  rintro e w2 ⟨X, Y, rfl, hR2, hO⟩
  have hb2 := below_only hb1 hO (by omega)
  replace l2 := only_keep hO l2 (by omega)
  clear hO hb1 hR hR2
  have n0 := Blk.cell l2 0
  have n1 := Blk.cell l2 1
  have m0 := Blk.frozen l2 0
  have m1 := Blk.frozen l2 1
  simp at n0 n1
  go_wp2
  refine bodyPost_ret (by simp only [results, Try.results13]; go_simp; all_goals (try exact rfl)) rfl ⟨X, Y, rfl, (by repeat (first | exact bw_refl _ | assumption | apply bw_alloc | apply bw_drew | apply bw_drewN | (refine bw_trans ?_ (by assumption)) | (refine bw_set ?_ (by simp only [go_sem]; omega) _)))⟩
theorem drawDotOf_any (A : Option Addr) (n c : Nat) (xs : List Int) (w0 w : World) (h : Byts w0 w0.heap.size A xs) (hn : xs.length = n) (hc : n ≤ c) (hm : c ≤ maxLen) (hlen : n ≤ 1048576) (hb0 : Below w0.heap.size w0 w) :
    Calls Try.prog 15 #[.slice A n c] w (GetsVV w) := by
  have l2 := Blk.new w 25 #[.int .i64 0, .int .i64 0]
  have l3 := Blk.new (w.alloc (.cells #[.int .i64 0, .int .i64 0] 25)) 25 #[.int .i64 0, .int .i64 0]
  replace l2 := l2.alloc (.cells #[.int .i64 0, .int .i64 0] 25)
  rw [World.size_alloc] at l3
  go_enter Try.func15, Try.ntmps15
  go_wp2_with fail
  refine (open_any A n c xs w0 _ h hn hc hm hlen ((hb0.alloc hb0.size _).alloc (by rw [World.size_alloc]; exact Nat.le_succ_of_le hb0.size) _)).mono ?_
  rintro e w1 ⟨R, rfl, hRs, hR, hb⟩
  have hb1 : Below w.heap.size w w1 := (by repeat (first | exact bw_refl _ | assumption | apply bw_alloc | apply bw_drew | apply bw_drewN | (refine bw_trans ?_ (by assumption)) | (refine bw_set ?_ (by simp only [go_sem]; omega) _)))
  replace l2 := heap_keep hb l2
  replace l3 := heap_keep hb l3
  rw [World.size_alloc, World.size_alloc] at hRs
  clear hb
  go_wp2_with fail
  refine (l20Vector_any R 0 _ _ (by omega) (by omega) (by omega) (by omega) _ hR (by omega)).mono ?_
  rintro e w2 ⟨X, Y, rfl, hR2, hO⟩
  have hb2 := below_only hb1 hO (by omega)
  replace l2 := only_keep hO l2 (by omega)
  replace l3 := only_keep hO l3 (by omega)
  clear hO hb1 hR
  go_wp2_with fail
  refine (l20Vector_any R _ _ _ (by omega) (by omega) (by omega) (by omega) _ hR2 (by omega)).mono ?_
  rintro e w3 ⟨X2, Y2, rfl, hR3, hO⟩
  have hb3 := below_only hb2 hO (by omega)
  replace l2 := only_keep hO l2 (by omega)
  replace l3 := only_keep hO l3 (by omega)
  clear hO hb2 hR2 hR3
  have n0 := Blk.cell l2 0
  have n1 := Blk.cell l2 1
  have m0 := Blk.frozen l2 0
  have m1 := Blk.frozen l2 1
  have p0 := Blk.cell l3 0
  have p1 := Blk.cell l3 1
  have q0 := Blk.frozen l3 0
  have q1 := Blk.frozen l3 1
  simp at n0 n1 p0 p1
  go_wp2
  refine bodyPost_ret (by simp only [results, Try.results15]; go_simp; all_goals (try exact rfl)) rfl ⟨X, Y, X2, Y2, rfl, (by repeat (first | exact bw_refl _ | assumption | apply bw_alloc | apply bw_drew | apply bw_drewN | (refine bw_trans ?_ (by assumption)) | (refine bw_set ?_ (by simp only [go_sem]; omega) _)))⟩

/-! ### the plain laws -/
theorem vecB_neg {m X Y : Int} (h : vecB m X Y = true) : vecB m (-X) Y = true := by
  obtain ⟨⟨a, b⟩, c, d⟩ := vecB_spec _ _ _ h
  unfold vecB; rw [Bool.and_eq_true, inB_iff, inB_iff]; omega
theorem vecB_swap {m X Y : Int} (h : vecB m X Y = true) : vecB m Y X = true := by
  obtain ⟨⟨a, b⟩, c, d⟩ := vecB_spec _ _ _ h
  unfold vecB; rw [Bool.and_eq_true, inB_iff, inB_iff]; omega
theorem IsLen.ok {X Y r : Int} (h : IsLen X Y r) (hv : vecB 536870912 X Y = true) : IsRoot (X * X + Y * Y) r := by
  rcases h with ⟨_, h⟩ | ⟨h, _⟩
  · exact h
  · rw [hv] at h; cases h
theorem IsLen.no {X Y r : Int} (h : IsLen X Y r) (hv : vecB 536870912 X Y = false) : r = -1 := by
  rcases h with ⟨h, _⟩ | ⟨_, h⟩
  · rw [hv] at h; cases h
  · exact h
theorem IsLen.swap {X Y r s : Int} (hv : vecB 536870912 X Y = true) (h : IsRoot (X * X + Y * Y) r) (k : IsLen Y X s) : s = r := by
  have := k.ok (vecB_swap hv)
  rw [Int.add_comm] at this
  exact this.one h
theorem IsLen.negX {X Y r s : Int} (hv : vecB 536870912 X Y = true) (h : IsRoot (X * X + Y * Y) r) (k : IsLen (-X) Y s) : s = r := by
  have := k.ok (vecB_neg hv)
  rw [Int.neg_mul_neg] at this
  exact this.one h
theorem IsLen.quarter {X Y r s : Int} (hv : vecB 536870912 X Y = true) (h : IsRoot (X * X + Y * Y) r) (k : IsLen (-Y) X s) : s = r := by
  have := k.ok (vecB_neg (vecB_swap hv))
  rw [Int.neg_mul_neg, Int.add_comm] at this
  exact this.one h
theorem root_bd {n r : Int} (h : IsRoot n r) (hn : n ≤ 576460752303423488) : 0 ≤ r ∧ r ≤ 759250124 := by
  obtain ⟨a, b, c⟩ := h
  refine ⟨a, ?_⟩
  rcases Int.lt_or_le 759250124 r with hr | hr
  · have := sq_le 759250125 r (by omega) (by omega)
    omega
  · exact hr

theorem dotOf_comm (X Y X2 Y2 : Int) : dotOf X2 Y2 X Y = dotOf X Y X2 Y2 := by
  unfold dotOf; rw [Bool.and_comm, Int.mul_comm X2 X, Int.mul_comm Y2 Y]
theorem dotOf_no {X Y X2 Y2 : Int} (h : vecB 1048576 X Y = false) : dotOf X Y X2 Y2 = 0 := by unfold dotOf; rw [h]; rfl
theorem dotOf_own {X Y : Int} (h : vecB 1048576 X Y = true) : dotOf X Y X Y = X * X + Y * Y := by unfold dotOf; rw [h]; rfl
theorem dotOf_quarter (X Y : Int) : dotOf X Y (-Y) X = 0 := by
  unfold dotOf
  split
  · rw [Int.mul_neg, Int.mul_comm X Y]; omega
  · rfl
theorem vecB_more {m k X Y : Int} (h : vecB m X Y = true) (hk : m ≤ k) : vecB k X Y = true := by
  obtain ⟨⟨a, b⟩, c, d⟩ := vecB_spec _ _ _ h
  unfold vecB; rw [Bool.and_eq_true, inB_iff, inB_iff]; omega
theorem walk_FnMirrorLength (A : Option Addr) (n c : Nat) (xs : List Int) (w : World) (h : Byts w w.heap.size A xs) (hn : xs.length = n) (hc : n ≤ c) (hm : c ≤ maxLen) :
    Calls Try.prog 5 #[.slice A n c] w fun e w' => e = .returned (.bool true) ∧ Below w.heap.size w w' := by
  by_cases hbig : 1048576 < n
  · unfold maxLen at hm
    clear hn
    go_enter Try.func5, Try.ntmps5
    go_wp2
    go_ret
    exact ⟨rfl, (by repeat (first | exact bw_refl _ | assumption | apply bw_alloc | apply bw_drew | apply bw_drewN | (refine bw_trans ?_ (by assumption)) | (refine bw_set ?_ (by simp only [go_sem]; omega) _)))⟩
  · have HN := Lib.hid hn
    clear hn
    go_enter Try.func5, Try.ntmps5
    go_wp2_with fail
    refine (drawLengthOf_any A n c xs w w h HN.out hc hm (by omega) (bw_refl w)).mono ?_
    rintro e w1 ⟨X, Y, rfl, hb1⟩
    obtain ⟨hc, hf⟩ := bcell hb1
    have hz := bsize hb1
    cases hv : vecB 536870912 X Y
    · have HV := Lib.hid hv
      clear hv
      go_wp2_with (first
        | (go_at_call 11; refine (specLengthOf_any _ _ _).mono ?_; rintro e w2 ⟨⟨r, rfl, hr⟩, hb⟩; obtain rfl := hr.no HV.out; clear hr; (first | (have hq := bcomp hc hf hz hb; clear hc hf hz; obtain ⟨hc, hf, hz⟩ := hq) | (obtain ⟨hc, hf⟩ := bcell hb; have hz := bsize hb)))
        | (go_at_call 12; refine (implLengthOf_any _ _ _).mono ?_; rintro e w3 ⟨⟨s, rfl, hs⟩, hb⟩; obtain rfl := hs.no HV.out; clear hs; (first | (have hq := bcomp hc hf hz hb; clear hc hf hz; obtain ⟨hc, hf, hz⟩ := hq) | (obtain ⟨hc, hf⟩ := bcell hb; have hz := bsize hb)))
        )
      go_ret
      exact ⟨rfl, (by repeat (first | exact bw_refl _ | assumption | apply bw_alloc | apply bw_drew | apply bw_drewN | (refine bw_trans ?_ (by assumption)) | (refine bw_set ?_ (by simp only [go_sem]; omega) _)))⟩
    · obtain ⟨⟨x0, x1⟩, y0, y1⟩ := vecB_spec _ _ _ hv
      have HV := Lib.hid hv
      clear hv
      obtain ⟨sx0, sx1'⟩ := sq_bd X 536870912 (by omega) x0 x1
      obtain ⟨sy0, sy1'⟩ := sq_bd Y 536870912 (by omega) y0 y1
      have sx1 : X * X ≤ 288230376151711744 := by omega
      have sy1 : Y * Y ≤ 288230376151711744 := by omega
      clear sx1' sy1'
      go_wp2_with fail
      refine (implLengthOf_any _ _ _).mono ?_
      rintro e w2 ⟨⟨r, rfl, hr⟩, hb⟩
      (first | (have hq := bcomp hc hf hz hb; clear hc hf hz; obtain ⟨hc, hf, hz⟩ := hq) | (obtain ⟨hc, hf⟩ := bcell hb; have hz := bsize hb))
      have hr := hr.ok HV.out
      obtain ⟨r0, r1⟩ := root_bd hr (by omega)
      have HR := Lib.hid hr
      clear hr
      go_wp2_with fail
      refine (specLengthOf_any _ _ _).mono ?_
      rintro e w3 ⟨⟨s, rfl, hs⟩, hb⟩
      (first | (have hq := bcomp hc hf hz hb; clear hc hf hz; obtain ⟨hc, hf, hz⟩ := hq) | (obtain ⟨hc, hf⟩ := bcell hb; have hz := bsize hb))
      obtain rfl := (hs.ok HV.out).one HR.out
      clear hs
      go_wp2_with fail
      refine (implLengthOf_any _ _ _).mono ?_
      rintro e w4 ⟨⟨s2, rfl, hs2⟩, hb⟩
      (first | (have hq := bcomp hc hf hz hb; clear hc hf hz; obtain ⟨hc, hf, hz⟩ := hq) | (obtain ⟨hc, hf⟩ := bcell hb; have hz := bsize hb))
      obtain rfl := IsLen.swap HV.out HR.out hs2
      clear hs2
      go_wp2_with fail
      refine (implLengthOf_any _ _ _).mono ?_
      rintro e w5 ⟨⟨s3, rfl, hs3⟩, hb⟩
      (first | (have hq := bcomp hc hf hz hb; clear hc hf hz; obtain ⟨hc, hf, hz⟩ := hq) | (obtain ⟨hc, hf⟩ := bcell hb; have hz := bsize hb))
      obtain rfl := IsLen.negX HV.out HR.out hs3
      clear hs3
      go_wp2
      go_ret
      exact ⟨ret_bool (by simp), (by repeat (first | exact bw_refl _ | assumption | apply bw_alloc | apply bw_drew | apply bw_drewN | (refine bw_trans ?_ (by assumption)) | (refine bw_set ?_ (by simp only [go_sem]; omega) _)))⟩
theorem walk_FnLengthOf (A : Option Addr) (n c : Nat) (xs : List Int) (w : World) (h : Byts w w.heap.size A xs) (hn : xs.length = n) (hc : n ≤ c) (hm : c ≤ maxLen) :
    Calls Try.prog 6 #[.slice A n c] w fun e w' => e = .returned (.bool true) ∧ Below w.heap.size w w' := by
  by_cases hbig : 1048576 < n
  · unfold maxLen at hm
    clear hn
    go_enter Try.func6, Try.ntmps6
    go_wp2
    go_ret
    exact ⟨rfl, (by repeat (first | exact bw_refl _ | assumption | apply bw_alloc | apply bw_drew | apply bw_drewN | (refine bw_trans ?_ (by assumption)) | (refine bw_set ?_ (by simp only [go_sem]; omega) _)))⟩
  · have HN := Lib.hid hn
    clear hn
    go_enter Try.func6, Try.ntmps6
    go_wp2_with fail
    refine (drawLengthOf_any A n c xs w w h HN.out hc hm (by omega) (bw_refl w)).mono ?_
    rintro e w1 ⟨X, Y, rfl, hb1⟩
    obtain ⟨hc, hf⟩ := bcell hb1
    have hz := bsize hb1
    cases hv : vecB 536870912 X Y
    · have HV := Lib.hid hv
      clear hv
      go_wp2_with (first
        | (go_at_call 11; refine (specLengthOf_any _ _ _).mono ?_; rintro e w2 ⟨⟨r, rfl, hr⟩, hb⟩; obtain rfl := hr.no HV.out; clear hr; (first | (have hq := bcomp hc hf hz hb; clear hc hf hz; obtain ⟨hc, hf, hz⟩ := hq) | (obtain ⟨hc, hf⟩ := bcell hb; have hz := bsize hb)))
        | (go_at_call 12; refine (implLengthOf_any _ _ _).mono ?_; rintro e w3 ⟨⟨s, rfl, hs⟩, hb⟩; obtain rfl := hs.no HV.out; clear hs; (first | (have hq := bcomp hc hf hz hb; clear hc hf hz; obtain ⟨hc, hf, hz⟩ := hq) | (obtain ⟨hc, hf⟩ := bcell hb; have hz := bsize hb)))
        | (go_at_call 14; refine (alive_any _).mono ?_; rintro e w4 ⟨rfl, rfl⟩))
      go_ret
      exact ⟨rfl, (by repeat (first | exact bw_refl _ | assumption | apply bw_alloc | apply bw_drew | apply bw_drewN | (refine bw_trans ?_ (by assumption)) | (refine bw_set ?_ (by simp only [go_sem]; omega) _)))⟩
    · obtain ⟨⟨x0, x1⟩, y0, y1⟩ := vecB_spec _ _ _ hv
      have HV := Lib.hid hv
      clear hv
      obtain ⟨sx0, sx1'⟩ := sq_bd X 536870912 (by omega) x0 x1
      obtain ⟨sy0, sy1'⟩ := sq_bd Y 536870912 (by omega) y0 y1
      have sx1 : X * X ≤ 288230376151711744 := by omega
      have sy1 : Y * Y ≤ 288230376151711744 := by omega
      clear sx1' sy1'
      go_wp2_with fail
      refine (implLengthOf_any _ _ _).mono ?_
      rintro e w2 ⟨⟨r, rfl, hr⟩, hb⟩
      (first | (have hq := bcomp hc hf hz hb; clear hc hf hz; obtain ⟨hc, hf, hz⟩ := hq) | (obtain ⟨hc, hf⟩ := bcell hb; have hz := bsize hb))
      have hr := hr.ok HV.out
      obtain ⟨r0, r1⟩ := root_bd hr (by omega)
      have HR := Lib.hid hr
      clear hr
      go_wp2_with fail
      refine (specLengthOf_any _ _ _).mono ?_
      rintro e w3 ⟨⟨s, rfl, hs⟩, hb⟩
      (first | (have hq := bcomp hc hf hz hb; clear hc hf hz; obtain ⟨hc, hf, hz⟩ := hq) | (obtain ⟨hc, hf⟩ := bcell hb; have hz := bsize hb))
      obtain rfl := (hs.ok HV.out).one HR.out
      clear hs
      have q0 : s * s ≤ X * X + Y * Y := HR.out.2.1
      have q1 : X * X + Y * Y < (s + 1) * (s + 1) := HR.out.2.2
      have q2 := sq_le s 759250124 r0 r1
      have q3 := sq_le (s + 1) 759250125 (by omega) (by omega)
      have q4 := sq_le 0 s (by omega) r0
      have q5 := sq_le 0 (s + 1) (by omega) (by omega)
      simp only [Int.reduceMul] at q2 q3 q4 q5
      go_wp2_with fail
      refine (implLengthOf_any _ _ _).mono ?_
      rintro e w4 ⟨⟨s2, rfl, hs2⟩, hb⟩
      (first | (have hq := bcomp hc hf hz hb; clear hc hf hz; obtain ⟨hc, hf, hz⟩ := hq) | (obtain ⟨hc, hf⟩ := bcell hb; have hz := bsize hb))
      obtain rfl := IsLen.quarter HV.out HR.out hs2
      clear hs2
      go_wp2
      go_ret
      exact ⟨ret_bool (by simp), (by repeat (first | exact bw_refl _ | assumption | apply bw_alloc | apply bw_drew | apply bw_drewN | (refine bw_trans ?_ (by assumption)) | (refine bw_set ?_ (by simp only [go_sem]; omega) _)))⟩
theorem walk_FnDotOf (A : Option Addr) (n c : Nat) (xs : List Int) (w : World) (h : Byts w w.heap.size A xs) (hn : xs.length = n) (hc : n ≤ c) (hm : c ≤ maxLen) :
    Calls Try.prog 7 #[.slice A n c] w fun e w' => e = .returned (.bool true) ∧ Below w.heap.size w w' := by
  by_cases hbig : 1048576 < n
  · unfold maxLen at hm
    clear hn
    go_enter Try.func7, Try.ntmps7
    go_wp2
    go_ret
    exact ⟨rfl, (by repeat (first | exact bw_refl _ | assumption | apply bw_alloc | apply bw_drew | apply bw_drewN | (refine bw_trans ?_ (by assumption)) | (refine bw_set ?_ (by simp only [go_sem]; omega) _)))⟩
  · have HN := Lib.hid hn
    clear hn
    go_enter Try.func7, Try.ntmps7
    go_wp2_with fail
    refine (drawDotOf_any A n c xs w w h HN.out hc hm (by omega) (bw_refl w)).mono ?_
    rintro e w1 ⟨X, Y, X2, Y2, rfl, hb1⟩
    obtain ⟨hc, hf⟩ := bcell hb1
    have hz := bsize hb1
    go_wp2_with fail
    refine (implDotOf_any _ _ _ _ _).mono ?_
    rintro e w2 ⟨he, hb⟩
    (first | (have hq := bcomp hc hf hz hb; clear hc hf hz; obtain ⟨hc, hf, hz⟩ := hq) | (obtain ⟨hc, hf⟩ := bcell hb; have hz := bsize hb))
    obtain ⟨D, hD⟩ : ∃ D, dotOf X Y X2 Y2 = D := ⟨_, rfl⟩
    rw [hD] at he
    subst he
    have HD := Lib.hid hD
    clear hD
    go_wp2_with fail
    refine (specDotOf_any _ _ _ _ _).mono ?_
    rintro e w3 ⟨he, hb⟩
    (first | (have hq := bcomp hc hf hz hb; clear hc hf hz; obtain ⟨hc, hf, hz⟩ := hq) | (obtain ⟨hc, hf⟩ := bcell hb; have hz := bsize hb))
    rw [HD.out] at he
    subst he
    go_wp2_with fail
    refine (implDotOf_any _ _ _ _ _).mono ?_
    rintro e w4 ⟨he, hb⟩
    (first | (have hq := bcomp hc hf hz hb; clear hc hf hz; obtain ⟨hc, hf, hz⟩ := hq) | (obtain ⟨hc, hf⟩ := bcell hb; have hz := bsize hb))
    rw [dotOf_comm, HD.out] at he
    subst he
    cases hv : vecB 1048576 X Y
    · have HV := Lib.hid hv
      clear hv
      go_wp2_with fail
      refine (implDotOf_any _ _ _ _ _).mono ?_
      rintro e w5 ⟨he, hb⟩
      (first | (have hq := bcomp hc hf hz hb; clear hc hf hz; obtain ⟨hc, hf, hz⟩ := hq) | (obtain ⟨hc, hf⟩ := bcell hb; have hz := bsize hb))
      rw [dotOf_no HV.out] at he
      subst he
      go_wp2_with fail
      refine (implLengthOf_any _ _ _).mono ?_
      rintro e w6 ⟨⟨r, rfl, hr⟩, hb⟩
      clear hr
      (first | (have hq := bcomp hc hf hz hb; clear hc hf hz; obtain ⟨hc, hf, hz⟩ := hq) | (obtain ⟨hc, hf⟩ := bcell hb; have hz := bsize hb))
      by_cases hr0 : 0 < r
      all_goals
        go_wp2_with fail
        refine (implDotOf_any _ _ _ _ _).mono ?_
        rintro e w7 ⟨he, hb⟩
        (first | (have hq := bcomp hc hf hz hb; clear hc hf hz; obtain ⟨hc, hf, hz⟩ := hq) | (obtain ⟨hc, hf⟩ := bcell hb; have hz := bsize hb))
        rw [dotOf_no HV.out] at he
        subst he
        go_wp2_with (go_at_call 14; refine (alive_any _).mono ?_; rintro e w4 ⟨rfl, rfl⟩)
        go_ret
        exact ⟨ret_bool (by simp), (by repeat (first | exact bw_refl _ | assumption | apply bw_alloc | apply bw_drew | apply bw_drewN | (refine bw_trans ?_ (by assumption)) | (refine bw_set ?_ (by simp only [go_sem]; omega) _)))⟩
    · obtain ⟨⟨x0, x1⟩, y0, y1⟩ := vecB_spec _ _ _ hv
      have HV := Lib.hid hv
      clear hv
      have HV2 := Lib.hid (vecB_more HV.out (by omega) : vecB 536870912 X Y = true)
      obtain ⟨sx0, sx1'⟩ := sq_bd X 1048576 (by omega) x0 x1
      obtain ⟨sy0, sy1'⟩ := sq_bd Y 1048576 (by omega) y0 y1
      have sx1 : X * X ≤ 1099511627776 := by omega
      have sy1 : Y * Y ≤ 1099511627776 := by omega
      clear sx1' sy1'
      go_wp2_with fail
      refine (implDotOf_any _ _ _ _ _).mono ?_
      rintro e w5 ⟨he, hb⟩
      (first | (have hq := bcomp hc hf hz hb; clear hc hf hz; obtain ⟨hc, hf, hz⟩ := hq) | (obtain ⟨hc, hf⟩ := bcell hb; have hz := bsize hb))
      rw [dotOf_own HV.out] at he
      subst he
      go_wp2_with fail
      refine (implLengthOf_any _ _ _).mono ?_
      rintro e w6 ⟨⟨r, rfl, hr⟩, hb⟩
      (first | (have hq := bcomp hc hf hz hb; clear hc hf hz; obtain ⟨hc, hf, hz⟩ := hq) | (obtain ⟨hc, hf⟩ := bcell hb; have hz := bsize hb))
      have hr := hr.ok HV2.out
      obtain ⟨r0, r1⟩ := root_bd hr (by omega)
      have q0 : r * r ≤ X * X + Y * Y := hr.2.1
      have q2 := sq_le r 759250124 r0 r1
      have q4 := sq_le 0 r (by omega) r0
      simp only [Int.reduceMul] at q2 q4
      clear hr
      have emx : max 0 r = r := by omega
      go_wp2_with fail
      all_goals
        refine (implDotOf_any _ _ _ _ _).mono ?_
        rintro e w7 ⟨he, hb⟩
        (first | (have hq := bcomp hc hf hz hb; clear hc hf hz; obtain ⟨hc, hf, hz⟩ := hq) | (obtain ⟨hc, hf⟩ := bcell hb; have hz := bsize hb))
        rw [dotOf_quarter] at he
        subst he
        go_wp2_with (go_at_call 14; refine (alive_any _).mono ?_; rintro e w4 ⟨rfl, rfl⟩)
        go_ret
        exact ⟨ret_bool (by simp), (by repeat (first | exact bw_refl _ | assumption | apply bw_alloc | apply bw_drew | apply bw_drewN | (refine bw_trans ?_ (by assumption)) | (refine bw_set ?_ (by simp only [go_sem]; omega) _)))⟩
end Go.Proofs.Ytamllajbnmedgaa
