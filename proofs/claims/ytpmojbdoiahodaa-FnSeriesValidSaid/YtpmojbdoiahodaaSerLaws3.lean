/- The walk of the law SeriesValid; no condition. -/
import Derived.Test.YtpmojbdoiahodaaSerMath
import Derived.Test.YtpmojbdoiahodaaSerDraw2
import Derived.Test.YtpmojbdoiahodaaSpike
import Derived.Deep.Upon
import Derived.Lib.AppendZeros
namespace Go.Proofs.Ytpmojbdoiahodaa
open Go.RowKit
set_option linter.unusedVariables false
set_option linter.unusedSimpArgs false
set_option maxHeartbeats 1000000
set_option maxRecDepth 100000

theorem seriesB_drop (l : List Int) (h : seriesB l = true) (k : Nat) : seriesB (l.drop k) = true := by
  obtain ⟨hl, hb⟩ := seriesB_at l h
  refine seriesB_mk _ (by simp; omega) fun j hj => ?_
  simp at hj
  have e : (l.drop k).getD j 0 = l.getD (k + j) 0 := by simp [List.getD]
  rw [e]
  exact hb (k + j) (by omega)
theorem seriesB_worse (l : List Int) : seriesB (l ++ [1000001]) = false := by
  cases h : seriesB (l ++ [1000001])
  · rfl
  · have h2 := (seriesB_at _ h).2 l.length (by simp)
    have e : (l ++ [1000001]).getD l.length 0 = 1000001 := by simp [List.getD]
    rw [e] at h2
    omega
theorem Ints.drop {w : World} {B g f k : Nat} {l : List Int} (h : Ints w B (some ⟨g, f, none⟩) l) (hl : 0 < l.length) : Ints w B (some ⟨g, f + k, none⟩) (l.drop k) := fun hp => by
  obtain ⟨g', f', e, hB, hc⟩ := h hl
  simp only [Option.some.injEq, Addr.mk.injEq] at e
  obtain ⟨rfl, rfl, _⟩ := e
  refine ⟨_, _, rfl, hB, fun j hj => ?_⟩
  simp at hj
  have e : (l.drop k).getD j 0 = l.getD (k + j) 0 := by simp [List.getD]
  rw [e, Nat.add_assoc]
  exact hc _ (by omega)
theorem wpList_append_ints_g {ops : Array Oper} {rest : List Oper} {o : Oper} {a : Act} {Q : Exit → Act → World → Prop} (hw : Region.wanted o (yielded ops a.tmps) = true) (s x : Operand) (ho : o.op = .call { callee := .builtin .append, args := #[s, x], argTypes := #[22, 22] })
    (B : Nat) (A : Option Addr) (c : Nat) (v : Value) (l y : List Int) (w0 W : World) (hs : a.eval s = v) (hx : a.eval x = .slice A y.length c) (hA : App W B v l) (hy : Ints W W.heap.size A y)
    (hl : l.length ≤ 4294967296) (hyl : y.length ≤ 4294967296) (hb : Below B w0 W) (hB : B ≤ W.heap.size)
    (h : ∀ v' w', App w' B v' (l ++ y) → Below B w0 w' → wpList Try.prog ops Q rest (a.put o.dst v') w') : wpList Try.prog ops Q (o :: rest) a W := by
  obtain ⟨i, hi, hzz⟩ := Option.map_eq_some_iff.1 info_int
  simp only [Prod.mk.injEq] at hzz
  obtain ⟨hz, hsz, hby⟩ := hzz
  refine BigFrame.wpList_want hw fun K hK => ?_
  rcases Nat.eq_zero_or_pos y.length with h0 | h0
  · obtain rfl : y = [] := List.length_eq_zero_iff.1 h0
    obtain ⟨A2, c2, rfl, ho2⟩ := hA.form
    have hA3 : App W B (.slice A2 l.length c2) (l ++ []) := by simpa using hA
    refine Lib.wp_append_run W s x _ _ ho _ _ hs hx _ W ?_ (hK _ _ (h _ W hA3 hb))
    refine run_append_nothing W _ _ _ 3 i Try.underlying22 hi A2 l.length c2 ho2.2.1 _ ?_
    cases A with
    | none => exact Src.ofNil W Try.underlying22 c
    | some ad => exact Src.ofSlice W Try.underlying22 ad 0 c [] (by simp) (fun j u hu => by cases hu) (fun u hu => by cases hu)
  · obtain ⟨b, off, rfl, hlt, hc⟩ := hy h0
    refine wp_append_own _ s x 22 ho B 3 i (.int .i64 0) 1 8 Try.underlying22 hi hz hsz hby rfl (by decide) v l.length (l.map (Value.int .i64)) hs hA
      ⟨b, off, none⟩ y.length c (y.map (Value.int .i64)) hx (by simp) ?_ ?_ (by unfold maxLen; omega) (by omega) hB ?_
    · intro j u hj
      have hj2 : j < y.length := by
        rcases Nat.lt_or_ge j y.length with h | h
        · exact h
        · rw [List.getElem?_eq_none (by simpa using h)] at hj; cases hj
      have e : (Addr.add ⟨b, off, none⟩ j) = ⟨b, off + j, none⟩ := by
        by_cases hj0 : j = 0
        · subst hj0; simp [Addr.add]
        · simp [Addr.add, hj0]
      rw [e, hc j hj2]
      rw [List.getElem?_map, List.getElem?_eq_getElem hj2] at hj
      simp only [Option.map_some, Option.some.injEq] at hj
      rw [← hj]
      simp [List.getD, hj2]
    · intro u hu
      rw [List.mem_map] at hu
      obtain ⟨q, _, rfl⟩ := hu
      rfl
    · intro v' w' hown hg _
      refine hK _ _ (h v' w' ?_ (Below.grown hb hg hB fun k hk => ?_))
      · have e : l.map (Value.int IntKind.i64) ++ y.map (Value.int .i64) = (l ++ y).map (Value.int .i64) := by simp
        rw [e] at hown
        have e2 : l.length + y.length = (l ++ y).length := by simp
        rw [e2] at hown
        exact hown
      · exact (World.ownsRow.lt hA k hk).1
theorem wpList_append_int_g {ops : Array Oper} {rest : List Oper} {o : Oper} {a : Act} {Q : Exit → Act → World → Prop} (hw : Region.wanted o (yielded ops a.tmps) = true) (s x : Operand) (ho : o.op = .call { callee := .builtin .append, args := #[s, x], argTypes := #[22, 22] })
    (B : Nat) (v : Value) (l : List Int) (y : Int) (w0 W : World) (hs : a.eval s = v) (hx : a.eval x = .slice (some ⟨W.heap.size, 0, none⟩) 1 1) (hA : App W B v l) (hl : l.length ≤ 4294967296) (hb : Below B w0 W) (hB : B ≤ W.heap.size)
    (h : ∀ v' w', App w' B v' (l ++ [y]) → Below B w0 w' → wpList Try.prog ops Q rest (a.put o.dst v') w') : wpList Try.prog ops Q (o :: rest) a (W.alloc (.cells #[.int .i64 y] 3)) :=
  BigFrame.wpList_want hw fun _ hK => wp_append_int s x ho B v l y w0 W hs hx hA hl hb hB fun v' w' h2 h3 => hK _ _ (h v' w' h2 h3)

theorem Ints.from {w : World} {B : Nat} {A : Option Addr} {l : List Int} (h : Ints w B A l) (c k : Nat) (hk : k ≤ l.length) (hc : l.length ≤ c) :
    Ints w B (if c = k then A else Option.map (fun x => x.add k) A) (l.drop k) := fun hp => by
  simp at hp
  obtain ⟨g, f, rfl, hB, hcs⟩ := h (by omega)
  have hne : ¬ c = k := by omega
  rw [if_neg hne]
  refine ⟨g, f + k, by simp [Addr.add_lit], hB, fun j hj => ?_⟩
  simp at hj
  have e : (l.drop k).getD j 0 = l.getD (k + j) 0 := by simp [List.getD]
  rw [e, Nat.add_assoc]
  exact hcs _ (by omega)

theorem walk_FnSeriesValid (A : Option Addr) (n c : Nat) (xs : List Int) (w : World) (h : Byts w w.heap.size A xs) (hn : xs.length = n) (hc : n ≤ c) (hm : c ≤ maxLen) :
    Calls Try.prog 8 #[.slice A n c] w fun e w' => e = .returned (.bool true) ∧ Below w.heap.size w w' := by
  by_cases hbig : 1048576 < n
  · unfold maxLen at hm
    clear hn
    go_enter Try.func8, Try.ntmps8
    go_wp2
    go_ret
    exact ⟨rfl, (by repeat (first | exact bw_refl _ | assumption | apply bw_alloc | apply bw_drew | apply bw_drewN | (refine bw_trans ?_ (by assumption)) | (refine bw_set ?_ (by simp only [go_sem]; omega) _)))⟩
  · have HN := Lib.hid hn
    clear hn
    go_enter Try.func8, Try.ntmps8
    go_wp2_with fail
    refine (drawSeriesValid_any A n c xs w w h HN.out hc hm (by omega) (bw_refl w)).mono ?_
    rintro e w1 ⟨A1, c1, l, rfl, hl, o1, b1⟩
    have hlen : l.length ≤ 4294967296 := by omega
    have hc1 : l.length ≤ c1 := o1.2.1
    have i1 := o1.ints
    clear o1
    have hA := App.empty w1 w1.heap.size (Nat.le_refl _)
    have hb1 := bw_alloc (bw_refl w1) (.cells #[] 3)
    have hs1 : w1.heap.size ≤ (w1.alloc (.cells #[] 3)).heap.size := hb1.size
    have i2 := i1.up hb1
    have HW := Lib.hid (seriesB_worse l)
    cases hs : seriesB l
    · have HS := Lib.hid hs
      clear hs
      go_wp2_with (first
        | (have := i7; go_at_call 16; refine (implSeriesValid_any A7 _ c7 L _ rfl i7 hL7).mono ?_; rintro e w8 ⟨he, hb8⟩; rw [hW7.out] at he; subst he; try subst hb8)
        | (go_at_call 16; refine (implSeriesValid_any A1 _ c1 l _ rfl i1 hlen).mono ?_; rintro e w5 ⟨he, hb⟩; rw [HS.out] at he; subst he; try subst hb)
        | (go_at_call 14; refine (specSeriesValid_any A1 _ c1 l _ rfl i1 hlen).mono ?_; rintro e w5 ⟨he, hb⟩; rw [HS.out] at he; subst he; try subst hb)
        | (have := hP3; at_builtin; refine wpList_append_int_g (by kernel_rfl) (.tmp 29) (.tmp 30) rfl w1.heap.size _ l 1000001 w1 _ rfl rfl hP3 hlen hb6 hs6 ?_; rintro v4 w7 hP4 hb7; obtain ⟨L, hL7, hW7, hP5⟩ : ∃ L : List Int, L.length ≤ 4294967296 ∧ Hid (seriesB L = false) ∧ App w7 w1.heap.size v4 L := ⟨_, by simp; omega, HW, hP4⟩; clear hP4 hP3; obtain ⟨A7, c7, rfl, ho7⟩ := hP5.form; have i7 := ho7.ints; clear hP5 ho7)
        | (at_builtin; refine wpList_append_ints_g (by kernel_rfl) (.tmp 27) (.tmp 28) rfl w1.heap.size A1 c1 _ [] l w1 (w1.alloc (.cells #[] 3)) rfl rfl hA i2 (by decide) hlen hb1 hs1 ?_; rintro v3 w6 hP3 hb6; rw [List.nil_append] at hP3; have hs6 := hb6.size)
        | (go_at_call 29; refine (alive_any _).mono ?_; rintro e w9 ⟨rfl, rfl⟩))
      go_ret
      exact ⟨ret_bool (by simp), (by repeat (first | exact bw_refl _ | assumption | apply bw_alloc | apply bw_drew | apply bw_drewN | (refine bw_trans ?_ (by assumption)) | (refine bw_set ?_ (by simp only [go_sem]; omega) _)))⟩
    · have HS := Lib.hid hs
      have HD := Lib.hid (seriesB_drop l hs (l.length / 2))
      clear hs
      have hq : (l.length : Int).tdiv 2 = ((l.length / 2 : Nat) : Int) := by rw [Int.tdiv_eq_ediv_of_nonneg (by omega)]; rfl
      have id1 := i1.from c1 (l.length / 2) (by omega) hc1
      obtain ⟨D, hD⟩ : ∃ D, l.drop (l.length / 2) = D := ⟨_, rfl⟩
      have hDl : D.length = l.length - l.length / 2 := by rw [← hD]; simp
      rw [hD] at id1
      have HD2 : Hid (seriesB D = true) := by rw [← hD]; exact HD
      obtain ⟨k, hk⟩ : ∃ k, l.length / 2 = k := ⟨_, rfl⟩
      rw [hk] at hq id1 hDl
      have hkl : k ≤ l.length := by omega
      have e1 : IntKind.i64.wrap (k : Int) = (k : Int) := IntWalk.i64_in _ (by omega)
      have e2 : (k : Int) ≤ (l.length : Int) := by omega
      clear hD hk HD
      have HDL := Lib.hid hDl
      clear hDl
      have hfirst := True.intro
      go_wp2_with (first
        | (have := i7; go_at_call 16; (with_reducible refine (implSeriesValid_any A7 _ c7 L _ rfl i7 hL7).mono ?_); rintro e w8 ⟨he, hb8⟩; rw [hW7.out] at he; subst he; try subst hb8)
        | (have := hfirst; go_at_call 16; (with_reducible refine (implSeriesValid_any A1 _ c1 l _ rfl i1 hlen).mono ?_); rintro e w5 ⟨he, hb⟩; rw [HS.out] at he; subst he; try subst hb; clear hfirst)
        | (go_at_call 14; refine (specSeriesValid_any A1 _ c1 l _ rfl i1 hlen).mono ?_; rintro e w5 ⟨he, hb⟩; rw [HS.out] at he; subst he; try subst hb)
        | (go_at_call 16; (with_reducible refine (implSeriesValid_any _ _ (c1 - k) D _ HDL.out id1 (by omega)).mono ?_); rintro e w5 ⟨he, hb⟩; rw [HD2.out] at he; subst he; try subst hb)
        | (have := hP3; at_builtin; refine wpList_append_int_g (by kernel_rfl) (.tmp 29) (.tmp 30) rfl w1.heap.size _ l 1000001 w1 _ rfl rfl hP3 hlen hb6 hs6 ?_; rintro v4 w7 hP4 hb7; obtain ⟨L, hL7, hW7, hP5⟩ : ∃ L : List Int, L.length ≤ 4294967296 ∧ Hid (seriesB L = false) ∧ App w7 w1.heap.size v4 L := ⟨_, by simp; omega, HW, hP4⟩; clear hP4 hP3; obtain ⟨A7, c7, rfl, ho7⟩ := hP5.form; have i7 := ho7.ints; clear hP5 ho7)
        | (at_builtin; refine wpList_append_ints_g (by kernel_rfl) (.tmp 27) (.tmp 28) rfl w1.heap.size A1 c1 _ [] l w1 (w1.alloc (.cells #[] 3)) rfl rfl hA i2 (by decide) hlen hb1 hs1 ?_; rintro v3 w6 hP3 hb6; rw [List.nil_append] at hP3; have hs6 := hb6.size)
        | (go_at_call 29; refine (alive_any _).mono ?_; rintro e w9 ⟨rfl, rfl⟩))
      all_goals
        go_ret
        exact ⟨ret_bool (by simp), (by repeat (first | exact bw_refl _ | assumption | apply bw_alloc | apply bw_drew | apply bw_drewN | (refine bw_trans ?_ (by assumption)) | (refine bw_set ?_ (by simp only [go_sem]; omega) _)))⟩
end Go.Proofs.Ytpmojbdoiahodaa
