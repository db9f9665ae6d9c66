/- Appended slices of knots and the plain shape of JoinKnots; condition: lengths of at most 2^32. -/
import Derived.Test.YtiimaodphhaohaaKnM
import Derived.Deep.Upon
import Derived.Lib.AppendZeros
import Derived.Laws.MakeOwn
namespace Go.Proofs.Ytiimaodphhaohaa
open Go.RowKit
set_option linter.unusedVariables false
set_option linter.unusedSimpArgs false
set_option maxHeartbeats 1000000
set_option maxRecDepth 100000

theorem wpList_append_knots {ops : Array Oper} {rest : List Oper} {o : Oper} {a : Act} {Q : Exit → Act → World → Prop} (hw : Region.wanted o (yielded ops a.tmps) = true) (s x : Operand) (ho : o.op = .call { callee := .builtin .append, args := #[s, x], argTypes := #[25, 25] })
    (B : Nat) (A : Option Addr) (n m c : Nat) (v : Value) (l y : List Int) (w0 W : World) (hs : a.eval s = v) (hx : a.eval x = .slice A m c) (hA : AppK W B v n l) (hyl : y.length = m * 2) (hy : Ints W W.heap.size A y)
    (hl : n ≤ 4294967296) (hm : m ≤ 4294967296) (hb : Below B w0 W) (hB : B ≤ W.heap.size)
    (h : ∀ v' w', AppK w' B v' (n + m) (l ++ y) → Below B w0 w' → wpList Try.prog ops Q rest (a.put o.dst v') w') : wpList Try.prog ops Q (o :: rest) a W := by
  obtain ⟨i, hi, hzz⟩ := Option.map_eq_some_iff.1 info_knot
  simp only [Prod.mk.injEq] at hzz
  obtain ⟨hz, hsz, hby⟩ := hzz
  refine BigFrame.wpList_want hw fun K hK => ?_
  rcases Nat.eq_zero_or_pos m with h0 | h0
  · subst h0
    obtain rfl : y = [] := List.length_eq_zero_iff.1 (by omega)
    have hA3 : AppK W B v (n + 0) (l ++ []) := by simpa using hA
    obtain ⟨A2, c2, rfl, ho2⟩ := hA.form
    refine Lib.wp_append_run W s x _ _ ho _ _ hs hx _ W ?_ (hK _ _ (h _ W hA3 hb))
    refine run_append_nothing W _ _ _ 41 i Try.underlying25 hi A2 n c2 ho2.2.1 _ ?_
    cases A with
    | none => exact Src.ofNil W Try.underlying25 c
    | some ad => exact Src.ofSlice W Try.underlying25 ad 0 c [] (by simp) (fun j u hu => by cases hu) (fun u hu => by cases hu)
  · obtain ⟨b, off, rfl, hlt, hc⟩ := hy (by omega)
    refine wp_append_own _ s x 25 ho B 41 i (.agg #[.int .i64 0, .int .i64 0]) 2 16 Try.underlying25 hi hz hsz hby rfl (by decide) v n (l.map (Value.int .i64)) hs hA.2
      ⟨b, off, none⟩ m c (y.map (Value.int .i64)) hx (by simp [hyl]) ?_ ?_ (by unfold maxLen; omega) (by omega) hB ?_
    · intro j u hj
      have hj2 : j < y.length := by
        rcases Nat.lt_or_ge j y.length with h | h
        · exact h
        · rw [List.getElem?_eq_none (by simpa using h)] at hj; cases hj
      have e : (Addr.add ⟨b, off, none⟩ j) = ⟨b, off + j, none⟩ := by
        by_cases hj0 : j = 0
        · subst hj0; simp [Addr.add]
        · simp [Addr.add, hj0]
      rw [e, hc j hj2]
      rw [List.getElem?_map, List.getElem?_eq_getElem hj2] at hj
      simp only [Option.map_some, Option.some.injEq] at hj
      rw [← hj]
      simp [List.getD, hj2]
    · intro u hu
      rw [List.mem_map] at hu
      obtain ⟨q, _, rfl⟩ := hu
      rfl
    · intro v' w' hown hg _
      refine hK _ _ (h v' w' ⟨by simp [hA.1, hyl]; omega, ?_⟩ (Below.grown hb hg hB fun k hk => ?_))
      · have e : l.map (Value.int IntKind.i64) ++ y.map (Value.int .i64) = (l ++ y).map (Value.int .i64) := by simp
        rw [e] at hown
        exact hown
      · exact (World.ownsRow.lt hA.2 k hk).1
theorem run_make_room (n : Nat) (hn : n ≤ 4294967296) (B : Nat) (w : World) (hB : B ≤ w.heap.size) : ∃ w', (Instr.makeSlice 25 (.int .i64 0) (.int .i64 ((n : Int) + 1))).run Try.prog w = .ok (.slice (some ⟨w.heap.size, 0, none⟩) 0 (n + 1)) w' ∧
    AppK w' B (.slice (some ⟨w.heap.size, 0, none⟩) 0 (n + 1)) 0 [] ∧ Below w.heap.size w w' := by
  obtain ⟨i, hi, hzz⟩ := Option.map_eq_some_iff.1 info_knot
  simp only [Prod.mk.injEq] at hzz
  obtain ⟨hz, hs, hb⟩ := hzz
  have hs2 : i.size = 2 := hs
  have hb2 : i.bytes = 16 := hb
  have hr := run_make (P := Try.prog) w 25 41 i _ Try.underlying25 hi hz .i64 .i64 0 ((n + 1 : Nat) : Int) (by omega) (by omega) (by rw [hb2]; omega) (by omega)
  simp only [Int.toNat_natCast, hs2] at hr
  refine ⟨_, hr, ⟨rfl, ?_⟩, bw_alloc (bw_refl w) _⟩
  exact World.ownsRow_made w _ (n + 1) hB (by unfold maxLen; omega) (size_madeCells _ _)
/-! ### the plain shape -/
def fullB (xs : List Int) (n : Nat) (x : Int) : Bool := (decide (ffN xs x n < n) && decide (kAt xs (ffN xs x n) = x)) || decide (n = 12)
def joinOk (xs : List Int) (n : Nat) (x : Int) : Bool := knotsB xs n && inB x (-1000000) 1000000
def insL (xs : List Int) (p : Nat) (u v : Int) : List Int := (xs.take (p * 2) ++ [u, v]) ++ xs.drop (p * 2)
def joinN (xs : List Int) (n : Nat) (x : Int) : Nat := if joinOk xs n x then (if fullB xs n x then n else n + 1) else 0
def joinL (xs : List Int) (n : Nat) (x : Int) : List Int := if joinOk xs n x then (if fullB xs n x then xs else insL xs (ffN xs x n) x (kvF xs n x)) else []
def joinB (xs : List Int) (n : Nat) (x : Int) : Bool := joinOk xs n x && !fullB xs n x
theorem joinN_le (xs : List Int) (n : Nat) (x : Int) (h : n ≤ 1048576) : joinN xs n x ≤ 4294967296 := by unfold joinN; split <;> (try split) <;> omega
theorem join_no {xs : List Int} {n : Nat} {x : Int} (h : joinOk xs n x = false) : Hid (joinN xs n x = 0 ∧ joinL xs n x = [] ∧ joinB xs n x = false) := by
  unfold Hid joinN joinL joinB; rw [h]; exact ⟨rfl, rfl, rfl⟩
theorem join_full {xs : List Int} {n : Nat} {x : Int} (h : joinOk xs n x = true) (h2 : fullB xs n x = true) : Hid (joinN xs n x = n ∧ joinL xs n x = xs ∧ joinB xs n x = false) := by
  unfold Hid joinN joinL joinB; rw [h, h2]; exact ⟨rfl, rfl, rfl⟩
theorem join_ins {xs : List Int} {n : Nat} {x : Int} (h : joinOk xs n x = true) (h2 : fullB xs n x = false) : Hid (joinN xs n x = n + 1 ∧ joinL xs n x = insL xs (ffN xs x n) x (kvF xs n x) ∧ joinB xs n x = true) := by
  unfold Hid joinN joinL joinB; rw [h, h2]; exact ⟨rfl, rfl, rfl⟩
theorem joinOk_not {xs : List Int} {n : Nat} {x : Int} (h : knotsB xs n = false ∨ inB x (-1000000) 1000000 = false) : joinOk xs n x = false := by
  unfold joinOk
  rcases h with h | h
  · rw [h]; rfl
  · rw [h, Bool.and_false]
theorem joinOk_yes {xs : List Int} {n : Nat} {x : Int} (h : knotsB xs n = true) (h2 : inB x (-1000000) 1000000 = true) : joinOk xs n x = true := by
  unfold joinOk; rw [h, h2]; rfl
theorem full_there {xs : List Int} {n : Nat} {x : Int} (h : ffN xs x n < n) (h2 : kAt xs (ffN xs x n) = x) : fullB xs n x = true := by
  unfold fullB; rw [decide_eq_true h, decide_eq_true h2]; rfl
theorem full_12 {xs : List Int} {n : Nat} {x : Int} (h : n = 12) : fullB xs n x = true := by
  unfold fullB; rw [decide_eq_true h, Bool.or_true]
theorem full_no {xs : List Int} {n : Nat} {x : Int} (h : ¬ n = 12) (h2 : ffN xs x n < n → ¬ kAt xs (ffN xs x n) = x) : fullB xs n x = false := by
  unfold fullB
  rw [decide_eq_false h, Bool.or_false]
  by_cases h3 : ffN xs x n < n
  · rw [decide_eq_false (h2 h3), Bool.and_false]
  · rw [decide_eq_false h3, Bool.false_and]
end Go.Proofs.Ytiimaodphhaohaa
