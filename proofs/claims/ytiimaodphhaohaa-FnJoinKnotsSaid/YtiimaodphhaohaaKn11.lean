/- Slices of knots that grow by append of one knot; TurnKnots, both sides; condition: lengths of at most 2^32. -/
import Derived.Test.YtiimaodphhaohaaKn10
import Derived.Deep.RegionLaw
namespace Go.Proofs.Ytiimaodphhaohaa
open Go.RowKit
set_option linter.unusedVariables false
set_option linter.unusedSimpArgs false
set_option maxHeartbeats 1000000

/-- The slice value v owns n knots, the numbers l; its block, if any, is from B on. -/
def AppK (w : World) (B : Nat) (v : Value) (n : Nat) (l : List Int) : Prop := l.length = n * 2 ∧ w.ownsRow B 41 2 v n (l.map (Value.int .i64))
theorem AppK.empty (w : World) (B : Nat) (hB : B ≤ w.heap.size) : AppK (w.alloc (.cells #[] 41)) B (.slice (some ⟨w.heap.size, 0, none⟩) 0 0) 0 [] :=
  ⟨rfl, World.ownsRow_lit w #[] 0 hB (Nat.zero_le _) rfl⟩
section
variable {w w' : World} {B n : Nat} {v : Value} {l : List Int}
theorem AppK.form (h : AppK w B v n l) : ∃ A c, v = .slice A n c ∧ OwnK B w A n c l := by
  obtain ⟨hl, _, h2⟩ := h
  rcases h2 with ⟨rfl, h0⟩ | ⟨g, cap, cur, rfl, hg, hh, hnc, _, hcs, htk⟩
  · exact ⟨none, 0, by rw [h0], hl, by omega, fun hp => by omega⟩
  · refine ⟨_, cap, rfl, hl, hnc, fun _ => ⟨g, rfl, hg, cur, hh, fun j hj => ?_⟩⟩
    have e : (cur.toList.take (n * 2))[j]? = some (.int .i64 (l.getD j 0)) := by
      rw [htk]; simp [List.getD, hj]
    have hj2 : j < n * 2 := by omega
    simpa [List.getElem?_take, hj2] using e
theorem AppK.alloc (h : AppK w B v n l) (o : Obj) : AppK (w.alloc o) B v n l := ⟨h.1, World.ownsRow.alloc h.2 o⟩
theorem AppK.keep (h : AppK w B v n l) (hb : Below w.heap.size w w') : AppK w' B v n l := by
  refine ⟨h.1, World.ownsRow.kept h.2 (row := none) ⟨hb.os, hb.tape, hb.output, hb.size, fun k hk _ => hb.block k hk⟩ ?_⟩
  cases v.ownBlock with
  | none => exact .inl rfl
  | some k => exact .inr (by simp)
end
theorem wp_append_knot {o : Oper} {a : Act} {K : Act → World → Prop} {Q : Exit → Act → World → Prop} (s x : Operand) (ho : o.op = .call { callee := .builtin .append, args := #[s, x], argTypes := #[25, 25] })
    (B n : Nat) (v : Value) (l : List Int) (y z : Int) (w0 W : World) (hs : a.eval s = v) (hx : a.eval x = .slice (some ⟨W.heap.size, 0, none⟩) 1 1) (hA : AppK W B v n l) (hl : n ≤ 4294967296) (hb : Below B w0 W) (hB : B ≤ W.heap.size)
    (h : ∀ v' w', AppK w' B v' (n + 1) (l ++ [y, z]) → Below B w0 w' → K (a.put o.dst v') w') : o.wp Try.prog a (W.alloc (.cells #[.int .i64 y, .int .i64 z] 41)) K Q := by
  obtain ⟨i, hi, hzz⟩ := Option.map_eq_some_iff.1 info_knot
  simp only [Prod.mk.injEq] at hzz
  obtain ⟨hz, hsz, hby⟩ := hzz
  refine wp_append_own _ s x 25 ho B 41 i (.agg #[.int .i64 0, .int .i64 0]) 2 16 Try.underlying25 hi hz hsz hby rfl (by decide) v n (l.map (Value.int .i64)) hs (World.ownsRow.alloc hA.2 _)
    ⟨W.heap.size, 0, none⟩ 1 1 [.int .i64 y, .int .i64 z] hx rfl ?_ ?_ (by unfold maxLen; omega) (by omega) (by simp; omega) ?_
  · intro j u hj
    match j, hj with
    | 0, hj =>
      simp at hj
      subst hj
      simp [Addr.add]
    | 1, hj =>
      simp at hj
      subst hj
      simp [Addr.add]
  · intro u hu
    simp at hu
    rcases hu with rfl | rfl <;> rfl
  · intro v' w' hown hg _
    refine h v' w' ⟨by simp [hA.1]; omega, ?_⟩ (Below.grown (hb.alloc hB _) hg (by simp; omega) fun k hk => ?_)
    · have e : l.map (Value.int IntKind.i64) ++ [Value.int .i64 y, Value.int .i64 z] = (l ++ [y, z]).map (Value.int .i64) := by simp
      rw [e] at hown
      exact hown
    · exact (World.ownsRow.lt hA.2 k hk).1
theorem wpList_append_knot {ops : Array Oper} {rest : List Oper} {o : Oper} {a : Act} {Q : Exit → Act → World → Prop} (hgd : o.guard = none) (s x : Operand) (ho : o.op = .call { callee := .builtin .append, args := #[s, x], argTypes := #[25, 25] })
    (B n : Nat) (v : Value) (l : List Int) (y z : Int) (w0 W : World) (hs : a.eval s = v) (hx : a.eval x = .slice (some ⟨W.heap.size, 0, none⟩) 1 1) (hA : AppK W B v n l) (hl : n ≤ 4294967296) (hb : Below B w0 W) (hB : B ≤ W.heap.size)
    (h : ∀ v' w', AppK w' B v' (n + 1) (l ++ [y, z]) → Below B w0 w' → wpList Try.prog ops Q rest (a.put o.dst v') w') : wpList Try.prog ops Q (o :: rest) a (W.alloc (.cells #[.int .i64 y, .int .i64 z] 41)) :=
  wpList_plain hgd fun _ hK => wp_append_knot s x ho B n v l y z w0 W hs hx hA hl hb hB fun v' w' h2 h3 => hK _ _ (h v' w' h2 h3)
theorem step_append_knot {ops : Array Oper} {o : Oper} {a : Act} {K : Act → World → Prop} {Q : Exit → Act → World → Prop} {E : Prop} (hgd : o.guard = none) (s x : Operand) (ho : o.op = .call { callee := .builtin .append, args := #[s, x], argTypes := #[25, 25] })
    (B n : Nat) (v : Value) (l : List Int) (y z : Int) (w0 W : World) (hs : a.eval s = v) (hx : a.eval x = .slice (some ⟨W.heap.size, 0, none⟩) 1 1) (hA : AppK W B v n l) (hl : n ≤ 4294967296) (hb : Below B w0 W) (hB : B ≤ W.heap.size)
    (h : ∀ v' w', AppK w' B v' (n + 1) (l ++ [y, z]) → Below B w0 w' → K (a.put o.dst v') w') : if Region.wanted o (yielded ops a.tmps) = true then Oper.wp Try.prog o a (W.alloc (.cells #[.int .i64 y, .int .i64 z] 41)) K Q else E := by
  have hw : Region.wanted o (yielded ops a.tmps) = true := by simp [Region.wanted, hgd]
  rw [if_pos hw]
  exact wp_append_knot s x ho B n v l y z w0 W hs hx hA hl hb hB h
/-- The result is a slice of n knots of the call's own and a flag. -/
def IsNewK (w : World) (n : Nat) (l : List Int) (b : Bool) (e : Ending) (w' : World) : Prop := (∃ A c, e = .returned (.tuple #[.slice A n c, .bool b]) ∧ OwnK w.heap.size w' A n c l) ∧ Below w.heap.size w w'
theorem IsNewK.app {w w' : World} {v : Value} {n : Nat} {l : List Int} {b : Bool} (h : AppK w' w.heap.size v n l) (hb : Below w.heap.size w w') : IsNewK w n l b (.returned (.tuple #[v, .bool b])) w' := by
  obtain ⟨A, c, rfl, ho⟩ := h.form
  exact ⟨⟨A, c, rfl, ho⟩, hb⟩
theorem IsNewK.none_ {w w' : World} {A : Option Addr} {c : Nat} {b : Bool} (hb : Below w.heap.size w w') : IsNewK w 0 [] b (.returned (.tuple #[.slice A 0 c, .bool b])) w' :=
  ⟨⟨A, c, rfl, rfl, Nat.zero_le _, fun h => absurd h (Nat.lt_irrefl _)⟩, hb⟩
theorem IsNewK.row {w w' : World} {g n c : Nat} {l : List Int} {b : Bool} (hl : l.length = n * 2) (hc : n ≤ c) (hg : w.heap.size ≤ g) (h : RowK w' g l) (hb : Below w.heap.size w w') : IsNewK w n l b (.returned (.tuple #[.slice (some ⟨g, 0, none⟩) n c, .bool b])) w' :=
  ⟨⟨_, c, rfl, hl, hc, fun _ => ⟨g, rfl, hg, h⟩⟩, hb⟩
def swapF (xs : List Int) (j : Nat) : Int := if j % 2 = 0 then xs.getD (j + 1) 0 else xs.getD (j - 1) 0
def swapL (xs : List Int) (k : Nat) : List Int := (List.range (k * 2)).map (swapF xs)
theorem swapL_length (xs : List Int) (k : Nat) : (swapL xs k).length = k * 2 := by simp [swapL]
theorem swapL_getD (xs : List Int) (k j : Nat) (h : j < k * 2) : (swapL xs k).getD j 0 = swapF xs j := by simp [swapL, List.getD, h]
theorem swapF_even (xs : List Int) (k : Nat) : swapF xs (k * 2) = xs.getD (k * 2 + 1) 0 := by unfold swapF; rw [if_pos (by omega)]
theorem swapF_odd (xs : List Int) (k : Nat) : swapF xs (k * 2 + 1) = xs.getD (k * 2) 0 := by unfold swapF; rw [if_neg (by omega)]; rfl
theorem swapL_succ (xs : List Int) (k : Nat) : swapL xs (k + 1) = swapL xs k ++ [xs.getD (k * 2 + 1) 0, xs.getD (k * 2) 0] := by
  unfold swapL
  have e : (k + 1) * 2 = k * 2 + 1 + 1 := by omega
  rw [e, List.range_succ, List.range_succ]
  simp [swapF_even, swapF_odd]
def turnN (xs : List Int) (n : Nat) : Nat := if riseB xs n then n else 0
def turnL (xs : List Int) (n : Nat) : List Int := if riseB xs n then swapL xs n else []
def turnB (xs : List Int) (n : Nat) : Bool := riseB xs n
end Go.Proofs.Ytiimaodphhaohaa
