/- A slice of integers of the call's own that grows by append of one number: laws for the walk; condition: lengths of at most 2^32. -/
import Derived.Test.YtpmojbdoiahodaaLists2
import Derived.Deep.RegionLaw
namespace Go.Proofs.Ytpmojbdoiahodaa
open Go.RowKit
set_option linter.unusedVariables false

/-- The slice value v owns the numbers l; its block, if any, is from B on. -/
def App (w : World) (B : Nat) (v : Value) (l : List Int) : Prop := w.ownsRow B 3 1 v l.length (l.map (Value.int .i64))
theorem App.empty (w : World) (B : Nat) (hB : B ≤ w.heap.size) : App (w.alloc (.cells #[] 3)) B (.slice (some ⟨w.heap.size, 0, none⟩) 0 0) [] :=
  World.ownsRow_lit w #[] 0 hB (Nat.zero_le _) rfl
section
variable {w w' : World} {B : Nat} {v : Value} {l : List Int}
theorem App.form (h : App w B v l) : ∃ A c, v = .slice A l.length c ∧ Own B w A l.length c l := by
  obtain ⟨_, h2⟩ := h
  rcases h2 with ⟨rfl, h0⟩ | ⟨g, cap, cur, rfl, hg, hh, hnc, _, hcs, htk⟩
  · exact ⟨none, 0, by rw [h0], rfl, by omega, fun hp => by omega⟩
  · refine ⟨_, cap, rfl, rfl, hnc, fun _ => ⟨g, rfl, hg, cur, hh, fun j hj => ?_⟩⟩
    have e : (cur.toList.take (l.length * 1))[j]? = some (.int .i64 (l.getD j 0)) := by
      rw [htk]; simp [List.getD, hj]
    simpa [List.getElem?_take, hj] using e
theorem App.alloc (h : App w B v l) (o : Obj) : App (w.alloc o) B v l := World.ownsRow.alloc h o
theorem App.keep (h : App w B v l) (hb : Below w.heap.size w w') : App w' B v l := by
  refine World.ownsRow.kept h (row := none) ⟨hb.os, hb.tape, hb.output, hb.size, fun k hk _ => hb.block k hk⟩ ?_
  cases v.ownBlock with
  | none => exact .inl rfl
  | some k => exact .inr (by simp)
theorem App.drewN (h : App w B v l) (n : Nat) : App (w.drewN n) B v l := h
theorem App.drew (h : App w B v l) : App w.drew B v l := h
end
theorem wp_append_int {o : Oper} {a : Act} {K : Act → World → Prop} {Q : Exit → Act → World → Prop} (s x : Operand) (ho : o.op = .call { callee := .builtin .append, args := #[s, x], argTypes := #[22, 22] })
    (B : Nat) (v : Value) (l : List Int) (y : Int) (w0 W : World) (hs : a.eval s = v) (hx : a.eval x = .slice (some ⟨W.heap.size, 0, none⟩) 1 1) (hA : App W B v l) (hl : l.length ≤ 4294967296) (hb : Below B w0 W) (hB : B ≤ W.heap.size)
    (h : ∀ v' w', App w' B v' (l ++ [y]) → Below B w0 w' → K (a.put o.dst v') w') : o.wp Try.prog a (W.alloc (.cells #[.int .i64 y] 3)) K Q := by
  obtain ⟨i, hi, hzz⟩ := Option.map_eq_some_iff.1 info_int
  simp only [Prod.mk.injEq] at hzz
  obtain ⟨hz, hsz, hby⟩ := hzz
  refine wp_append_own _ s x 22 ho B 3 i (.int .i64 0) 1 8 Try.underlying22 hi hz hsz hby rfl (by decide) v l.length (l.map (Value.int .i64)) hs (World.ownsRow.alloc hA _)
    ⟨W.heap.size, 0, none⟩ 1 1 [.int .i64 y] hx rfl ?_ ?_ (by unfold maxLen; omega) (by omega) (by simp; omega) ?_
  · intro j u hj
    match j, hj with
    | 0, hj =>
      simp at hj
      subst hj
      simp [Addr.add]
  · intro u hu
    simp at hu
    subst hu
    rfl
  · intro v' w' hown hg _
    refine h v' w' ?_ (Below.grown (hb.alloc hB _) hg (by simp; omega) fun k hk => ?_)
    · have e : l.map (Value.int IntKind.i64) ++ [Value.int .i64 y] = (l ++ [y]).map (Value.int .i64) := by simp
      rw [e] at hown
      have e2 : l.length + 1 = (l ++ [y]).length := by simp
      rw [e2] at hown
      exact hown
    · exact (World.ownsRow.lt hA k hk).1
theorem wpList_append_int {ops : Array Oper} {rest : List Oper} {o : Oper} {a : Act} {Q : Exit → Act → World → Prop} (hgd : o.guard = none) (s x : Operand) (ho : o.op = .call { callee := .builtin .append, args := #[s, x], argTypes := #[22, 22] })
    (B : Nat) (v : Value) (l : List Int) (y : Int) (w0 W : World) (hs : a.eval s = v) (hx : a.eval x = .slice (some ⟨W.heap.size, 0, none⟩) 1 1) (hA : App W B v l) (hl : l.length ≤ 4294967296) (hb : Below B w0 W) (hB : B ≤ W.heap.size)
    (h : ∀ v' w', App w' B v' (l ++ [y]) → Below B w0 w' → wpList Try.prog ops Q rest (a.put o.dst v') w') : wpList Try.prog ops Q (o :: rest) a (W.alloc (.cells #[.int .i64 y] 3)) :=
  wpList_plain hgd fun _ hK => wp_append_int s x ho B v l y w0 W hs hx hA hl hb hB fun v' w' h2 h3 => hK _ _ (h v' w' h2 h3)
theorem step_append_int {ops : Array Oper} {o : Oper} {a : Act} {K : Act → World → Prop} {Q : Exit → Act → World → Prop} {E : Prop} (hgd : o.guard = none) (s x : Operand) (ho : o.op = .call { callee := .builtin .append, args := #[s, x], argTypes := #[22, 22] })
    (B : Nat) (v : Value) (l : List Int) (y : Int) (w0 W : World) (hs : a.eval s = v) (hx : a.eval x = .slice (some ⟨W.heap.size, 0, none⟩) 1 1) (hA : App W B v l) (hl : l.length ≤ 4294967296) (hb : Below B w0 W) (hB : B ≤ W.heap.size)
    (h : ∀ v' w', App w' B v' (l ++ [y]) → Below B w0 w' → K (a.put o.dst v') w') : if Region.wanted o (yielded ops a.tmps) = true then Oper.wp Try.prog o a (W.alloc (.cells #[.int .i64 y] 3)) K Q else E := by
  have hw : Region.wanted o (yielded ops a.tmps) = true := by simp [Region.wanted, hgd]
  rw [if_pos hw]
  exact wp_append_int s x ho B v l y w0 W hs hx hA hl hb hB h
end Go.Proofs.Ytpmojbdoiahodaa
