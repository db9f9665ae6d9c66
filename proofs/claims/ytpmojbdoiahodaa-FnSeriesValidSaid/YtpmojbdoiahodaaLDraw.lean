/- Small laws for drawing functions that make slices of integers; no condition. -/
import Derived.Test.YtpmojbdoiahodaaApp
import Derived.Test.YtpmojbdoiahodaaAlive
namespace Go.Proofs.Ytpmojbdoiahodaa
open Go.RowKit
set_option linter.unusedVariables false

theorem Rd.keep2 {w w' : World} {R N G : Nat} (h : Rd w R N) (hk : ∀ i, i ≤ R → i ≠ G → w'.heap[i]? = w.heap[i]?) (hG : G ≠ R) (hno : ∀ j x, w.cell? ⟨G, j, none⟩ ≠ some (.int .u8 x)) : Rd w' R N := by
  obtain ⟨A, c, xs, p, h1, h2, h3, h4⟩ := h
  refine ⟨A, c, xs, p, h1.of_block (hk R (Nat.le_refl _) (fun e => hG e.symm)), h2, h3, fun hp => ?_⟩
  obtain ⟨b, off, e, hb, hc⟩ := h4 hp
  refine ⟨b, off, e, hb, fun j hj => ⟨?_, (hc j hj).2⟩⟩
  refine (World.cell?_of_block (hk b (by omega) fun e => ?_)).trans (hc j hj).1
  subst e
  exact hno _ _ (hc j hj).1
theorem Blk.no_u8 {w : World} {G : Nat} {t : TypeId} {a b : Value} (h : Blk w G t #[a, b]) (ha : ∀ x, a ≠ .int .u8 x) (hb : ∀ x, b ≠ .int .u8 x) (j : Nat) (x : Int) : w.cell? ⟨G, j, none⟩ ≠ some (.int .u8 x) := by
  rw [h.cell]
  match j with
  | 0 => intro e; injection e with e; exact ha x e
  | 1 => intro e; injection e with e; exact hb x e
  | j + 2 => intro e; simp at e
/-- Two stores into a block of two cells that is not the reader's. -/
theorem Rd.store2 {w : World} {R N G : Nat} {t : TypeId} {a b : Value} (h : Rd w R N) (k : Blk w G t #[a, b]) (ha : ∀ x, a ≠ .int .u8 x) (hb : ∀ x, b ≠ .int .u8 x) (hG : G ≠ R) (u v : Value) : Rd ((w.setCell ⟨G, 0, none⟩ u).setCell ⟨G, 1, none⟩ v) R N :=
  h.keep2 (G := G) (fun i _ hi => (Below.heap_setCell _ _ _ _ hi).trans (Below.heap_setCell _ _ _ _ hi)) hG (k.no_u8 ha hb)
theorem Blk.kept {w w' : World} {g : Nat} {t : TypeId} {cs : Array Value} (h : Blk w g t cs) (hb : Below w.heap.size w w') : Blk w' g t cs := heap_keep hb h
theorem Blk.only {w w' : World} {g R : Nat} {t : TypeId} {cs : Array Value} (h : Blk w g t cs) (hO : Only w w' R) (hg : g ≠ R) : Blk w' g t cs := only_keep hO h hg
theorem App.only {w w' : World} {B R : Nat} {v : Value} {l : List Int} (h : App w B v l) (hO : Only w w' R) (hR : R < B) : App w' B v l := by
  refine World.ownsRow.kept h (row := some R) hO ?_
  cases hv : v.ownBlock with
  | none => exact .inl rfl
  | some k =>
    refine .inr fun e => ?_
    injection e with e
    obtain ⟨_, h2⟩ := h
    rcases h2 with ⟨rfl, _⟩ | ⟨g, cap, cur, rfl, hg, _⟩
    · cases hv
    · simp [Value.ownBlock] at hv; omega
/-- A slice of at most 200 integers in memory of the call's own. -/
def GetsL (w : World) (e : Ending) (w' : World) : Prop := ∃ (A : Option Addr) (c : Nat) (l : List Int), e = .returned (.slice A l.length c) ∧ l.length ≤ 200 ∧ Own w.heap.size w' A l.length c l ∧ Below w.heap.size w w'
def DrawsL (w : World) (R N : Nat) (e : Ending) (w' : World) : Prop := ∃ (A : Option Addr) (c : Nat) (l : List Int), e = .returned (.slice A l.length c) ∧ l.length ≤ 200 ∧ Own w.heap.size w' A l.length c l ∧ Drew w w' R N
theorem Own.more {B B' n c : Nat} {w : World} {A : Option Addr} {l : List Int} (h : Own B' w A n c l) (hB : B ≤ B') : Own B w A n c l :=
  ⟨h.1, h.2.1, fun hp => by obtain ⟨g, e, hg, hr⟩ := h.2.2 hp; exact ⟨g, e, by omega, hr⟩⟩
theorem GetsL.app {w w' : World} {B : Nat} {v : Value} {l : List Int} (h : App w' B v l) (hB : w.heap.size ≤ B) (hl : l.length ≤ 200) (hb : Below w.heap.size w w') : GetsL w (.returned v) w' := by
  obtain ⟨A, c, rfl, ho⟩ := h.form
  exact ⟨A, c, l, rfl, hl, ho.more hB, hb⟩
theorem DrawsL.app {w w' : World} {B R N : Nat} {v : Value} {l : List Int} (h : App w' B v l) (hB : w.heap.size ≤ B) (hl : l.length ≤ 200) (hb : Drew w w' R N) : DrawsL w R N (.returned v) w' := by
  obtain ⟨A, c, rfl, ho⟩ := h.form
  exact ⟨A, c, l, rfl, hl, ho.more hB, hb⟩
theorem Own.row {w : World} {g B n : Nat} {l : List Int} (h : Row w g l) (hg : B ≤ g) (hl : l.length = n) : Own B w (some ⟨g, 0, none⟩) n n l := ⟨hl, Nat.le_refl _, fun _ => ⟨g, rfl, hg, h⟩⟩
theorem GetsL.row {w w' : World} {g n : Nat} {l : List Int} (h : Row w' g l) (hg : w.heap.size ≤ g) (hn : l.length = n) (hl : n ≤ 200) (hb : Below w.heap.size w w') : GetsL w (.returned (.slice (some ⟨g, 0, none⟩) n n)) w' := by
  subst hn; exact ⟨_, _, l, rfl, hl, Own.row h hg rfl, hb⟩
theorem DrawsL.row {w w' : World} {g n R N : Nat} {l : List Int} (h : Row w' g l) (hg : w.heap.size ≤ g) (hn : l.length = n) (hl : n ≤ 200) (hb : Drew w w' R N) : DrawsL w R N (.returned (.slice (some ⟨g, 0, none⟩) n n)) w' := by
  subst hn; exact ⟨_, _, l, rfl, hl, Own.row h hg rfl, hb⟩
theorem below_both {w w1 w2 : World} {B : Nat} (h : Below w.heap.size w w1) (h2 : Below B w1 w2) (hB : w.heap.size ≤ B) : Below w.heap.size w w2 := h.trans (h2.mono hB)
theorem only_both {w w1 w2 : World} {B R : Nat} (h : Only w w1 R) (h2 : Below B w1 w2) (hB : w.heap.size ≤ B) : Only w w2 R :=
  ⟨h2.os.trans h.os, h2.tape.trans h.tape, h2.output.trans h.output, Nat.le_trans h.size h2.size, fun i hi hne => (h2.block i (Nat.lt_of_lt_of_le hi hB)).trans (h.block i hi hne)⟩
theorem Own.only {B n c R : Nat} {w w' : World} {A : Option Addr} {l : List Int} (h : Own B w A n c l) (hO : Only w w' R) (hR : R < B) : Own B w' A n c l :=
  ⟨h.1, h.2.1, fun hp => by
    obtain ⟨g, e, hg, hr⟩ := h.2.2 hp
    exact ⟨g, e, hg, hr.of_block (hO.block g hr.lt (fun e => by injection e; omega))⟩⟩
end Go.Proofs.Ytpmojbdoiahodaa
