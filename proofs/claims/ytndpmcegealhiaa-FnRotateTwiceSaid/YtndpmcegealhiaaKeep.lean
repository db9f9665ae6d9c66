/- Worlds that differ in one block of two integers alone, and regions that draw their order under that condition; no condition. -/
import Derived.Test.YtndpmcegealhiaaArc
namespace Go.Proofs.Ytndpmcegealhiaa
open Go.RowKit
set_option linter.unusedVariables false

/-- All that was there is as it was, but block r, which holds two integers. -/
structure Keep1 (r : Nat) (t : TypeId) (w w' : World) : Prop where
  os : w'.os = w.os
  tape : w'.tape = w.tape
  output : w'.output = w.output
  size : w.heap.size ≤ w'.heap.size
  block : ∀ i, i < w.heap.size → i ≠ r → w'.heap[i]? = w.heap[i]?
  lt : r < w.heap.size
  res : ∃ a b : Int, Blk w' r t #[.int .i64 a, .int .i64 b]
section
variable {r : Nat} {t : TypeId} {w w1 w' : World}
theorem Keep1.refl {a b : Int} (h : Blk w r t #[.int .i64 a, .int .i64 b]) : Keep1 r t w w := ⟨rfl, rfl, rfl, Nat.le_refl _, fun _ _ _ => rfl, h.lt, a, b, h⟩
theorem Keep1.drew (h : Keep1 r t w w') : Keep1 r t w w'.drew := ⟨h.os, h.tape, h.output, h.size, h.block, h.lt, h.res⟩
theorem Keep1.cells (h : Keep1 r t w w') : ∀ b o, b < w.heap.size → b ≠ r → w'.cell? ⟨b, o, none⟩ = w.cell? ⟨b, o, none⟩ := fun b o hb hr => World.cell?_of_block (h.block b hb hr)
theorem Keep1.up (h : Keep1 r t w w1) (hb : Below w1.heap.size w1 w') : Keep1 r t w w' :=
  ⟨hb.os.trans h.os, hb.tape.trans h.tape, hb.output.trans h.output, Nat.le_trans h.size hb.size, fun i hi hr => (hb.block i (Nat.lt_of_lt_of_le hi h.size)).trans (h.block i hi hr), h.lt, by
    obtain ⟨a, b, hB⟩ := h.res; exact ⟨a, b, heap_keep hb hB⟩⟩
theorem Keep1.two (h : Keep1 r t w w') (c d : Int) : Keep1 r t w ((w'.setCell ⟨r, 0, none⟩ (.int .i64 c)).setCell ⟨r, 1, none⟩ (.int .i64 d)) :=
  ⟨h.os, h.tape, h.output, by simpa [World.setCell] using h.size, fun i hi hr => (Below.heap_setCell _ _ _ _ hr).trans ((Below.heap_setCell _ _ _ _ hr).trans (h.block i hi hr)), h.lt, by
    obtain ⟨a, b, hB⟩ := h.res; exact ⟨c, d, hB.two _ _⟩⟩
theorem Keep1.bw {w0 : World} (h0 : Below w0.heap.size w0 w) (h : Keep1 r t w w') (hr : w0.heap.size ≤ r) : Below w0.heap.size w0 w' :=
  ⟨h.os.trans h0.os, h.tape.trans h0.tape, h.output.trans h0.output, Nat.le_trans h0.size h.size, fun i hi => (h.block i (Nat.lt_of_lt_of_le hi h0.size) (by omega)).trans (h0.block i hi)⟩
theorem Blk.keep1 {g : Nat} {s : TypeId} {cs : Array Value} (hB : Blk w g s cs) (h : Keep1 r t w w') (hg : g ≠ r) : Blk w' g s cs := (h.block g hB.lt hg).trans hB
end
theorem wp_region_keep {P : Program} {ops : Array Oper} {Q : Exit → Act → World → Prop} {id : Nat} {a : Act} {w : World} (r : Nat) (t : TypeId) {x y : Int} (hB : Blk w r t #[.int .i64 x, .int .i64 y]) (hm : P.follows .mixedOrders = true)
    (h : ∀ wD, Keep1 r t w wD → wpAnyH P .any ops Q (fun w' => Keep1 r t w w') ops.size (Array.replicate ops.size false) a wD) : (Code.region id ops true).wp P Q a w :=
  wp_region_held_drew hm (Keep1.drew (Keep1.refl hB)) (h _)
end Go.Proofs.Ytndpmcegealhiaa
