/- Slices of integers: laws on rows of the call's own, and the contracts of the law package's helpers on them (toIntS, eqIntS, markIntS, heldIntS); condition: lengths of at most 2^32. -/
import Derived.Test.YtndpmcegealhiaaNum
import Derived.Deep.OwnRows
namespace Go.Proofs.Ytndpmcegealhiaa
open Go.RowKit
set_option linter.unusedVariables false

theorem info_int : (Try.prog.info? 3).map (fun i => (i.zero, i.size, i.bytes)) = some (some (.int .i64 0), 1, 8) := by kernel_rfl

/-- Block g is a row of integers whose first cells are xs. -/
def Row (w : World) (g : Nat) (xs : List Int) : Prop := ∃ cs : Array Value, w.heap[g]? = some (.cells cs 3 (0, 0)) ∧ ∀ j, j < xs.length → cs[j]? = some (.int .i64 (xs.getD j 0))
section
variable {w w' : World} {g : Nat} {xs : List Int}
theorem Row.lt (h : Row w g xs) : g < w.heap.size := by
  obtain ⟨cs, h, _⟩ := h
  rcases Nat.lt_or_ge g w.heap.size with hlt | hge
  · exact hlt
  · rw [Array.getElem?_eq_none hge] at h; cases h
theorem Row.cell (h : Row w g xs) {j : Nat} (hj : j < xs.length) : w.cell? ⟨g, j, none⟩ = some (.int .i64 (xs.getD j 0)) := by
  obtain ⟨cs, h, hc⟩ := h
  rw [cell_of_row w g j cs 3 (0, 0) h]; exact hc j hj
theorem Row.frozen (h : Row w g xs) (j : Nat) : w.frozen? ⟨g, j, none⟩ = false := by
  obtain ⟨cs, h, _⟩ := h
  simp [World.frozen?, h]
theorem Row.of_block (h : Row w g xs) (hb : w'.heap[g]? = w.heap[g]?) : Row w' g xs := by
  obtain ⟨cs, h, hc⟩ := h
  exact ⟨cs, hb.trans h, hc⟩
theorem Row.drewN (h : Row w g xs) (n : Nat) : Row (w.drewN n) g xs := h
theorem Row.alloc (h : Row w g xs) (o : Obj) : Row (w.alloc o) g xs := h.of_block (Below.heap_alloc w o g h.lt)
theorem Row.below {B : Nat} (h : Row w g xs) (hb : Below B w w') (hg : g < B) : Row w' g xs := h.of_block (hb.block g hg)
theorem Row.far (h : Row w g xs) {p : Addr} (hp : g ≠ p.block) (u : Value) : Row (w.setCell p u) g xs := h.of_block (Below.heap_setCell w p u g hp)
theorem Row.set_ (h : Row w g xs) (k : Nat) (v : Int) : Row (w.setCell ⟨g, k, none⟩ (.int .i64 v)) g (xs.set k v) := by
  obtain ⟨cs, h, hc⟩ := h
  refine ⟨cs.setIfInBounds k (.int .i64 v), by simp [World.setCell, Array.getElem?_modify, h], fun j hj => ?_⟩
  simp only [List.length_set] at hj
  have := hc j hj
  by_cases hk : k = j
  · subst hk
    have hs : k < cs.size := by
      rcases Nat.lt_or_ge k cs.size with h1 | h1
      · exact h1
      · rw [Array.getElem?_eq_none h1] at this; cases this
    simp [hs, List.getD, hj]
  · rw [Array.getElem?_setIfInBounds, if_neg hk, this]
    simp [List.getD, hk]
theorem Row.made (w : World) (n : Nat) : Row (w.alloc (.cells (madeCells #[.int .i64 0] n) 3)) w.heap.size (List.replicate n 0) := by
  refine ⟨_, heap_alloc_new w _, fun j hj => ?_⟩
  simp only [List.length_replicate] at hj
  simp [madeCells, hj, List.getD, Nat.mod_one]
theorem Row.congr {ys : List Int} (h : Row w g xs) (hl : ys.length = xs.length) (he : ∀ j, j < xs.length → ys.getD j 0 = xs.getD j 0) : Row w g ys := by
  obtain ⟨cs, h, hc⟩ := h
  exact ⟨cs, h, fun j hj => by rw [he j (by omega)]; exact hc j (by omega)⟩
theorem Row.ints (h : Row w g xs) {B : Nat} (hB : g < B) : Ints w B (some ⟨g, 0, none⟩) xs := fun _ => ⟨g, 0, rfl, hB, fun j hj => by rw [Nat.zero_add]; exact h.cell hj⟩
theorem size_setCell (w : World) (p : Addr) (v : Value) : (w.setCell p v).heap.size = w.heap.size := by simp [World.setCell]
end
theorem getD_set_ne (ys : List Int) (k j : Nat) (v : Int) (h : j ≠ k) : (ys.set k v).getD j 0 = ys.getD j 0 := by
  simp [List.getD, Ne.symm h]
theorem getD_set_eq (ys : List Int) (k : Nat) (v : Int) (h : k < ys.length) : (ys.set k v).getD k 0 = v := by
  simp [List.getD, h]
theorem list_ext_getD {xs ys : List Int} (hl : xs.length = ys.length) (h : ∀ j, j < xs.length → xs.getD j 0 = ys.getD j 0) : xs = ys := by
  refine List.ext_getElem hl fun i h1 h2 => ?_
  have := h i h1
  simpa [List.getD, List.getElem?_eq_getElem h1, List.getElem?_eq_getElem h2] using this

/-- A slice of the call's own: its block, if it has elements, is from B on. -/
def Own (B : Nat) (w : World) (A : Option Addr) (n c : Nat) (xs : List Int) : Prop := xs.length = n ∧ n ≤ c ∧ (0 < n → ∃ g, A = some ⟨g, 0, none⟩ ∧ B ≤ g ∧ Row w g xs)

theorem Ints.up {w w' : World} {A : Option Addr} {xs : List Int} (h : Ints w w.heap.size A xs) (hb : Below w.heap.size w w') : Ints w' w'.heap.size A xs := (h.below hb).more hb.size
theorem Row.up {w w' : World} {g : Nat} {xs : List Int} (h : Row w g xs) (hb : Below w.heap.size w w') : Row w' g xs := h.below hb h.lt
theorem Row.is {w : World} {g : Nat} {xs : List Int} (h : Row w g xs) : Ints w w.heap.size (some ⟨g, 0, none⟩) xs := h.ints h.lt
end Go.Proofs.Ytndpmcegealhiaa
