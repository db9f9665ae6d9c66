/- Tables of numbers, results that are slices of the call's own; no condition. -/
import Derived.Test.YtpmojbdoiahodaaApp
namespace Go.Proofs.Ytpmojbdoiahodaa
open Go.RowKit
set_option linter.unusedVariables false

/-- f 0, f 1, .., k of them. -/
def tab (f : Nat → Int) (k : Nat) : List Int := (List.range k).map f
theorem tab_length (f : Nat → Int) (k : Nat) : (tab f k).length = k := by simp [tab]
theorem tab_getD (f : Nat → Int) (k j : Nat) (h : j < k) : (tab f k).getD j 0 = f j := by simp [tab, List.getD, h]
theorem tab_succ (f : Nat → Int) (k : Nat) : tab f (k + 1) = tab f k ++ [f k] := by simp [tab, List.range_succ]
/-- The result is a slice of the call's own with the numbers l. -/
def IsNew (w : World) (l : List Int) (e : Ending) (w' : World) : Prop := (∃ A c, e = .returned (.slice A l.length c) ∧ Own w.heap.size w' A l.length c l) ∧ Below w.heap.size w w'
theorem IsNew.app {w w' : World} {v : Value} {l : List Int} (h : App w' w.heap.size v l) (hb : Below w.heap.size w w') : IsNew w l (.returned v) w' := by
  obtain ⟨A, c, rfl, ho⟩ := h.form
  exact ⟨⟨A, c, rfl, ho⟩, hb⟩
theorem IsNew.nil {w w' : World} (hb : Below w.heap.size w w') : IsNew w [] (.returned (.slice none 0 0)) w' := ⟨⟨none, 0, rfl, rfl, Nat.le_refl _, fun h => absurd h (Nat.lt_irrefl _)⟩, hb⟩
theorem Row.lit (w : World) (y : Int) : Row (w.alloc (.cells #[.int .i64 y] 3)) w.heap.size [y] := by
  refine ⟨_, heap_alloc_new w _, fun j hj => ?_⟩
  simp only [List.length_singleton] at hj
  obtain rfl : j = 0 := by omega
  simp
theorem IsNew.row {w w' : World} {g n c : Nat} {l : List Int} (hl : l.length = n) (hc : n ≤ c) (hg : w.heap.size ≤ g) (h : Row w' g l) (hb : Below w.heap.size w w') : IsNew w l (.returned (.slice (some ⟨g, 0, none⟩) n c)) w' := by
  subst hl
  exact ⟨⟨_, c, rfl, rfl, hc, fun _ => ⟨g, rfl, hg, h⟩⟩, hb⟩
theorem blk_eq {a b : Nat} (e : (some ⟨a, 0, none⟩ : Option Addr) = some ⟨b, 0, none⟩) : a = b := by cases e; rfl
theorem ite_blk {n g : Nat} {A : Option Addr} (e : (if n = 0 then none else A) = some ⟨g, 0, none⟩) : 0 < n ∧ A = some ⟨g, 0, none⟩ := by
  split at e
  · cases e
  · exact ⟨by omega, e⟩
theorem Own.ge {B n c g : Nat} {w : World} {A : Option Addr} {xs : List Int} (h : Own B w A n c xs) (e : A = some ⟨g, 0, none⟩) (hn : 0 < n) : B ≤ g := by
  obtain ⟨g', e', hB, _⟩ := h.2.2 hn
  have := blk_eq (e'.symm.trans e)
  omega
theorem Own.lt {B n c g : Nat} {w : World} {A : Option Addr} {xs : List Int} (h : Own B w A n c xs) (e : A = some ⟨g, 0, none⟩) (hn : 0 < n) : g < w.heap.size := by
  obtain ⟨g', e', _, hR⟩ := h.2.2 hn
  have := blk_eq (e'.symm.trans e)
  have := hR.lt
  omega
end Go.Proofs.Ytpmojbdoiahodaa
