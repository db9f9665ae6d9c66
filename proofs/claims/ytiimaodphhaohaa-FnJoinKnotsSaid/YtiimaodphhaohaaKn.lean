/- Slices of knots read as flat lists of integers, two to a knot; no condition. -/
import Derived.Test.YtiimaodphhaohaaNum
namespace Go.Proofs.Ytiimaodphhaohaa
open Go.RowKit
set_option linter.unusedVariables false
set_option linter.unusedSimpArgs false

theorem flat_of (w : World) (x : Addr) : ∀ n : Nat, (∀ i, i < n → ∃ p q : Int, w.cell? (x.add (i * 2)) = some (.int .i64 p) ∧ w.cell? (x.add (i * 2 + 1)) = some (.int .i64 q)) →
    ∃ zs : List Int, zs.length = n * 2 ∧ ∀ j, j < zs.length → w.cell? (x.add j) = some (.int .i64 (zs.getD j 0))
  | 0, _ => ⟨[], rfl, fun j hj => absurd hj (Nat.not_lt_zero _)⟩
  | n + 1, h => by
    obtain ⟨zs, hl, hz⟩ := flat_of w x n fun i hi => h i (by omega)
    obtain ⟨p, q, hp, hq⟩ := h n (by omega)
    refine ⟨zs ++ [p, q], by simp; omega, fun j hj => ?_⟩
    simp at hj
    by_cases h1 : j < zs.length
    · have e : (zs ++ [p, q]).getD j 0 = zs.getD j 0 := by simp [List.getD, List.getElem?_append_left h1]
      rw [e]; exact hz j h1
    · have h2 : j = n * 2 ∨ j = n * 2 + 1 := by omega
      rcases h2 with rfl | rfl
      · have e : (zs ++ [p, q]).getD (n * 2) 0 = p := by simp [List.getD, ← hl]
        rw [e]; exact hp
      · have e : (zs ++ [p, q]).getD (n * 2 + 1) 0 = q := by
          rw [← hl]
          simp [List.getD, List.getElem?_append_right (Nat.le_succ zs.length)]
        rw [e]; exact hq
theorem Knots_of (w : World) (x : Addr) (n : Nat) (h : ∀ i, i < n → ∃ p q : Int, w.cell? (x.add (i * 2)) = some (.int .i64 p) ∧ w.cell? (x.add (i * 2 + 1)) = some (.int .i64 q)) :
    ∃ xs : List Int, Ints w w.heap.size (some x) xs ∧ xs.length = n * 2 := by
  obtain ⟨zs, hl, hz⟩ := flat_of w x n h
  have := Ints_of_row w x zs.length zs (Nat.le_refl _) hz
  rw [List.take_length] at this
  exact ⟨zs, this, hl⟩
end Go.Proofs.Ytiimaodphhaohaa
