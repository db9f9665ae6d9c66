/- The marks that the exact laws write into slices of knots; condition: lengths of at most 2^32. -/
import Derived.Test.YtiimaodphhaohaaKn9
namespace Go.Proofs.Ytiimaodphhaohaa
open Go.RowKit
set_option linter.unusedVariables false
set_option linter.unusedSimpArgs false
set_option maxHeartbeats 1000000

/-- Only the block that A leads to, if any, may have turned; no block is new. -/
structure Tch (w w' : World) (A : Option Addr) : Prop where
  os : w'.os = w.os
  tape : w'.tape = w.tape
  output : w'.output = w.output
  size : w'.heap.size = w.heap.size
  block : ∀ i, (∀ g, A = some ⟨g, 0, none⟩ → i ≠ g) → w'.heap[i]? = w.heap[i]?
theorem Tch.refl (w : World) (A : Option Addr) : Tch w w A := ⟨rfl, rfl, rfl, rfl, fun _ _ => rfl⟩
theorem Tch.set_ {w w' : World} {g : Nat} (h : Tch w w' (some ⟨g, 0, none⟩)) (k : Nat) (v : Value) : Tch w (w'.setCell ⟨g, k, none⟩ v) (some ⟨g, 0, none⟩) :=
  ⟨h.os, h.tape, h.output, by simpa [World.setCell] using h.size, fun i hi => (Below.heap_setCell _ _ _ _ (hi g rfl)).trans (h.block i hi)⟩
theorem Tch.below {w w' : World} {A : Option Addr} {B : Nat} (h : Tch w w' A) (hA : ∀ g, A = some ⟨g, 0, none⟩ → B ≤ g) : Below B w w' :=
  ⟨h.os, h.tape, h.output, by rw [h.size]; exact Nat.le_refl _, fun i hi => h.block i fun g e => by have := hA g e; omega⟩
theorem RowK.tch {w w' : World} {A : Option Addr} {g : Nat} {xs : List Int} (h : RowK w g xs) (ht : Tch w w' A) (hA : A ≠ some ⟨g, 0, none⟩) : RowK w' g xs :=
  h.of_block (ht.block g fun g' e e' => hA (by rw [e, e']))

/-- k, k + 1, .., n of them. -/
def seqI (k : Int) (n : Nat) : List Int := (List.range n).map fun i : Nat => k + (i : Int)
theorem seqI_length (k : Int) (n : Nat) : (seqI k n).length = n := by simp [seqI]
theorem seqI_getD (k : Int) (n j : Nat) (h : j < n) : (seqI k n).getD j 0 = k + j := by simp [seqI, List.getD, h]

theorem markKnotS_any (A : Option Addr) (n c B : Nat) (xs : List Int) (k : Int) (w : World) (h : OwnK B w A n c xs) (hn : n ≤ 4294967296) (k0 : 0 ≤ k) (k1 : k ≤ 17179869184) :
    Calls Try.prog 22 #[.slice A n c, .int .i64 k] w fun e w' => e = .returned (.int .i64 (k + n * 2)) ∧ OwnK B w' A n c (seqI k (n * 2)) ∧ Tch w w' (if n = 0 then none else A) := by
  obtain ⟨hx, hc, hg⟩ := h
  rcases Nat.eq_zero_or_pos n with h0 | h0
  · subst h0
    go_enter Try.func22, Try.ntmps22
    go_wp2
    go_loopw [1, 5] (fun m i wr => i = .int .i64 0 ∧ m = .int .i64 k ∧ wr = w) (fun _ _ _ => 0)
    case atStart => exact ⟨rfl, rfl, rfl⟩
    case round =>
      obtain ⟨rfl, rfl, rfl⟩ := hrel
      go_wp2
      go_ret
      exact ⟨ret_int (by simp), ⟨seqI_length _ _, hc, fun h => by omega⟩, Tch.refl _ _⟩
  · obtain ⟨g, rfl, hB, hR⟩ := hg h0
    have HX := Lib.hid hx
    clear hx hg
    go_enter Try.func22, Try.ntmps22
    go_wp2
    go_loopw [1, 5] (fun m i wr => ∃ (j : Nat) (ys : List Int), j ≤ n ∧ i = .int .i64 j ∧ m = .int .i64 (k + j * 2) ∧ ys.length = n * 2 ∧ (∀ l, l < j * 2 → ys.getD l 0 = k + l) ∧ RowK wr g ys ∧ Tch w wr (some ⟨g, 0, none⟩))
      (fun _ i _ => n - (intOf i).toNat)
    case atStart => exact ⟨0, xs, Nat.zero_le _, rfl, by simp, HX.out, fun l hl => by omega, hR, Tch.refl _ _⟩
    case round =>
      obtain ⟨j, ys, hj, rfl, rfl, hy, he, hR, hT⟩ := hrel
      have HY := Lib.hid hy
      have HE := Lib.hid he
      clear hy he
      by_cases hlt : j < n
      · have hc1 := hR.cell (j := j * 2) (by rw [HY.out]; omega)
        have hc2 := hR.cell (j := j * 2 + 1) (by rw [HY.out]; omega)
        have hf1 := hR.frozen (j * 2)
        have hf2 := hR.frozen (j * 2 + 1)
        obtain ⟨x, hx⟩ : ∃ x, ys.getD (j * 2) 0 = x := ⟨_, rfl⟩
        obtain ⟨y, hy⟩ : ∃ x, ys.getD (j * 2 + 1) 0 = x := ⟨_, rfl⟩
        rw [hx] at hc1
        rw [hy] at hc2
        clear hx hy
        have e1 : IntKind.i64.wrap (k + (j : Int) * 2 + 1) = k + (j : Int) * 2 + 1 := IntWalk.i64_in _ (by omega)
        have e2 : IntKind.i64.wrap (k + (j : Int) * 2 + 1 + 1) = k + (j : Int) * 2 + 1 + 1 := IntWalk.i64_in _ (by omega)
        go_wp2
        go_roundw
        case rel =>
          refine ⟨j + 1, (ys.set (j * 2) (k + j * 2)).set (j * 2 + 1) (k + j * 2 + 1), by omega, by go_num, by first | go_num | (congr 1; omega), by simp [HY.out], fun l hl => ?_, (hR.set_ (j * 2) _).set_ (j * 2 + 1) _, (hT.set_ (j * 2) _).set_ (j * 2 + 1) _⟩
          have hl1 : j * 2 + 1 < ys.length := by rw [HY.out]; omega
          by_cases hj1 : l = j * 2 + 1
          · subst hj1; rw [getD_set_eq _ _ _ (by simpa using hl1)]; omega
          · rw [getD_set_ne _ _ _ _ hj1]
            by_cases hj0 : l = j * 2
            · subst hj0; rw [getD_set_eq _ _ _ (by omega)]; omega
            · rw [getD_set_ne _ _ _ _ hj0]; exact HE.out l (by omega)
        case measure => simp [intOf]; omega
      · have hjn : j = n := by omega
        go_wp2
        go_ret
        refine ⟨ret_int (by first | rfl | rw [hjn]), ⟨seqI_length _ _, hc, fun _ => ⟨g, rfl, hB, hR.congr (by rw [seqI_length, HY.out]) fun l hl => ?_⟩⟩, by first | exact hT | (rw [if_neg (by omega)]; exact hT)⟩
        rw [HY.out] at hl
        rw [seqI_getD _ _ _ hl, HE.out l (by omega)]
theorem heldKnotS_any (A : Option Addr) (n c : Nat) (k : Int) (w : World) (h : Ints w w.heap.size A (seqI k (n * 2))) (hn : n ≤ 4294967296) (k0 : 0 ≤ k) (k1 : k ≤ 17179869184) :
    Calls Try.prog 23 #[.slice A n c, .int .i64 k] w fun e w' => e = .returned (.int .i64 (k + n * 2)) ∧ w = w' := by
  go_enter Try.func23, Try.ntmps23
  go_wp2
  go_loop [1, 5] (fun m i => ∃ j : Nat, j ≤ n ∧ i = .int .i64 j ∧ m = .int .i64 (k + j * 2)) (fun _ i => n - (intOf i).toNat)
  case atStart => exact ⟨0, Nat.zero_le _, rfl, by simp⟩
  case round =>
    obtain ⟨j, hj, rfl, rfl⟩ := hrel
    by_cases hlt : j < n
    · obtain ⟨b, off, rfl, hbl, hc⟩ := h (by rw [seqI_length]; omega)
      have hc1 := hc (j * 2) (by rw [seqI_length]; omega)
      have hc2 : w.cell? ⟨b, off + j * 2 + 1, none⟩ = _ := hc (j * 2 + 1) (by rw [seqI_length]; omega)
      rw [seqI_getD _ _ _ (by omega)] at hc1
      rw [seqI_getD _ _ _ (by omega)] at hc2
      have q1 : k + ((j * 2 : Nat) : Int) = k + (j : Int) * 2 := by omega
      have q2 : k + ((j * 2 + 1 : Nat) : Int) = k + (j : Int) * 2 + 1 := by omega
      rw [q1] at hc1
      rw [q2] at hc2
      clear hc q1 q2
      have e1 : IntKind.i64.wrap (k + (j : Int) * 2 + 1) = k + (j : Int) * 2 + 1 := IntWalk.i64_in _ (by omega)
      have e2 : IntKind.i64.wrap (k + (j : Int) * 2 + 1 + 1) = k + (j : Int) * 2 + 1 + 1 := IntWalk.i64_in _ (by omega)
      go_wp2
      go_round
      case rel => exact ⟨j + 1, by omega, by go_num, by first | go_num | (congr 1; omega)⟩
      case measure => simp [intOf]; omega
    · have hjn : j = n := by omega
      go_wp2
      go_ret
      exact ⟨ret_int (by first | rfl | rw [hjn]), rfl⟩
theorem OwnK.ints {B : Nat} {w : World} {A : Option Addr} {n c : Nat} {xs : List Int} (h : OwnK B w A n c xs) : Ints w w.heap.size A xs := fun hp => by
  obtain ⟨g, e, _, hR⟩ := h.2.2 (by have := h.1; omega)
  exact ⟨g, 0, e, hR.lt, fun j hj => by rw [Nat.zero_add]; exact hR.cell hj⟩
theorem OwnK.up {B : Nat} {w w' : World} {A : Option Addr} {n c : Nat} {xs : List Int} (h : OwnK B w A n c xs) (hb : Below w.heap.size w w') : OwnK B w' A n c xs :=
  ⟨h.1, h.2.1, fun hp => by obtain ⟨g, e, hB, hR⟩ := h.2.2 hp; exact ⟨g, e, hB, hR.up hb⟩⟩
/-- A write into another slice of the call's own. -/
theorem OwnK.tch {B : Nat} {w w' : World} {A C : Option Addr} {n c : Nat} {xs : List Int} (h : OwnK B w A n c xs) (ht : Tch w w' C) (hC : ∀ g, C = some ⟨g, 0, none⟩ → A = some ⟨g, 0, none⟩ → n = 0) : OwnK B w' A n c xs :=
  ⟨h.1, h.2.1, fun hp => by
    obtain ⟨g, e, hB, hR⟩ := h.2.2 hp
    exact ⟨g, e, hB, hR.tch ht fun e' => by have := hC g e' e; omega⟩⟩
end Go.Proofs.Ytiimaodphhaohaa
