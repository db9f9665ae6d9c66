/- More on slices of integers: the marks that the exact laws write (markIntS, heldIntS), the copying of one into a row of the call's own; condition: lengths of at most 2^32. -/
import Derived.Test.YtpmojbdoiahodaaLists
import Derived.Laws.CopyOwn
namespace Go.Proofs.Ytpmojbdoiahodaa
open Go.RowKit
set_option linter.unusedVariables false

def allIn (m : Int) (xs : List Int) : Bool := xs.all fun x => inB x (-m) m
theorem allIn_iff (m : Int) (xs : List Int) : allIn m xs = true ↔ ∀ j, j < xs.length → inB (xs.getD j 0) (-m) m = true := by
  unfold allIn
  rw [List.all_eq_true]
  constructor
  · intro h j hj
    have := h (xs[j]) (List.getElem_mem hj)
    simpa [List.getD, List.getElem?_eq_getElem hj] using this
  · intro h x hx
    obtain ⟨j, hj, rfl⟩ := List.getElem_of_mem hx
    have := h j hj
    simpa [List.getD, List.getElem?_eq_getElem hj] using this
theorem allIn_no (m : Int) (xs : List Int) (k : Nat) (hk : k < xs.length) (h : inB (xs.getD k 0) (-m) m = false) : allIn m xs = false := by
  cases h' : allIn m xs
  · rfl
  · rw [(allIn_iff m xs).1 h' k hk] at h; cases h
theorem allIn_at (m : Int) (xs : List Int) (h : allIn m xs = true) (k : Nat) (hk : k < xs.length) : -m ≤ xs.getD k 0 ∧ xs.getD k 0 ≤ m := (inB_iff _ _ _).1 ((allIn_iff m xs).1 h k hk)

/-- Only the block that A leads to, if any, may have turned; no block is new. -/
structure Tch (w w' : World) (A : Option Addr) : Prop where
  os : w'.os = w.os
  tape : w'.tape = w.tape
  output : w'.output = w.output
  size : w'.heap.size = w.heap.size
  block : ∀ i, (∀ g, A = some ⟨g, 0, none⟩ → i ≠ g) → w'.heap[i]? = w.heap[i]?
theorem Tch.refl (w : World) (A : Option Addr) : Tch w w A := ⟨rfl, rfl, rfl, rfl, fun _ _ => rfl⟩
theorem Tch.set_ {w w' : World} {g : Nat} (h : Tch w w' (some ⟨g, 0, none⟩)) (k : Nat) (v : Value) : Tch w (w'.setCell ⟨g, k, none⟩ v) (some ⟨g, 0, none⟩) :=
  ⟨h.os, h.tape, h.output, by simpa [World.setCell] using h.size, fun i hi => (Below.heap_setCell _ _ _ _ (hi g rfl)).trans (h.block i hi)⟩
theorem Tch.below {w w' : World} {A : Option Addr} {B : Nat} (h : Tch w w' A) (hA : ∀ g, A = some ⟨g, 0, none⟩ → B ≤ g) : Below B w w' :=
  ⟨h.os, h.tape, h.output, by rw [h.size]; exact Nat.le_refl _, fun i hi => h.block i fun g e => by have := hA g e; omega⟩
theorem Row.tch {w w' : World} {A : Option Addr} {g : Nat} {xs : List Int} (h : Row w g xs) (ht : Tch w w' A) (hA : A ≠ some ⟨g, 0, none⟩) : Row w' g xs :=
  h.of_block (ht.block g fun g' e e' => hA (by rw [e, e']))

/-- k, k + 1, .., n of them. -/
def seqI (k : Int) (n : Nat) : List Int := (List.range n).map fun i : Nat => k + (i : Int)
theorem seqI_length (k : Int) (n : Nat) : (seqI k n).length = n := by simp [seqI]
theorem seqI_getD (k : Int) (n j : Nat) (h : j < n) : (seqI k n).getD j 0 = k + j := by simp [seqI, List.getD, h]

section
variable {P : Program} {w : World} {ops : Array Oper} {rest : List Oper} {o : Oper} {a : Act} {Q : Exit → Act → World → Prop}
theorem wpList_copy_ints (hgd : o.guard = none) (d s : Operand) (T : TypeId) (ho : o.op = .call { callee := .builtin .copy, args := #[d, s], argTypes := #[T, T] }) (hu : P.underlying T = some (.slice 3)) (hsz : (P.info? 3).map (·.size) = some 1)
    (g n c c' : Nat) (A : Option Addr) (hd : a.eval d = .slice (some ⟨g, 0, none⟩) n c) (hs : a.eval s = .slice A n c') (xs ys : List Int) (hx : xs.length = n) (hy : ys.length = n) (hI : Ints w w.heap.size A xs) (hR : Row w g ys)
    (B : Nat) (w0 : World) (hb : Below B w0 w) (hBg : B ≤ g) (h : ∀ w', Row w' g xs → Below B w0 w' → wpList P ops Q rest (a.put o.dst (goInt n)) w') : wpList P ops Q (o :: rest) a w := by
  obtain ⟨cs, hh, hc⟩ := hR
  have hcs : n ≤ cs.size := by
    rcases Nat.eq_zero_or_pos n with h0 | h0
    · omega
    · have := hc (n - 1) (by omega)
      rcases Nat.lt_or_ge (n - 1) cs.size with h1 | h1
      · omega
      · rw [Array.getElem?_eq_none h1] at this; cases this
  refine wpList_copy_splice hgd d s T T ho 3 hu hsz (some ⟨g, 0, none⟩) A n c n c' hd hs g 0 cs.toList 3 (by simpa using hh) (xs.map (Value.int .i64)) (by simp [hx]) ?_ (by simp [hx]; exact hcs) ?_ B w0 hb hBg ?_
  · intro hp
    simp only [List.length_map] at hp
    obtain ⟨b, off, e, _, hcell⟩ := hI hp
    refine ⟨rfl, _, e, fun j v hj => ?_⟩
    have hjl : j < xs.length := by
      rcases Nat.lt_or_ge j xs.length with h1 | h1
      · exact h1
      · rw [List.getElem?_eq_none (by simpa using h1)] at hj; cases hj
    have := hcell j hjl
    simp only [List.getElem?_map, List.getElem?_eq_getElem hjl, Option.map_some, Option.some.injEq] at hj
    subst hj
    have e2 : xs.getD j 0 = xs[j] := by simp [List.getD, hjl]
    rw [e2] at this
    rw [← this]
    unfold Addr.add
    by_cases hj0 : j = 0
    · subst hj0; simp
    · simp [hj0]
  · intro v hv
    obtain ⟨x, _, rfl⟩ := List.mem_map.1 hv
    rfl
  · intro w' hw' hb'
    have e : (xs.map (Value.int IntKind.i64)).length = n := by simp [hx]
    rw [e]
    refine h w' ⟨_, hw'.out, fun j hj => ?_⟩ hb'
    simp [splice, List.getElem?_append, hj]
end

theorem markIntS_any (A : Option Addr) (n c B : Nat) (xs : List Int) (k : Int) (w : World) (h : Own B w A n c xs) (hn : n ≤ 4294967296) (k0 : 0 ≤ k) (k1 : k ≤ 4294967296) :
    Calls Try.prog 20 #[.slice A n c, .int .i64 k] w fun e w' => e = .returned (.int .i64 (k + n)) ∧ Own B w' A n c (seqI k n) ∧ Tch w w' (if n = 0 then none else A) := by
  obtain ⟨hx, hc, hg⟩ := h
  rcases Nat.eq_zero_or_pos n with h0 | h0
  · subst h0
    go_enter Try.func20, Try.ntmps20
    go_wp2
    go_loopw [1, 5] (fun m i wr => i = .int .i64 0 ∧ m = .int .i64 k ∧ wr = w) (fun _ _ _ => 0)
    case atStart => exact ⟨rfl, rfl, rfl⟩
    case round =>
      obtain ⟨rfl, rfl, rfl⟩ := hrel
      go_wp2
      go_ret
      exact ⟨ret_int (by simp), ⟨seqI_length _ _, hc, fun h => by omega⟩, Tch.refl _ _⟩
  · obtain ⟨g, rfl, hB, hR⟩ := hg h0
    have HX := Lib.hid hx
    clear hx hg
    go_enter Try.func20, Try.ntmps20
    go_wp2
    go_loopw [1, 5] (fun m i wr => ∃ (j : Nat) (ys : List Int), j ≤ n ∧ i = .int .i64 j ∧ m = .int .i64 (k + j) ∧ ys.length = n ∧ (∀ l, l < j → ys.getD l 0 = k + l) ∧ Row wr g ys ∧ Tch w wr (some ⟨g, 0, none⟩))
      (fun _ i _ => n - (intOf i).toNat)
    case atStart => exact ⟨0, xs, Nat.zero_le _, rfl, by simp, HX.out, fun l hl => by omega, hR, Tch.refl _ _⟩
    case round =>
      obtain ⟨j, ys, hj, rfl, rfl, hy, he, hR, hT⟩ := hrel
      have HY := Lib.hid hy
      have HE := Lib.hid he
      clear hy he
      by_cases hlt : j < n
      · have hc2 := hR.cell (j := j) (by rw [HY.out]; exact hlt)
        have hf2 := hR.frozen j
        obtain ⟨x, hx⟩ : ∃ x, ys.getD j 0 = x := ⟨_, rfl⟩
        rw [hx] at hc2
        clear hx
        go_wp2
        go_roundw
        case rel =>
          refine ⟨j + 1, ys.set j (k + j), by omega, by go_num, by go_num, by simp [HY.out], fun l hl => ?_, hR.set_ j _, hT.set_ j _⟩
          by_cases hlj : l = j
          · subst hlj; exact getD_set_eq _ _ _ (by rw [HY.out]; exact hlt)
          · rw [getD_set_ne _ _ _ _ hlj]; exact HE.out l (by omega)
        case measure => simp [intOf]; omega
      · have hjn : j = n := by omega
        go_wp2
        go_ret
        refine ⟨ret_int (by first | rfl | rw [hjn]), ⟨seqI_length _ _, hc, fun _ => ⟨g, rfl, hB, hR.congr (by rw [seqI_length, HY.out]) fun l hl => ?_⟩⟩, by first | exact hT | (rw [if_neg (by omega)]; exact hT)⟩
        rw [HY.out] at hl
        rw [seqI_getD _ _ _ hl, HE.out l (by omega)]
theorem heldIntS_any (A : Option Addr) (n c : Nat) (k : Int) (w : World) (h : Ints w w.heap.size A (seqI k n)) (hn : n ≤ 4294967296) (k0 : 0 ≤ k) (k1 : k ≤ 4294967296) :
    Calls Try.prog 21 #[.slice A n c, .int .i64 k] w fun e w' => e = .returned (.int .i64 (k + n)) ∧ w = w' := by
  go_enter Try.func21, Try.ntmps21
  go_wp2
  go_loop [1, 5] (fun m i => ∃ j : Nat, j ≤ n ∧ i = .int .i64 j ∧ m = .int .i64 (k + j)) (fun _ i => n - (intOf i).toNat)
  case atStart => exact ⟨0, Nat.zero_le _, rfl, by simp⟩
  case round =>
    obtain ⟨j, hj, rfl, rfl⟩ := hrel
    by_cases hlt : j < n
    · obtain ⟨b, off, rfl, hbl, hc⟩ := h (by rw [seqI_length]; omega)
      have hc1 := hc j (by rw [seqI_length]; exact hlt)
      rw [seqI_getD _ _ _ hlt] at hc1
      clear hc
      go_wp2
      go_round
      case rel => exact ⟨j + 1, by omega, by go_num, by go_num⟩
      case measure => simp [intOf]; omega
    · have hjn : j = n := by omega
      go_wp2
      go_ret
      exact ⟨ret_int (by first | rfl | rw [hjn]), rfl⟩
theorem Own.ints {B : Nat} {w : World} {A : Option Addr} {n c : Nat} {xs : List Int} (h : Own B w A n c xs) : Ints w w.heap.size A xs := fun hp => by
  obtain ⟨g, e, _, hR⟩ := h.2.2 (by rw [← h.1]; exact hp)
  exact ⟨g, 0, e, hR.lt, fun j hj => by rw [Nat.zero_add]; exact hR.cell hj⟩
theorem Own.up {B : Nat} {w w' : World} {A : Option Addr} {n c : Nat} {xs : List Int} (h : Own B w A n c xs) (hb : Below w.heap.size w w') : Own B w' A n c xs :=
  ⟨h.1, h.2.1, fun hp => by obtain ⟨g, e, hB, hR⟩ := h.2.2 hp; exact ⟨g, e, hB, hR.up hb⟩⟩
/-- A write into another slice of the call's own. -/
theorem Own.tch {B : Nat} {w w' : World} {A C : Option Addr} {n c : Nat} {xs : List Int} (h : Own B w A n c xs) (ht : Tch w w' C) (hC : ∀ g, C = some ⟨g, 0, none⟩ → A = some ⟨g, 0, none⟩ → n = 0) : Own B w' A n c xs :=
  ⟨h.1, h.2.1, fun hp => by
    obtain ⟨g, e, hB, hR⟩ := h.2.2 hp
    exact ⟨g, e, hB, hR.tch ht fun e' => by have := hC g e' e; omega⟩⟩
end Go.Proofs.Ytpmojbdoiahodaa
