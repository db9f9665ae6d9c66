/- Plain definitions and lemmas for the seat's proofs: small laws on worlds, on slices that read as lists of integers, and on quotients; no condition. -/
import Derived.Test.YtiimaodphhaohaaRows
import Derived.WalkKit
import Derived.WalkSpells
import Derived.WalkLawsBesides
import Derived.Outline
import Derived.Below
import Derived.Lib.Hide
import Derived.Laws.OwnMore
import Derived.Laws.Rows
import Derived.Deep.AppendLies
import Derived.Deep.Draws
import Derived.Deep.QuietTactic
import Derived.BigQuiet
import Derived.Deep.RegionHeld3
import Derived.Deep.DeepCutAuto
import Derived.Deep.LoopGhost
namespace Go.Proofs.Ytiimaodphhaohaa
open Go.RowKit
set_option linter.unusedVariables false

/-! ### endings -/
theorem ret_int {k : IntKind} {a b : Int} (h : a = b) : Ending.returned (.int k a) = .returned (.int k b) := by rw [h]
theorem ret_bool {a b : Bool} (h : a = b) : Ending.returned (.bool a) = .returned (.bool b) := by rw [h]

/-! ### worlds -/
theorem bw_refl (w : World) : Below w.heap.size w w := Below.refl _ _
theorem bw_alloc {w w' : World} (h : Below w.heap.size w w') (o : Obj) : Below w.heap.size w (w'.alloc o) := h.alloc h.size o
theorem bw_drew {w w' : World} (h : Below w.heap.size w w') : Below w.heap.size w w'.drew := h.drew
theorem bw_drewN {w w' : World} (h : Below w.heap.size w w') (n : Nat) : Below w.heap.size w (w'.drewN n) := ⟨h.os, h.tape, h.output, h.size, h.block⟩
theorem bw_trans {w w1 w2 : World} (h : Below w.heap.size w w1) (h2 : Below w1.heap.size w1 w2) : Below w.heap.size w w2 := h.trans (h2.mono h.size)
theorem bw_set {w w' : World} (h : Below w.heap.size w w') {p : Addr} (hp : w.heap.size ≤ p.block) (v : Value) : Below w.heap.size w (w'.setCell p v) := h.setCell hp v
theorem bcell {W w1 : World} (hb : Below W.heap.size W w1) : (∀ b o, b < W.heap.size → w1.cell? ⟨b, o, none⟩ = W.cell? ⟨b, o, none⟩) ∧ (∀ b o, b < W.heap.size → w1.frozen? ⟨b, o, none⟩ = W.frozen? ⟨b, o, none⟩) :=
  ⟨fun b o h => hb.cell (p := ⟨b, o, none⟩) h, fun b o h => hb.frozen (p := ⟨b, o, none⟩) h⟩
theorem bsize {W w1 : World} (hb : Below W.heap.size W w1) (n : Nat) (h : n < W.heap.size) : n < w1.heap.size := Nat.lt_of_lt_of_le h hb.size

theorem cell_keep {W w1 : World} {a : Addr} {v : Value} (hb : Below W.heap.size W w1) (h : W.cell? a = some v) : w1.cell? a = some v := (hb.cell (World.block_lt_of_cell? _ _ h)).trans h
theorem lt_keep {W w1 : World} {n : Nat} (hb : Below W.heap.size W w1) (h : n < W.heap.size) : n < w1.heap.size := Nat.lt_of_lt_of_le h hb.size
theorem bcomp {W0 w1 w2 : World} {n : Nat} (hc : ∀ b o, b < n → w1.cell? ⟨b, o, none⟩ = W0.cell? ⟨b, o, none⟩) (hf : ∀ b o, b < n → w1.frozen? ⟨b, o, none⟩ = W0.frozen? ⟨b, o, none⟩) (hz : ∀ k, k < n → k < w1.heap.size)
    (hb : Below w1.heap.size w1 w2) : (∀ b o, b < n → w2.cell? ⟨b, o, none⟩ = W0.cell? ⟨b, o, none⟩) ∧ (∀ b o, b < n → w2.frozen? ⟨b, o, none⟩ = W0.frozen? ⟨b, o, none⟩) ∧ (∀ k, k < n → k < w2.heap.size) :=
  ⟨fun b o h => (hb.cell (p := ⟨b, o, none⟩) (hz b h)).trans (hc b o h), fun b o h => (hb.frozen (p := ⟨b, o, none⟩) (hz b h)).trans (hf b o h), fun k h => bsize hb k (hz k h)⟩

/-! ### regions that draw their order -/
/-- The condition on the world for a whole region: all that was there when it began is as it was. -/
theorem wp_region_below {P : Program} {ops : Array Oper} {Q : Exit → Act → World → Prop} {id : Nat} {a : Act} {w : World} (hm : P.follows .mixedOrders = true)
    (h : ∀ wD, Below w.heap.size w wD → wpAnyH P .any ops Q (fun w' => Below w.heap.size w w') ops.size (Array.replicate ops.size false) a wD) : (Code.region id ops true).wp P Q a w :=
  wp_region_held_drew hm (bw_drew (bw_refl w)) (h _)
theorem heap_keep {W w1 : World} {g : Nat} {o : Obj} (hb : Below W.heap.size W w1) (h : W.heap[g]? = some o) : w1.heap[g]? = some o := by
  refine (hb.block g ?_).trans h
  rcases Nat.lt_or_ge g W.heap.size with hlt | hge
  · exact hlt
  · rw [Array.getElem?_eq_none hge] at h; cases h
theorem alloc_step {W : World} {K : Act → World → Prop} {a : Act} {cs : Array Value} {t : TypeId}
    (h : ∀ wa, Below W.heap.size W wa → wa.heap[W.heap.size]? = some (.cells cs t (0, 0)) → K a wa) : K a (W.alloc (.cells cs t)) :=
  h _ (bw_alloc (bw_refl W) _) (heap_alloc_new W _)

/-! ### integers -/
def inB (n lo hi : Int) : Bool := decide (lo ≤ n) && decide (n ≤ hi)
theorem inB_iff (n lo hi : Int) : inB n lo hi = true ↔ lo ≤ n ∧ n ≤ hi := by simp [inB]
theorem inB_no (n lo hi : Int) : inB n lo hi = false ↔ ¬ (lo ≤ n ∧ n ≤ hi) := by rw [← inB_iff]; simp
theorem inB_cases (n lo hi : Int) : (inB n lo hi = true ∧ lo ≤ n ∧ n ≤ hi) ∨ (inB n lo hi = false ∧ ¬ (lo ≤ n ∧ n ≤ hi)) := by
  cases h : inB n lo hi
  · exact .inr ⟨rfl, (inB_no _ _ _).1 h⟩
  · exact .inl ⟨rfl, (inB_iff _ _ _).1 h⟩
theorem tdiv_floor (a b : Int) (hb : 0 < b) : a.tdiv b = a / b + (if a.tmod b < 0 then 1 else 0) := by
  have h1 : a.tdiv b = a / b + if 0 ≤ a ∨ b ∣ a then 0 else b.sign := Int.tdiv_eq_ediv
  have h2 : a.tmod b = a % b - if 0 ≤ a ∨ b ∣ a then 0 else (b.natAbs : Int) := by rw [Int.tmod_eq_emod]; split <;> simp
  have hs : b.sign = 1 := Int.sign_eq_one_of_pos hb
  have hm := Int.emod_nonneg a (Int.ne_of_gt hb)
  have hm2 := Int.emod_lt_of_pos a hb
  rw [h1, h2, hs]
  by_cases h0 : 0 ≤ a ∨ b ∣ a
  · rw [if_pos h0, if_pos h0, if_neg (by omega)]
  · rw [if_neg h0, if_neg h0, if_pos (by omega)]
/-- The quotient, rounded to the nearest number, and to the even one if two are as near. -/
def rdiv (a b : Int) : Int := if b < 2 * (a - a / b * b) ∨ (2 * (a - a / b * b) = b ∧ a / b % 2 ≠ 0) then a / b + 1 else a / b
theorem tmod2 (q : Int) : (q.tmod 2 != 0) = decide (q % 2 ≠ 0) := by
  have h2 : q.tmod 2 = q % 2 - if 0 ≤ q ∨ 2 ∣ q then 0 else 2 := by
    have := Int.tmod_eq_emod (a := q) (b := 2)
    rw [this]; split <;> rfl
  have : q.tmod 2 = 0 ↔ q % 2 = 0 := by
    rw [h2]; split <;> omega
  rw [Bool.eq_iff_iff]; simp [this]
theorem rest_bd (a b : Int) (hb : 0 < b) : 0 ≤ a - a / b * b ∧ a - a / b * b < b := by
  have h := Int.emod_def a b
  have h0 := Int.emod_nonneg a (Int.ne_of_gt hb)
  have h1 := Int.emod_lt_of_pos a hb
  rw [Int.mul_comm] at h
  omega
theorem ediv_bd (a b m : Int) (hb : 0 < b) (h0 : -m ≤ a) (h1 : a ≤ m) (hm : 0 ≤ m) : -m ≤ a / b ∧ a / b ≤ m := by
  refine ⟨?_, ?_⟩
  · rw [Int.le_ediv_iff_mul_le hb]
    have : m * 1 ≤ m * b := Int.mul_le_mul_of_nonneg_left (by omega) hm
    rw [Int.neg_mul]; omega
  · refine Int.le_trans (Int.ediv_le_ediv hb h1) ?_
    exact Int.ediv_le_self b hm
theorem pow2_bd (k m : Nat) (h : k ≤ m) : (1 : Int) ≤ 2 ^ k ∧ (2 : Int) ^ k ≤ 2 ^ m := by
  refine ⟨?_, ?_⟩
  · have : (0 : Int) < 2 ^ k := Int.pow_pos (by decide)
    omega
  · have h1 : (2 : Nat) ^ k ≤ 2 ^ m := Nat.pow_le_pow_right (by decide) h
    have h2 : ((2 ^ k : Nat) : Int) ≤ ((2 ^ m : Nat) : Int) := Int.ofNat_le.2 h1
    simpa using h2
theorem mul_bd (a b m n : Int) (hm : 0 ≤ m) (_hn : 0 ≤ n) (a0 : -m ≤ a) (a1 : a ≤ m) (b0 : -n ≤ b) (b1 : b ≤ n) : -(m * n) ≤ a * b ∧ a * b ≤ m * n := by
  have h : (a * b).natAbs ≤ m.natAbs * n.natAbs := by
    rw [Int.natAbs_mul]
    exact Nat.mul_le_mul (by omega) (by omega)
  have e : ((m.natAbs * n.natAbs : Nat) : Int) = m * n := by rw [Int.natCast_mul]; congr 1 <;> omega
  omega
theorem and_mask (n : Int) (k : Nat) (hk : k ≤ 62) : bits .and .i64 n (2 ^ k - 1) = n % 2 ^ k := by
  have hp : (0 : Int) < 2 ^ k := Int.pow_pos (by decide)
  have hk2 : (2 : Nat) ^ k ≤ 2 ^ 62 := Nat.pow_le_pow_right (by decide) hk
  have hpos : (0 : Nat) < 2 ^ k := Nat.pow_pos (by decide)
  have hc : ((2 ^ k : Nat) : Int) = (2 : Int) ^ k := by simp
  have e1 : (BitVec.ofInt 64 ((2 : Int) ^ k - 1)).toNat = 2 ^ k - 1 := by
    have : (2 : Int) ^ k - 1 = ((2 ^ k - 1 : Nat) : Int) := by omega
    rw [this, BitVec.ofInt_natCast, BitVec.toNat_ofNat]
    exact Nat.mod_eq_of_lt (by omega)
  show IntKind.i64.wrap ((BitVec.ofInt 64 n &&& BitVec.ofInt 64 ((2 : Int) ^ k - 1)).toNat : Int) = _
  rw [BitVec.toNat_and, e1, Nat.and_two_pow_sub_one_eq_mod, BitVec.toNat_ofInt]
  have e2 : (((n % ((2 ^ 64 : Nat) : Int)).toNat % 2 ^ k : Nat) : Int) = n % 2 ^ k := by
    have hn : 0 ≤ n % ((2 ^ 64 : Nat) : Int) := Int.emod_nonneg _ (by decide)
    rw [Int.natCast_emod, Int.toNat_of_nonneg hn, hc]
    exact Int.emod_emod_of_dvd n (by
      have : (2 : Int) ^ 64 = 2 ^ k * 2 ^ (64 - k) := by rw [← Int.pow_add]; congr 1; omega
      exact ⟨2 ^ (64 - k), by rw [← this]; rfl⟩)
  rw [e2]
  have h0 := Int.emod_nonneg n (Int.ne_of_gt hp)
  have h1 := Int.emod_lt_of_pos n hp
  rw [IntKind.wrap_i64]
  omega

/-! ### a block known whole -/
def Blk (w : World) (g : Nat) (t : TypeId) (cs : Array Value) : Prop := w.heap[g]? = some (.cells cs t (0, 0))
section
variable {w w' : World} {g : Nat} {t : TypeId} {cs : Array Value}
theorem Blk.lt (h : Blk w g t cs) : g < w.heap.size := by
  rcases Nat.lt_or_ge g w.heap.size with hlt | hge
  · exact hlt
  · unfold Blk at h; rw [Array.getElem?_eq_none hge] at h; cases h
theorem Blk.cell (h : Blk w g t cs) (i : Nat) : w.cell? ⟨g, i, none⟩ = cs[i]? := cell_of_row w g i cs t (0, 0) h
theorem Blk.frozen (h : Blk w g t cs) (i : Nat) : w.frozen? ⟨g, i, none⟩ = false := by
  unfold Blk at h
  simp [World.frozen?, h]
theorem Blk.new (w : World) (t : TypeId) (cs : Array Value) : Blk (w.alloc (.cells cs t)) w.heap.size t cs := heap_alloc_new w _
theorem Blk.of_block (h : Blk w g t cs) (hb : w'.heap[g]? = w.heap[g]?) : Blk w' g t cs := hb.trans h
theorem Blk.drewN (h : Blk w g t cs) (n : Nat) : Blk (w.drewN n) g t cs := h
theorem Blk.alloc (h : Blk w g t cs) (o : Obj) : Blk (w.alloc o) g t cs := (Below.heap_alloc w o g h.lt).trans h
theorem Blk.below {B : Nat} (h : Blk w g t cs) (hb : Below B w w') (hg : g < B) : Blk w' g t cs := (hb.block g hg).trans h
theorem Blk.far (h : Blk w g t cs) {p : Addr} (hp : g ≠ p.block) (u : Value) : Blk (w.setCell p u) g t cs := (Below.heap_setCell w p u g hp).trans h
theorem Blk.set_ (h : Blk w g t cs) (i : Nat) (u : Value) : Blk (w.setCell ⟨g, i, none⟩ u) g t (cs.setIfInBounds i u) := by
  unfold Blk at h ⊢
  simp [World.setCell, Array.getElem?_modify, h]
theorem Blk.two {a b : Value} (h : Blk w g t #[a, b]) (c d : Value) : Blk ((w.setCell ⟨g, 0, none⟩ c).setCell ⟨g, 1, none⟩ d) g t #[c, d] := by
  have := (h.set_ 0 c).set_ 1 d
  simpa using this
end

/-! ### slices that read as lists of integers -/
/-- The slice at A reads as xs, and lies below block B. -/
def Ints (w : World) (B : Nat) (A : Option Addr) (xs : List Int) : Prop :=
  0 < xs.length → ∃ b off : Nat, A = some ⟨b, off, none⟩ ∧ b < B ∧ ∀ j, j < xs.length → w.cell? ⟨b, off + j, none⟩ = some (.int .i64 (xs.getD j 0))
def Byts (w : World) (B : Nat) (A : Option Addr) (xs : List Int) : Prop :=
  0 < xs.length → ∃ b off : Nat, A = some ⟨b, off, none⟩ ∧ b < B ∧ ∀ j, j < xs.length → w.cell? ⟨b, off + j, none⟩ = some (.int .u8 (xs.getD j 0)) ∧ 0 ≤ xs.getD j 0 ∧ xs.getD j 0 < 256
theorem Ints_nil (w : World) (B : Nat) (A : Option Addr) : Ints w B A [] := fun h => by simp at h
theorem Byts_nil (w : World) (B : Nat) (A : Option Addr) : Byts w B A [] := fun h => by simp at h
theorem take_getD (zs : List Int) (n j : Nat) (h : j < n) : (zs.take n).getD j 0 = zs.getD j 0 := by
  simp [List.getD, h]
theorem row_of (w : World) (x : Addr) (k : IntKind) (zs : List Int) (hpos : 0 < zs.length) (hc : ∀ i, i < zs.length → w.cell? (x.add i) = some (.int k (zs.getD i 0))) :
    ∃ b off : Nat, x = ⟨b, off, none⟩ ∧ b < w.heap.size ∧ ∀ j, j < zs.length → w.cell? ⟨b, off + j, none⟩ = some (.int k (zs.getD j 0)) := by
  obtain ⟨b, off, sp⟩ := x
  have h0 := hc 0 hpos
  have hs : sp = none := by simpa [Addr.add] using World.cell?_spot h0
  subst hs
  refine ⟨b, off, rfl, World.block_lt_of_cell? _ _ h0, fun j hj => ?_⟩
  have := hc j hj
  unfold Addr.add at this
  by_cases hz : j = 0
  · subst hz; simpa using this
  · simpa [hz] using this
theorem Ints_of_row (w : World) (x : Addr) (n : Nat) (zs : List Int) (hn : n ≤ zs.length) (hc : ∀ i, i < zs.length → w.cell? (x.add i) = some (.int .i64 (zs.getD i 0))) :
    Ints w w.heap.size (some x) (zs.take n) := fun hpos => by
  have hl : (zs.take n).length = n := by simp; omega
  obtain ⟨b, off, rfl, hb, h⟩ := row_of w x .i64 zs (by omega) hc
  exact ⟨b, off, rfl, hb, fun j hj => by rw [take_getD _ _ _ (by omega)]; exact h j (by omega)⟩
theorem Byts_of_row (w : World) (x : Addr) (n : Nat) (zs : List Int) (hn : n ≤ zs.length) (hc : ∀ i, i < zs.length → w.cell? (x.add i) = some (.int .u8 (zs.getD i 0)))
    (hwf : ∀ v ∈ zs, (Lit.int .u8 v).wf = true) : Byts w w.heap.size (some x) (zs.take n) := fun hpos => by
  have hl : (zs.take n).length = n := by simp; omega
  obtain ⟨b, off, rfl, hb, h⟩ := row_of w x .u8 zs (by omega) hc
  refine ⟨b, off, rfl, hb, fun j hj => ?_⟩
  rw [take_getD _ _ _ (by omega)]
  have hm : zs.getD j 0 ∈ zs := by
    rw [List.getD_eq_getElem?_getD, List.getElem?_eq_getElem (by omega)]
    exact List.getElem_mem _
  have hw := hwf _ hm
  simp [Lit.wf, IntKind.min, IntKind.max, IntKind.signed, IntKind.bits] at hw
  refine ⟨h j (by omega), ?_, ?_⟩ <;> simpa using by omega
section
variable {w w' : World} {B B' : Nat} {A : Option Addr} {xs : List Int}
theorem Ints.keep (h : Ints w B A xs) (hk : ∀ b o, b < B → w'.cell? ⟨b, o, none⟩ = w.cell? ⟨b, o, none⟩) : Ints w' B A xs := fun hp => by
  obtain ⟨b, off, e, hb, hc⟩ := h hp
  exact ⟨b, off, e, hb, fun j hj => (hk b _ hb).trans (hc j hj)⟩
theorem Ints.more (h : Ints w B A xs) (hB : B ≤ B') : Ints w B' A xs := fun hp => by
  obtain ⟨b, off, e, hb, hc⟩ := h hp
  exact ⟨b, off, e, by omega, hc⟩
theorem Ints.below (h : Ints w B A xs) (hb : Below B w w') : Ints w' B A xs := h.keep fun _ _ hp => hb.cell hp
end
end Go.Proofs.Ytiimaodphhaohaa
