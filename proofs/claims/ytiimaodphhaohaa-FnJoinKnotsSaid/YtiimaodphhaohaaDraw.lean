/- Contracts of the drawing functions: from a reader of a code they draw values in known ranges, and write to the reader's block alone; condition: the reader's place is below 2^40. -/
import Derived.Test.YtiimaodphhaohaaNum
import Derived.Laws.BitsAllLaws
import Derived.Laws.BitsLemmas
namespace Go.Proofs.Ytiimaodphhaohaa
open Go.RowKit
set_option linter.unusedVariables false

theorem ofInt_nat64 (a : Nat) (ha : a < 9223372036854775808) : (BitVec.ofInt 64 (a : Int)).toNat = a := by
  rw [BitVec.ofInt_natCast, BitVec.toNat_ofNat]; exact Nat.mod_eq_of_lt (by omega)
theorem xor_bd (a b : Int) (a0 : 0 ≤ a) (a1 : a < 9223372036854775808) (b0 : 0 ≤ b) (b1 : b < 9223372036854775808) : 0 ≤ bits .xor .i64 a b ∧ bits .xor .i64 a b < 9223372036854775808 := by
  obtain ⟨a, rfl⟩ := Int.eq_ofNat_of_zero_le a0
  obtain ⟨b, rfl⟩ := Int.eq_ofNat_of_zero_le b0
  have hx : a ^^^ b < 2 ^ 63 := Nat.xor_lt_two_pow (by omega) (by omega)
  have : bits .xor .i64 (a : Int) (b : Int) = IntKind.i64.wrap ((BitVec.ofInt 64 (a : Int) ^^^ BitVec.ofInt 64 (b : Int)).toNat : Int) := rfl
  rw [this, BitVec.toNat_xor, ofInt_nat64 a (by omega), ofInt_nat64 b (by omega), IntKind.wrap_i64]
  omega

/-- Only block g, and what is new, may have turned. -/
def Only (w w' : World) (g : Nat) : Prop := w.grownBy w' (some g)
section
variable {a w w' : World} {g : Nat}
theorem only_refl (w : World) (g : Nat) : Only w w g := World.grownBy.refl w _
theorem only_drewN (h : Only a w g) (n : Nat) : Only a (w.drewN n) g := ⟨h.os, h.tape, h.output, h.size, h.block⟩
theorem only_drew (h : Only a w g) : Only a w.drew g := ⟨h.os, h.tape, h.output, h.size, h.block⟩
theorem only_alloc (h : Only a w g) (o : Obj) : Only a (w.alloc o) g :=
  ⟨h.os, h.tape, h.output, Nat.le_trans h.size (by simp), fun i hi hne => (Below.heap_alloc w o i (Nat.lt_of_lt_of_le hi h.size)).trans (h.block i hi hne)⟩
theorem only_set (h : Only a w g) {p : Addr} (hp : p.block = g ∨ a.heap.size ≤ p.block) (u : Value) : Only a (w.setCell p u) g :=
  ⟨h.os, h.tape, h.output, by simpa [World.setCell] using h.size, fun i hi hne => (Below.heap_setCell w p u i (by
    rintro rfl
    rcases hp with hp | hp
    · exact hne (by rw [hp])
    · omega)).trans (h.block i hi hne)⟩
theorem only_trans {w1 w2 : World} (h : Only w w1 g) (h2 : Only w1 w2 g) : Only w w2 g :=
  ⟨h2.os.trans h.os, h2.tape.trans h.tape, h2.output.trans h.output, Nat.le_trans h.size h2.size, fun i hi hne => (h2.block i (Nat.lt_of_lt_of_le hi h.size) hne).trans (h.block i hi hne)⟩
theorem only_below (h : Only w w' g) (hg : w.heap.size ≤ g) : Below w.heap.size w w' :=
  ⟨h.os, h.tape, h.output, h.size, fun i hi => h.block i hi (fun e => by injection e with e; omega)⟩
theorem only_of_below (h : Below w.heap.size w w') : Only w w' g := ⟨h.os, h.tape, h.output, h.size, fun i hi _ => h.block i hi⟩
theorem ocell (h : Only w w' g) : (∀ b o, b < w.heap.size → b ≠ g → w'.cell? ⟨b, o, none⟩ = w.cell? ⟨b, o, none⟩) ∧ (∀ b o, b < w.heap.size → b ≠ g → w'.frozen? ⟨b, o, none⟩ = w.frozen? ⟨b, o, none⟩) :=
  ⟨fun b o hb hn => World.cell?_of_block (h.block b hb (fun e => hn (by injection e))), fun b o hb hn => World.frozen?_of_block (h.block b hb (fun e => hn (by injection e)))⟩
theorem osize (h : Only w w' g) (n : Nat) (hn : n < w.heap.size) : n < w'.heap.size := Nat.lt_of_lt_of_le hn h.size
end

/-- Block R is a reader that has read at most N bytes. -/
def Rd (w : World) (R N : Nat) : Prop := ∃ (A : Option Addr) (c : Nat) (xs : List Int) (p : Nat), Blk w R 55 #[.slice A xs.length c, .int .i64 p] ∧ xs.length ≤ 2000 ∧ p ≤ N ∧ Byts w R A xs
section
variable {w w' : World} {R N : Nat}
theorem Rd.lt (h : Rd w R N) : R < w.heap.size := by obtain ⟨_, _, _, _, h, _⟩ := h; exact h.lt
theorem Rd.more {N' : Nat} (h : Rd w R N) (hN : N ≤ N') : Rd w R N' := by
  obtain ⟨A, c, xs, p, h1, h2, h3, h4⟩ := h
  exact ⟨A, c, xs, p, h1, h2, by omega, h4⟩
theorem Byts.keep {B : Nat} {A : Option Addr} {xs : List Int} (h : Byts w B A xs) (hk : ∀ b o, b < B → w'.cell? ⟨b, o, none⟩ = w.cell? ⟨b, o, none⟩) : Byts w' B A xs := fun hp => by
  obtain ⟨b, off, e, hb, hc⟩ := h hp
  exact ⟨b, off, e, hb, fun j hj => ⟨(hk b _ hb).trans (hc j hj).1, (hc j hj).2⟩⟩
theorem Rd.keep (h : Rd w R N) (hk : ∀ i, i ≤ R → w'.heap[i]? = w.heap[i]?) : Rd w' R N := by
  obtain ⟨A, c, xs, p, h1, h2, h3, h4⟩ := h
  exact ⟨A, c, xs, p, h1.of_block (hk R (Nat.le_refl _)), h2, h3, h4.keep fun b o hb => World.cell?_of_block (hk b (by omega))⟩
theorem Rd.drewN (h : Rd w R N) (n : Nat) : Rd (w.drewN n) R N := h
theorem Rd.drew (h : Rd w R N) : Rd w.drew R N := h
theorem Rd.alloc (h : Rd w R N) (o : Obj) : Rd (w.alloc o) R N := h.keep fun i hi => Below.heap_alloc w o i (Nat.lt_of_le_of_lt hi h.lt)
theorem Rd.far (h : Rd w R N) {p : Addr} (hp : R < p.block) (u : Value) : Rd (w.setCell p u) R N := h.keep fun i hi => Below.heap_setCell w p u i (by omega)
theorem Rd.below {B : Nat} (h : Rd w R N) (hb : Below B w w') (hB : R < B) : Rd w' R N := h.keep fun i hi => hb.block i (by omega)
end

/-- What a drawing call leaves: the reader with at most k bytes more read. -/
def Drew (w w' : World) (R N : Nat) : Prop := Rd w' R N ∧ Only w w' R

def DrawsI (P : Int → Prop) (w : World) (R N : Nat) (e : Ending) (w' : World) : Prop := ∃ v : Int, e = .returned (.int .i64 v) ∧ P v ∧ Drew w w' R N
/-- In lo .. hi - 1. -/
def Upto (lo hi v : Int) : Prop := lo ≤ v ∧ v < hi
theorem upto_emod (x m : Int) (hm : 1 ≤ m) : Upto 0 m (x % m) := ⟨Int.emod_nonneg _ (by omega), Int.emod_lt_of_pos _ (by omega)⟩
theorem upto_tmod (x m : Int) (hx : 0 ≤ x) (hm : 1 ≤ m) : Upto 0 m (x.tmod m) := by rw [Int.tmod_eq_emod_of_nonneg hx]; exact upto_emod x m hm
theorem Byts.at_ {w : World} {B : Nat} {A : Option Addr} {xs : List Int} (h : Byts w B A xs) (hp : 0 < xs.length) : ∃ b off, A = some ⟨b, off, none⟩ ∧ b < B ∧ ∀ j, j < xs.length → ∃ x, w.cell? ⟨b, off + j, none⟩ = some (.int .u8 x) ∧ 0 ≤ x ∧ x < 256 := by
  obtain ⟨b, off, e, hb, hc⟩ := h hp
  exact ⟨b, off, e, hb, fun j hj => ⟨_, (hc j hj).1, (hc j hj).2.1, (hc j hj).2.2⟩⟩

set_option maxHeartbeats 800000 in
theorem pick_any (R N : Nat) (m : Int) (hm : 1 ≤ m) (hm2 : m ≤ 1099511627776) (w : World) (h : Rd w R N) (hN : N ≤ 1099511627776) :
    Calls Try.prog 45 #[.pointer (some ⟨R, 0, none⟩), .int .i64 m] w (DrawsI (Upto 0 m) w R (N + 1)) := by
  obtain ⟨A, c, xs, p, h1, h2, h3, h4⟩ := h
  have hc0 : w.cell? ⟨R, 0, none⟩ = some (.slice A xs.length c) := h1.cell 0
  have hc1 : w.cell? ⟨R, 1, none⟩ = some (.int .i64 p) := h1.cell 1
  have hf1 := h1.frozen 1
  have hfin : ∀ k : Nat, Drew w ((w.setCell ⟨R, 1, none⟩ (.int .i64 ((p : Int) + 1))).drewN k) R (N + 1) := fun k => by
    refine ⟨⟨A, c, xs, p + 1, ?_, h2, by omega, ?_⟩, only_drewN (only_set (only_refl _ _) (.inl rfl) _) k⟩
    · have := h1.set_ 1 (.int .i64 ((p : Int) + 1))
      have e : (#[Value.slice A xs.length c, Value.int .i64 p] : Array Value).setIfInBounds 1 (.int .i64 ((p : Int) + 1)) = #[.slice A xs.length c, .int .i64 ((p + 1 : Nat) : Int)] := by simp
      rw [e] at this
      exact this
    · exact h4.keep fun b o hb => World.cell?_setCell_other w _ _ _ (fun e => by injection e; omega)
  have HF := Lib.hid hfin
  have hpb : p ≤ 1099511627776 := by omega
  clear hfin h1 h3
  rcases Nat.eq_zero_or_pos xs.length with h0 | h0
  · clear h4
    go_enter Try.func45, Try.ntmps45
    go_wp2
    go_ret
    exact ⟨0, rfl, ⟨Int.le_refl _, by omega⟩, HF.out 0⟩
  · obtain ⟨b, off, rfl, hb, hc⟩ := h4.at_ h0
    have hne : R ≠ b := by omega
    have hnz : ((xs.length : Int) == 0) = false := beq_eq_false_iff_ne.2 (by omega)
    clear h4
    by_cases hp : p < xs.length
    · obtain ⟨x, hx, x0, x1⟩ := hc p hp
      clear hc
      go_enter Try.func45, Try.ntmps45
      go_wp2
      go_ret
      exact ⟨_, rfl, by first | exact upto_emod _ _ hm | exact upto_tmod _ _ x0 hm, HF.out 0⟩
    · obtain ⟨x, hx, x0, x1⟩ := hc (p % xs.length) (Nat.mod_lt _ h0)
      obtain ⟨y, hy, y0, y1⟩ := hc ((p * 7 + 3) % xs.length) (Nat.mod_lt _ h0)
      have hnn : ¬ (xs.length : Int) = 0 := by omega
      clear hc
      go_enter Try.func45, Try.ntmps45
      go_wp2
      obtain ⟨n, hn⟩ : ∃ n : Int, (xs.length : Int) = n := ⟨_, rfl⟩
      have d0 : 0 ≤ (p : Int) / (xs.length : Int) := Int.ediv_nonneg (by omega) (by omega)
      have d1 : (p : Int) / (xs.length : Int) ≤ p := Int.ediv_le_self _ (by omega)
      have i0 : 0 ≤ (p : Int) % (xs.length : Int) := Int.emod_nonneg _ hnn
      have i1 : (p : Int) % (xs.length : Int) < xs.length := Int.emod_lt_of_pos _ (by omega)
      have j0 : 0 ≤ ((p : Int) * 7 + 3) % (xs.length : Int) := Int.emod_nonneg _ hnn
      have j1 : ((p : Int) * 7 + 3) % (xs.length : Int) < xs.length := Int.emod_lt_of_pos _ (by omega)
      have T0 : 0 ≤ x * 131 + y * 1117 + (p : Int) * 29 + (p : Int) / (xs.length : Int) * 53 := by omega
      have T1 : x * 131 + y * 1117 + (p : Int) * 29 + (p : Int) / (xs.length : Int) * 53 < 4611686018427387904 := by omega
      have e1 : (p : Int).tmod (xs.length : Int) = (p : Int) % (xs.length : Int) := Int.tmod_eq_emod_of_nonneg (by omega)
      have e4 : ((p : Int) * 7 + 3).tmod (xs.length : Int) = ((p : Int) * 7 + 3) % (xs.length : Int) := Int.tmod_eq_emod_of_nonneg (by omega)
      have e6 : (p : Int).tdiv (xs.length : Int) = (p : Int) / (xs.length : Int) := Int.tdiv_eq_ediv_of_nonneg (by omega)
      have n1 : ((p : Int) % (xs.length : Int)).toNat = p % xs.length := by rw [← Int.natCast_emod, Int.toNat_natCast]
      have n2 : (((p : Int) * 7 + 3) % (xs.length : Int)).toNat = (p * 7 + 3) % xs.length := by
        have e : (p : Int) * 7 + 3 = ((p * 7 + 3 : Nat) : Int) := by omega
        rw [e, ← Int.natCast_emod, Int.toNat_natCast]
      have a0 : IntKind.i64.wrap x = x := IntWalk.i64_in _ (by omega)
      have a0' : IntKind.i64.wrap y = y := IntWalk.i64_in _ (by omega)
      have a1 : IntKind.i64.wrap (x * 131) = x * 131 := IntWalk.i64_in _ (by omega)
      have a2 : IntKind.i64.wrap (y * 1117) = y * 1117 := IntWalk.i64_in _ (by omega)
      have a3 : IntKind.i64.wrap (x * 131 + y * 1117) = x * 131 + y * 1117 := IntWalk.i64_in _ (by omega)
      have a4 : IntKind.i64.wrap ((p : Int) * 29) = (p : Int) * 29 := IntWalk.i64_in _ (by omega)
      have a5 : IntKind.i64.wrap (x * 131 + y * 1117 + (p : Int) * 29) = x * 131 + y * 1117 + (p : Int) * 29 := IntWalk.i64_in _ (by omega)
      have a6 : IntKind.i64.wrap ((p : Int) / (xs.length : Int)) = (p : Int) / (xs.length : Int) := IntWalk.i64_in _ (by omega)
      have a7 : IntKind.i64.wrap ((p : Int) / (xs.length : Int) * 53) = (p : Int) / (xs.length : Int) * 53 := IntWalk.i64_in _ (by omega)
      have a8 : IntKind.i64.wrap (x * 131 + y * 1117 + (p : Int) * 29 + (p : Int) / (xs.length : Int) * 53) = x * 131 + y * 1117 + (p : Int) * 29 + (p : Int) / (xs.length : Int) * 53 := IntWalk.i64_in _ (by omega)
      have b1 : IntKind.i64.wrap ((p : Int) * 7) = (p : Int) * 7 := IntWalk.i64_in _ (by omega)
      have b2 : IntKind.i64.wrap ((p : Int) * 7 + 3) = (p : Int) * 7 + 3 := IntWalk.i64_in _ (by omega)
      clear hn
      go_quiet (fail)
      clear e1 e4 e6 n1 n2 a0 a0' a1 a2 a3 a4 a5 a6 a7 a8 b1 b2 i0 i1 j0 j1 d0 d1
      obtain ⟨t, ht⟩ : ∃ t, x * 131 + y * 1117 + (p : Int) * 29 + (p : Int) / (xs.length : Int) * 53 = t := ⟨_, rfl⟩
      rw [ht] at T0 T1 ⊢
      clear ht
      obtain ⟨u0, u1⟩ := xor_bd t (t / 64) T0 (by omega) (by omega) (by omega)
      obtain ⟨u, hu⟩ : ∃ u, bits .xor .i64 t (t / 64) = u := ⟨_, rfl⟩
      rw [hu] at u0 u1
      go_wp2
      go_ret
      exact ⟨_, rfl, by first | exact upto_emod _ _ hm | exact upto_tmod _ _ u0 hm, HF.out _⟩

/-! ### literals -/
theorem only_new {W w' : World} {R : Nat} {o : Obj} (hO : Only (W.alloc o) w' R) (hR : R < W.heap.size) : w'.heap[W.heap.size]? = some o := by
  have := hO.block W.heap.size (by simp) (fun e => by injection e; omega)
  exact this.trans (heap_alloc_new W o)
theorem only_new2 {W w' : World} {R : Nat} {a b : Obj} (hO : Only ((W.alloc a).alloc b) w' R) (hR : R < W.heap.size) : w'.heap[W.heap.size]? = some a ∧ w'.heap[W.heap.size + 1]? = some b := by
  have h1 := hO.block W.heap.size (by simp; omega) (fun e => by injection e; omega)
  have h2 := hO.block (W.heap.size + 1) (by simp) (fun e => by injection e; omega)
  refine ⟨h1.trans ((Below.heap_alloc _ _ _ (by simp)).trans (heap_alloc_new W a)), h2.trans ?_⟩
  have := heap_alloc_new (W.alloc a) b
  simpa using this
theorem lit_at {w : World} {g : Nat} {t : TypeId} {fr : Nat × Nat} (l : List Int) (P : Int → Prop) (h : w.heap[g]? = some (.cells (l.map (Value.int .i64)).toArray t fr)) (hP : ∀ x ∈ l, P x) (v : Int) (v0 : 0 ≤ v) (v1 : v < l.length) :
    ∃ u, w.cell? ⟨g, v.toNat, none⟩ = some (.int .i64 u) ∧ P u := by
  have hv : v.toNat < l.length := by omega
  refine ⟨l[v.toNat], ?_, hP _ (List.getElem_mem hv)⟩
  rw [cell_of_row w g _ _ t fr h]
  simp [hv]

theorem wp_region_free {P : Program} {ops : Array Oper} {Q : Exit → Act → World → Prop} {id : Nat} {a : Act} {w : World} (hm : P.follows .mixedOrders = true)
    (h : wpAnyH P .any ops Q (fun _ => True) ops.size (Array.replicate ops.size false) a w.drew) : (Code.region id ops true).wp P Q a w :=
  wp_region_held_drew hm trivial fun _ => h
theorem heap_drew {W : World} {g : Nat} {o : Obj} (h : W.heap[g]? = some o) : W.drew.heap[g]? = some o := h
theorem only_keep {W w1 : World} {R g : Nat} {o : Obj} (hO : Only W w1 R) (h : W.heap[g]? = some o) (hne : g ≠ R) : w1.heap[g]? = some o := by
  refine (hO.block g ?_ (fun e => hne (by injection e))).trans h
  rcases Nat.lt_or_ge g W.heap.size with hlt | hge
  · exact hlt
  · rw [Array.getElem?_eq_none hge] at h; cases h
def DrawsB (w : World) (R N : Nat) (e : Ending) (w' : World) : Prop := ∃ b : Bool, e = .returned (.bool b) ∧ Drew w w' R N
theorem odd_any (R N : Nat) (m : Int) (hm : 1 ≤ m) (hm2 : m ≤ 1099511627776) (w : World) (h : Rd w R N) (hN : N ≤ 1099511627776) :
    Calls Try.prog 46 #[.pointer (some ⟨R, 0, none⟩), .int .i64 m] w (DrawsB w R (N + 1)) := by
  go_enter Try.func46, Try.ntmps46
  go_wp2_with (go_at_call 45; refine (pick_any R N m hm hm2 _ h hN).mono ?_; rintro e w1 ⟨v, rfl, ⟨hv0, hv1⟩, hD⟩)
  go_ret
  exact ⟨_, rfl, hD⟩
theorem l20Open_any (A : Option Addr) (n c : Nat) (xs : List Int) (w : World) (hn : xs.length = n) (hc : n ≤ c) (hm : c ≤ maxLen) (h : Byts w w.heap.size A xs) (hlen : n ≤ 4294967296) :
    Calls Try.prog 43 #[.slice A n c] w fun e w' => e = .returned (.pointer (some ⟨w.heap.size, 0, none⟩)) ∧ Rd w' w.heap.size 0 ∧ Below w.heap.size w w' := by
  subst hn
  unfold maxLen at hm
  by_cases hb : 2000 < xs.length
  · go_enter Try.func43, Try.ntmps43
    go_wp2
    go_ret
    have hl : (xs.take 2000).length = 2000 := by rw [List.length_take]; omega
    refine ⟨rfl, ⟨A, c, xs.take 2000, 0, by rw [hl]; exact Blk.new _ _ _, by omega, Nat.le_refl _, ?_⟩, (by repeat (first | exact bw_refl _ | assumption | apply bw_alloc | apply bw_drew | apply bw_drewN | (refine bw_trans ?_ (by assumption)) | (refine bw_set ?_ (by simp only [go_sem]; omega) _)))⟩
    intro hp
    obtain ⟨b, off, e, hbl, hcell⟩ := h (by omega)
    refine ⟨b, off, e, hbl, fun j hj => ?_⟩
    rw [take_getD _ _ _ (by omega)]
    have := hcell j (by omega)
    exact ⟨(World.cell?_alloc_lt _ _ _ hbl).trans this.1, this.2⟩
  · go_enter Try.func43, Try.ntmps43
    go_wp2
    go_ret
    refine ⟨rfl, ⟨A, c, xs, 0, Blk.new _ _ _, by omega, Nat.le_refl _, h.keep fun b o hb => ?_⟩, (by repeat (first | exact bw_refl _ | assumption | apply bw_alloc | apply bw_drew | apply bw_drewN | (refine bw_trans ?_ (by assumption)) | (refine bw_set ?_ (by simp only [go_sem]; omega) _)))⟩
    exact World.cell?_alloc_lt _ _ _ hb
end Go.Proofs.Ytiimaodphhaohaa
