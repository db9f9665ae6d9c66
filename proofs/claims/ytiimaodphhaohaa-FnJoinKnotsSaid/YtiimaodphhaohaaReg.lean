/- A law for regions that draw their order and hold a reader's calls: one step for each operation, whatever has come before; condition: an operation's operands are waited for. -/
import Derived.Test.YtiimaodphhaohaaDraw
import Derived.Deep.RegionHeld3
namespace Go.Proofs.Ytiimaodphhaohaa
open Go.RowKit
set_option linter.unusedVariables false

/-- Only blocks R and G, and what is new, may have turned. -/
structure Only2 (w w' : World) (R G : Nat) : Prop where
  os : w'.os = w.os
  tape : w'.tape = w.tape
  output : w'.output = w.output
  size : w.heap.size ≤ w'.heap.size
  block : ∀ i, i < w.heap.size → i ≠ R → i ≠ G → w'.heap[i]? = w.heap[i]?
section
variable {w w1 w' : World} {R G g : Nat} {o : Obj}
theorem Only.to2l (h : Only w w' R) (G : Nat) : Only2 w w' R G := ⟨h.os, h.tape, h.output, h.size, fun i hi h1 _ => h.block i hi (fun e => h1 (by injection e))⟩
theorem Only.to2r (h : Only w w' G) (R : Nat) : Only2 w w' R G := ⟨h.os, h.tape, h.output, h.size, fun i hi _ h1 => h.block i hi (fun e => h1 (by injection e))⟩
theorem Only2.trans (h : Only2 w w1 R G) (h2 : Only2 w1 w' R G) : Only2 w w' R G :=
  ⟨h2.os.trans h.os, h2.tape.trans h.tape, h2.output.trans h.output, Nat.le_trans h.size h2.size, fun i hi a b => (h2.block i (Nat.lt_of_lt_of_le hi h.size) a b).trans (h.block i hi a b)⟩
theorem Only2.keep (h : Only2 w w' R G) (hh : w.heap[g]? = some o) (a : g ≠ R) (b : g ≠ G) : w'.heap[g]? = some o := by
  refine (h.block g ?_ a b).trans hh
  rcases Nat.lt_or_ge g w.heap.size with hlt | hge
  · exact hlt
  · rw [Array.getElem?_eq_none hge] at hh; cases hh
theorem Only2.one (h : Only2 w w' R G) (hG : G = R ∨ w.heap.size ≤ G) : Only w w' R :=
  ⟨h.os, h.tape, h.output, h.size, fun i hi hne => h.block i hi (fun e => hne (by rw [e])) (fun e => by
    rcases hG with hG | hG
    · exact hne (by rw [e, hG])
    · omega)⟩
end

/-- What is known of a temporary's value: in a world whose reader is block R, and whose result is block G. -/
inductive Fc
  | any
  | val (p : Value → Prop)
  | lit (n : Nat) (p : Int → Prop)
  | cell (p : Int → Prop)
  | new (cs : Array Value) (t : TypeId) (B : Nat)
def num : Fc := .val fun v => ∃ u : Int, v = .int .i64 u
def upto (lo hi : Int) : Fc := .val fun v => ∃ u : Int, v = .int .i64 u ∧ lo ≤ u ∧ u < hi
def bool : Fc := .val fun v => ∃ u : Bool, v = .bool u
def is (x : Value) : Fc := .val fun v => v = x
def Fc.holds (R G : Nat) : Fc → Value → World → Prop
  | .any, _, _ => True
  | .val p, v, _ => p v
  | .lit n p, v, w => ∃ (g : Nat) (l : List Int) (t : TypeId) (fr : Nat × Nat), v = .slice (some ⟨g, 0, none⟩) n n ∧ g ≠ R ∧ g ≠ G ∧ l.length = n ∧ w.heap[g]? = some (.cells (l.map (Value.int .i64)).toArray t fr) ∧ ∀ x ∈ l, p x
  | .cell p, v, w => ∃ (g k : Nat) (u : Int), v = .pointer (some ⟨g, k, none⟩) ∧ g ≠ R ∧ g ≠ G ∧ w.cell? ⟨g, k, none⟩ = some (.int .i64 u) ∧ p u
  | .new cs t B, v, w => ∃ (g : Nat), v = .pointer (some ⟨g, 0, none⟩) ∧ g ≠ R ∧ g ≠ G ∧ B ≤ g ∧ Blk w g t cs
theorem Fc.keep {R G : Nat} {w w' : World} (h : Only2 w w' R G) : ∀ {f : Fc} {v : Value}, f.holds R G v w → f.holds R G v w'
  | .any, _, _ => trivial
  | .val p, _, hp => hp
  | .lit n p, _, ⟨g, l, t, fr, e, hg, hg2, hl, hh, hp⟩ => ⟨g, l, t, fr, e, hg, hg2, hl, h.keep hh hg hg2, hp⟩
  | .cell p, _, ⟨g, k, u, e, hg, hg2, hc, hp⟩ => ⟨g, k, u, e, hg, hg2, (World.cell?_of_block (h.block g (World.block_lt_of_cell? _ _ hc) hg hg2)).trans hc, hp⟩
  | .new cs t B, _, ⟨g, e, hg, hg2, hB, hb⟩ => ⟨g, e, hg, hg2, hB, h.keep hb hg hg2⟩
theorem Fc.at_lit {R G n : Nat} {p : Int → Prop} {v : Value} {w : World} (h : (Fc.lit n p).holds R G v w) : ∃ (g : Nat), v = .slice (some ⟨g, 0, none⟩) n n ∧ ∀ k : Int, 0 ≤ k → k < n → (Fc.cell p).holds R G (.pointer (some ⟨g, k.toNat, none⟩)) w := by
  obtain ⟨g, l, t, fr, rfl, hg, hg2, hl, hh, hp⟩ := h
  refine ⟨g, rfl, fun k h0 h1 => ?_⟩
  obtain ⟨u, hu, pu⟩ := lit_at l p hh hp k h0 (by omega)
  exact ⟨g, k.toNat, u, rfl, hg, hg2, hu, pu⟩
theorem Fc.lit_new {R G n : Nat} {p : Int → Prop} {t : TypeId} (l : List Int) {w : World} {cs : Array Value} (hcs : cs = (l.map (Value.int .i64)).toArray) (hR : R < w.heap.size) (hG : G < w.heap.size) (hl : l.length = n) (hp : ∀ x ∈ l, p x) :
    (Fc.lit n p).holds R G (.slice (some ⟨w.heap.size, 0, none⟩) n n) (w.alloc (.cells cs t)) :=
  ⟨_, l, t, (0, 0), rfl, by omega, by omega, hl, by subst hcs; exact heap_alloc_new w _, hp⟩

def unl (L : Array Bool) : Nat → Nat
  | 0 => 0
  | m + 1 => unl L m + if L.getD m false = true then 0 else 1
theorem unl_succ (L : Array Bool) (m : Nat) : unl L (m + 1) = unl L m + if L.getD m false = true then 0 else 1 := rfl
theorem unl_zero {L : Array Bool} : ∀ {m : Nat}, unl L m = 0 → ∀ i, i < m → L.getD i false = true
  | m + 1, h, i, hi => by
    unfold unl at h
    by_cases hm : L.getD m false = true
    · rw [if_pos hm] at h
      rcases Nat.lt_or_eq_of_le (Nat.le_of_lt_succ hi) with hlt | rfl
      · exact unl_zero (by omega) i hlt
      · exact hm
    · rw [if_neg hm] at h; omega
theorem unl_pos {L : Array Bool} : ∀ {m : Nat}, 0 < unl L m → ∃ i, i < m ∧ L.getD i false = false ∧ ∀ j, j < i → L.getD j false = true
  | m + 1, h => by
    by_cases hz : unl L m = 0
    · refine ⟨m, by omega, ?_, unl_zero hz⟩
      unfold unl at h
      by_cases hm : L.getD m false = true
      · rw [if_pos hm] at h; omega
      · simpa using hm
    · obtain ⟨i, hi, h1, h2⟩ := unl_pos (L := L) (m := m) (by omega)
      exact ⟨i, by omega, h1, h2⟩
theorem getD_set' (L : Array Bool) (i j : Nat) (hi : i < L.size) : (L.setIfInBounds i true).getD j false = if j = i then true else L.getD j false := by
  simp only [Array.getD_eq_getD_getElem?, Array.getElem?_setIfInBounds]
  by_cases h : i = j
  · subst h; simp [hi]
  · rw [if_neg h, if_neg (fun e => h e.symm)]
theorem unl_set {L : Array Bool} {i : Nat} (hi : i < L.size) (h0 : L.getD i false = false) : ∀ {m : Nat}, unl (L.setIfInBounds i true) m + (if i < m then 1 else 0) = unl L m
  | 0 => by simp [unl]
  | m + 1 => by
    have ih := unl_set hi h0 (m := m)
    rw [unl_succ, unl_succ, getD_set' L i m hi]
    by_cases hm : m = i
    · subst hm
      rw [if_neg (Nat.lt_irrefl _)] at ih
      rw [if_pos rfl, if_pos rfl, if_pos (Nat.lt_succ_self _), h0, if_neg (by simp)]
      omega
    · rw [if_neg hm]
      by_cases hlt : i < m
      · rw [if_pos hlt] at ih; rw [if_pos (show i < m + 1 by omega)]; omega
      · rw [if_neg hlt] at ih; rw [if_neg (show ¬ i < m + 1 by omega)]; omega
theorem unl_le (L : Array Bool) : ∀ m, unl L m ≤ m
  | 0 => Nat.le_refl _
  | m + 1 => by have := unl_le L m; unfold unl; split <;> omega
theorem unl_none (n : Nat) : ∀ m, unl (Array.replicate n false) m = m
  | 0 => rfl
  | m + 1 => by
    unfold unl; rw [unl_none n m, if_neg (by simp [Array.getD_eq_getD_getElem?, Array.getElem?_replicate]; split <;> simp)]

def over (T0 : Array Value) (ks : List Nat) (tm : Nat → Value) : Array Value := ks.foldl (fun T k => T.setIfInBounds k (tm k)) T0
theorem over_get (tm : Nat → Value) : ∀ (ks : List Nat) (T0 : Array Value) (k : Nat), (over T0 ks tm)[k]? = if k ∈ ks ∧ k < T0.size then some (tm k) else T0[k]?
  | [], T0, k => by simp [over]
  | d :: ks, T0, k => by
    have ih := over_get tm ks (T0.setIfInBounds d (tm d)) k
    have e : over T0 (d :: ks) tm = over (T0.setIfInBounds d (tm d)) ks tm := rfl
    rw [e, ih]
    simp only [Array.size_setIfInBounds, Array.getElem?_setIfInBounds, List.mem_cons]
    by_cases h1 : k ∈ ks ∧ k < T0.size
    · rw [if_pos h1, if_pos ⟨.inr h1.1, h1.2⟩]
    · rw [if_neg h1]
      by_cases h2 : d = k
      · subst h2
        by_cases h3 : d < T0.size
        · simp [h3]
        · simp [h3]
      · rw [if_neg h2, if_neg]
        rintro ⟨h4 | h4, h5⟩
        · exact h2 h4.symm
        · exact h1 ⟨h4, h5⟩
theorem over_put (T0 : Array Value) (ks : List Nat) (tm : Nat → Value) (d : Nat) (v : Value) (hd : d ∈ ks) : (over T0 ks tm).setIfInBounds d v = over T0 ks (fun k => if k = d then v else tm k) := by
  have hs : ∀ (ks : List Nat) (T0 : Array Value) (tm : Nat → Value), (over T0 ks tm).size = T0.size := by
    intro ks
    induction ks with
    | nil => intro T0 tm; rfl
    | cons x xs ih => intro T0 tm; exact (ih _ tm).trans (by simp)
  apply Array.ext_getElem?
  intro k
  rw [over_get, Array.getElem?_setIfInBounds, over_get, hs]
  by_cases h : d = k
  · subst h
    by_cases h3 : d < T0.size
    · simp [h3, hd]
    · simp [h3]
  · have h' : ¬ k = d := fun e => h e.symm
    rw [if_neg h, if_neg h']

def predDst (ops : Array Oper) (o : Oper) : List Nat := (o.after.toList.filter (Region.binds .any)).filterMap fun e => (ops[e.on]?).bind (·.dst)
/-- The first m operations come before all others; every one waits for earlier ones alone; their temporaries are apart, and among ks. -/
def shapeB (ops : Array Oper) (m : Nat) (ks : List Nat) : Bool :=
  decide (m ≤ ops.size) &&
  ((List.range m).all fun i => ((ops[i]?).map fun o => (o.after.toList.all fun e => !Region.binds .any e || decide (e.on < i)) && (match o.dst with | some d => ks.contains d | none => true)).getD false) &&
  ((List.range (ops.size - m)).all fun i => ((ops[m + i]?).map fun o => (List.range m).all fun j => o.after.toList.any fun e => Region.binds .any e && decide (e.on = j)).getD false) &&
  ((List.range m).all fun i => (List.range m).all fun j => decide (i = j) || (match (ops[i]?).bind (·.dst), (ops[j]?).bind (·.dst) with | some x, some y => decide (x ≠ y) | _, _ => true))

section
variable {P : Program} {ops : Array Oper} {Q : Exit → Act → World → Prop}
/-- One operation's step: w0 is the world at the region's beginning; E is held throughout. -/
def StepR (P : Program) (ops : Array Oper) (Q : Exit → Act → World → Prop) (A : (Nat → Value) → Act) (Fs : Nat → Fc) (w0 : World) (E : World → Prop) (R G N U m : Nat) (o : Oper) : Prop :=
  ∀ (K : Act → World → Prop) (tm : Nat → Value) (wc : World) (c : Nat), c < m → Rd wc R (N + c * U) → Only2 w0 wc R G → E wc → (∀ d, (predDst ops o).contains d = true → (Fs d).holds R G (tm d) wc) →
    Shut (∀ v w', Rd w' R (N + c * U + U) → (Only wc w' R ∨ (Only wc w' G ∧ E w')) → (match o.dst with | some d => (Fs d).holds R G v w' | none => True) → K ((A tm).put o.dst v) w') →
    if Region.wanted o (yielded ops (A tm).tmps) = true then Oper.wp P o (A tm) wc K Q else K ((A tm).put o.dst undef) wc
def StepsR (P : Program) (ops : Array Oper) (Q : Exit → Act → World → Prop) (A : (Nat → Value) → Act) (Fs : Nat → Fc) (w0 : World) (E : World → Prop) (R G N U m : Nat) (is : List Nat) : Prop :=
  ∀ i ∈ is, ∃ o, ops[i]? = some o ∧ StepR P ops Q A Fs w0 E R G N U m o
theorem StepsR.nil {A : (Nat → Value) → Act} {Fs : Nat → Fc} {w0 : World} {E : World → Prop} {R G N U m : Nat} : StepsR P ops Q A Fs w0 E R G N U m [] := fun _ h => by cases h
theorem StepsR.cons {A : (Nat → Value) → Act} {Fs : Nat → Fc} {w0 : World} {E : World → Prop} {R G N U m i : Nat} {is : List Nat} {o : Oper} (ho : ops[i]? = some o) (h : StepR P ops Q A Fs w0 E R G N U m o) (hs : StepsR P ops Q A Fs w0 E R G N U m is) : StepsR P ops Q A Fs w0 E R G N U m (i :: is) := fun j hj => by
  rcases List.mem_cons.1 hj with rfl | hj
  · exact ⟨o, ho, h⟩
  · exact hs j hj

theorem any_draw {a : Act} {w : World} (ks : List Nat) (Fs : Nat → Fc) (m r U R G N : Nat) (E : World → Prop) (A : (Nat → Value) → Act)
    (hsh : shapeB ops m ks = true) (hn : ops.size = m + r) (hA : ∀ tm, A tm = { a with tmps := over a.tmps ks tm })
    (hR : Rd w R N) (hE0 : E w) (hEk : ∀ w1 w2, Only w1 w2 R → E w1 → E w2) (hs : StepsR P ops Q A Fs w E R G N U m (List.range m))
    (hdone : ∀ tm w', Rd w' R (N + m * U) → Only2 w w' R G → E w' → (∀ d, (ops.toList.take m).any (fun o => o.dst == some d) = true → (Fs d).holds R G (tm d) w') →
      wpAnyH P .any ops Q (fun _ => True) r ((List.replicate m true ++ List.replicate r false).toArray) (A tm) w') :
    wpAny P .any ops Q ops.size (Array.replicate ops.size false) a { w with drawn := w.drawn + 1 } ∧ wpAny P .any ops Q ops.size (Array.replicate ops.size false) a w := by
  unfold shapeB at hsh
  simp only [Bool.and_eq_true, decide_eq_true_eq, List.all_eq_true, List.mem_range] at hsh
  obtain ⟨⟨⟨hle, hback⟩, hsink⟩, hapart⟩ := hsh
  obtain ⟨tm0, htm0⟩ : ∃ tm, a = A tm := by
    refine ⟨fun k => a.tmps.getD k undef, ?_⟩
    rw [hA]
    have e : over a.tmps ks (fun k => a.tmps.getD k undef) = a.tmps := by
      apply Array.ext_getElem?
      intro k
      rw [over_get]
      by_cases h : k ∈ ks ∧ k < a.tmps.size
      · rw [if_pos h, Array.getD_eq_getD_getElem?, Array.getElem?_eq_getElem h.2]; rfl
      · rw [if_neg h]
    rw [e]
  have hr : ops.size - m = r := by omega
  rw [← hr] at hdone
  have main : ∀ (k : Nat) (L : Array Bool) (tm : Nat → Value) (wc : World), L.size = ops.size → (∀ i, m ≤ i → L.getD i false = false) → unl L m = k →
      Rd wc R (N + (m - k) * U) → Only2 w wc R G → E wc → (∀ j o d, j < m → L.getD j false = true → ops[j]? = some o → o.dst = some d → (Fs d).holds R G (tm d) wc) →
      wpAny P .any ops Q (k + (ops.size - m)) L (A tm) wc := by
    intro k
    induction k with
    | zero =>
      intro L tm wc hL hhi hk hRc hO hE hF
      have hall := unl_zero hk
      have e : L = (List.replicate m true ++ List.replicate (ops.size - m) false).toArray := by
        apply Array.ext_getElem?
        intro i
        simp only [List.getElem?_toArray, List.getElem?_append, List.length_replicate, List.getElem?_replicate]
        by_cases hi : i < m
        · have := hall i hi
          rw [Array.getD_eq_getD_getElem?] at this
          rw [if_pos hi, if_pos hi]
          rw [Array.getElem?_eq_getElem (by omega)] at this ⊢
          simpa using this
        · have := hhi i (by omega)
          rw [Array.getD_eq_getD_getElem?] at this
          rw [if_neg hi]
          by_cases hi2 : i < ops.size
          · rw [if_pos (by omega)]
            rw [Array.getElem?_eq_getElem (by omega)] at this ⊢
            simpa using this
          · rw [if_neg (by omega), Array.getElem?_eq_none (by omega)]
      rw [e, Nat.zero_add]
      refine wpAny_of_held _ _ _ _ (hdone tm wc (by simpa using hRc) hO hE fun d hd => by
        rw [List.any_eq_true] at hd
        obtain ⟨o, ho, hod⟩ := hd
        obtain ⟨j, hj, rfl⟩ := List.mem_iff_getElem.1 ho
        have hj' : j < m := by simp at hj; omega
        refine hF j _ d hj' (hall j hj') ?_ (by simpa using hod)
        simp at hj ⊢)
    | succ k ih =>
      intro L tm wc hL hhi hk hRc hO hE hF
      have hkm : k + 1 ≤ m := by have := unl_le L m; omega
      obtain ⟨i0, hi0, hu0, hlow⟩ := unl_pos (L := L) (m := m) (by omega)
      have hgt : ∀ j, L.getD j true = if j < L.size then L.getD j false else true := fun j => by
        simp only [Array.getD_eq_getD_getElem?]
        by_cases hj : j < L.size
        · rw [if_pos hj, Array.getElem?_eq_getElem hj]; rfl
        · rw [if_neg hj, Array.getElem?_eq_none (by omega)]; rfl
      have hre : k + 1 + (ops.size - m) = (k + (ops.size - m)) + 1 := by omega
      rw [hre]
      refine ⟨fun hr => ?_, fun i hi => ?_⟩
      · exfalso
        have : i0 ∈ Region.ready .any ops L := by
          unfold Region.ready
          rw [List.mem_filter]
          refine ⟨List.mem_range.2 (by omega), ?_⟩
          have hb := hback i0 hi0
          rw [hgt i0, if_pos (by omega), hu0]
          rw [Array.getElem?_eq_getElem (show i0 < ops.size by omega)] at hb ⊢
          simp only [Option.map_some, Option.getD_some, Bool.not_false, Bool.true_and] at hb ⊢
          rw [Bool.and_eq_true] at hb
          rw [Array.all_eq_true_iff_forall_mem]
          intro e he
          have h1 := List.all_eq_true.1 hb.1 e (by simpa using he)
          rw [Bool.or_eq_true] at h1 ⊢
          rcases h1 with h1 | h1
          · exact .inl h1
          · exact .inr (hlow _ (by simpa using h1))
        rw [hr] at this; cases this
      · have hi' := hi
        unfold Region.ready at hi'
        rw [List.mem_filter] at hi'
        obtain ⟨hir, hi2⟩ := hi'
        have hin : i < ops.size := List.mem_range.1 hir
        rw [Bool.and_eq_true] at hi2
        obtain ⟨hiu, hiall⟩ := hi2
        rw [hgt i, if_pos (by omega)] at hiu
        have hiu : L.getD i false = false := by simpa using hiu
        rw [Array.getElem?_eq_getElem hin] at hiall
        simp only [Option.map_some, Option.getD_some] at hiall
        rw [Array.all_eq_true_iff_forall_mem] at hiall
        have him : i < m := by
          rcases Nat.lt_or_ge i m with h | h
          · exact h
          · exfalso
            have h1 := hsink (i - m) (by omega)
            rw [show m + (i - m) = i from by omega, Array.getElem?_eq_getElem hin] at h1
            simp only [Option.map_some, Option.getD_some, List.all_eq_true, List.mem_range] at h1
            have h2 := h1 i0 hi0
            rw [List.any_eq_true] at h2
            obtain ⟨e, he, h3⟩ := h2
            rw [Bool.and_eq_true, decide_eq_true_eq] at h3
            have h4 := hiall e (by simpa using he)
            rw [h3.1, h3.2, hu0] at h4
            simp at h4
        obtain ⟨o, ho, hstep⟩ := hs i (List.mem_range.2 him)
        unfold wpOp
        simp only [ho]
        have hoi : ops[i] = o := by rw [Array.getElem?_eq_getElem hin] at ho; simpa using ho
        rw [hoi] at hiall
        have hpre : ∀ d, (predDst ops o).contains d = true → (Fs d).holds R G (tm d) wc := fun d hd => by
          rw [List.contains_iff_mem] at hd
          unfold predDst at hd
          rw [List.mem_filterMap] at hd
          obtain ⟨e, he, hed⟩ := hd
          rw [List.mem_filter] at he
          have h1 := hiall e (by simpa using he.1)
          rw [he.2] at h1
          have h1 : L.getD e.on false = true := by simpa using h1
          have h2 : e.on < m := by
            rcases Nat.lt_or_ge e.on m with h | h
            · exact h
            · rw [hhi _ h] at h1; cases h1
          cases hoe : ops[e.on]? with
          | none => rw [hoe] at hed; cases hed
          | some oe => rw [hoe] at hed; exact hF e.on oe d h2 h1 hoe hed
        have hK : ∀ v w', Rd w' R (N + (m - (k + 1)) * U + U) → (Only wc w' R ∨ (Only wc w' G ∧ E w')) → (match o.dst with | some d => (Fs d).holds R G v w' | none => True) →
            wpAny P .any ops Q (k + (ops.size - m)) (L.setIfInBounds i true) ((A tm).put o.dst v) w' := fun v w' hR' hOE hf' => by
          have hO' : Only2 wc w' R G := by
            rcases hOE with h | h
            · exact h.to2l G
            · exact h.1.to2r R
          have hE' : E w' := by
            rcases hOE with h | h
            · exact hEk _ _ h hE
            · exact h.2
          have hset := fun j => getD_set' L i j (by omega)
          have hput : ∃ tm', (A tm).put o.dst v = A tm' ∧ (∀ d, d ≠ (o.dst.getD 0) ∨ o.dst = none → tm' d = tm d) ∧ ∀ d, o.dst = some d → tm' d = v := by
            cases hd : o.dst with
            | none => exact ⟨tm, rfl, fun _ _ => rfl, fun _ h => by cases h⟩
            | some d =>
              have hdk : d ∈ ks := by
                have hb := hback i him
                rw [ho] at hb
                simp only [Option.map_some, Option.getD_some, Bool.and_eq_true, hd] at hb
                simpa using hb.2
              refine ⟨fun k => if k = d then v else tm k, ?_, fun k hk => ?_, fun k hk => ?_⟩
              · rw [hA, hA]; show Act.mk _ _ = Act.mk _ _; rw [over_put _ _ _ _ _ hdk]
              · rcases hk with hk | hk
                · exact if_neg hk
                · cases hk
              · injection hk with hk; exact if_pos hk.symm
          obtain ⟨tm', hp1, hp2, hp3⟩ := hput
          rw [hp1]
          refine ih (L.setIfInBounds i true) tm' w' (by simpa using hL) (fun j hj => by rw [hset, if_neg (by omega)]; exact hhi j hj) ?_ ?_ (hO.trans hO') hE' ?_
          · have := unl_set (L := L) (i := i) (by omega) hiu (m := m)
            rw [if_pos him] at this
            omega
          · have e : N + (m - (k + 1)) * U + U = N + (m - k) * U := by
              have h1 : m - k = m - (k + 1) + 1 := by omega
              rw [h1, Nat.add_mul, Nat.one_mul, Nat.add_assoc]
            rw [e] at hR'; exact hR'
          · intro j oj d hj hl hoj hdj
            rw [hset] at hl
            by_cases hji : j = i
            · subst hji
              rw [hoj] at ho; injection ho with ho; subst ho
              rw [hp3 d hdj]
              rw [hdj] at hf'
              exact hf'
            · rw [if_neg hji] at hl
              have hne : d ≠ o.dst.getD 0 ∨ o.dst = none := by
                cases hd : o.dst with
                | none => exact .inr rfl
                | some x =>
                  have := hapart i him j hj
                  rw [ho, hoj] at this
                  simp only [Option.bind_some, hd, hdj, Bool.or_eq_true, decide_eq_true_eq] at this
                  rcases this with h | h
                  · exact absurd h.symm hji
                  · exact .inl fun e => h e.symm
              rw [hp2 d hne]
              exact Fc.keep hO' (hF j oj d hj hl hoj hdj)
        have h := hstep (wpAny P .any ops Q (k + (ops.size - m)) (L.setIfInBounds i true)) tm wc (m - (k + 1)) (by omega) hRc hO hE hpre hK
        by_cases hw : Region.wanted o (yielded ops (A tm).tmps) = true
        · rw [if_pos hw] at h ⊢; exact .inl h
        · rw [if_neg hw] at h ⊢; exact h
  have hn := unl_none ops.size m
  have hl0 : ∀ i, (Array.replicate ops.size false).getD i false = false := fun i => by simp [Array.getD_eq_getD_getElem?, Array.getElem?_replicate]; split <;> simp
  have h1 := main m (Array.replicate ops.size false) tm0 { w with drawn := w.drawn + 1 } (by simp) (fun i _ => hl0 i) hn (by simpa using hR.drew) ((only_drew (only_refl w R)).to2l G) (hEk w _ (only_drew (only_refl w R)) hE0) (fun j o d hj hl => by rw [hl0] at hl; cases hl)
  have h2 := main m (Array.replicate ops.size false) tm0 w (by simp) (fun i _ => hl0 i) hn (by simpa using hR) ((only_refl w R).to2l G) hE0 (fun j o d hj hl => by rw [hl0] at hl; cases hl)
  rw [htm0]
  rw [show m + (ops.size - m) = ops.size from by omega] at h1 h2
  exact ⟨h1, h2⟩

/-- The text's own order is one of the orders, where every operation waits for earlier ones alone. -/
theorem ops_of_any (hback : ∀ i, i < ops.size → ∀ o, ops[i]? = some o → ∀ e ∈ o.after, Region.binds .any e = true → e.on < i) :
    ∀ (r i : Nat) (a : Act) (w : World), i + r = ops.size → wpAny P .any ops Q r ((List.replicate i true ++ List.replicate r false).toArray) a w → wpOps P ops Q (List.range' i r) a w := by
  intro r
  induction r with
  | zero =>
    intro i a w hi h
    simpa [wpOps] using h.2
  | succ r ih =>
    intro i a w hi h
    have hin : i < ops.size := by omega
    have hget : ∀ j d, ((List.replicate i true ++ List.replicate (r + 1) false).toArray).getD j d = if j < i then true else if j < ops.size then false else d := fun j d => by
      rw [Array.getD_eq_getD_getElem?, List.getElem?_toArray, List.getElem?_append]
      simp only [List.length_replicate, List.getElem?_replicate]
      by_cases hj : j < i
      · rw [if_pos hj, if_pos hj, if_pos hj]; rfl
      · rw [if_neg hj, if_neg hj]
        by_cases hj2 : j < ops.size
        · rw [if_pos hj2, if_pos (by omega)]; rfl
        · rw [if_neg hj2, if_neg (by omega)]; rfl
    have hready : i ∈ Region.ready .any ops ((List.replicate i true ++ List.replicate (r + 1) false).toArray) := by
      unfold Region.ready
      rw [List.mem_filter]
      refine ⟨List.mem_range.2 hin, ?_⟩
      rw [hget, if_neg (by omega), if_pos hin, Array.getElem?_eq_getElem hin]
      simp only [Option.map_some, Option.getD_some, Bool.not_false, Bool.true_and]
      rw [Array.all_eq_true_iff_forall_mem]
      intro e he
      cases hb : Region.binds .any e
      · rfl
      · have := hback i hin _ (Array.getElem?_eq_getElem hin) e he hb
        rw [hget, if_pos this]; rfl
    have h1 := h.2 i hready
    have hset : ((List.replicate i true ++ List.replicate (r + 1) false).toArray).setIfInBounds i true = (List.replicate (i + 1) true ++ List.replicate r false).toArray := by
      rw [List.setIfInBounds_toArray]
      congr 1
      apply List.ext_getElem?
      intro j
      simp only [List.getElem?_set, List.getElem?_append, List.length_append, List.length_replicate, List.getElem?_replicate]
      by_cases hj : i = j
      · subst hj; rw [if_pos rfl, if_pos (by omega), if_pos (by omega), if_pos (by omega)]
      · rw [if_neg hj]
        by_cases hj2 : j < i
        · rw [if_pos hj2, if_pos hj2, if_pos (by omega), if_pos (by omega)]
        · rw [if_neg hj2, if_neg (show ¬ j < i + 1 by omega)]
          by_cases hj3 : j < i + (r + 1)
          · rw [if_pos (by omega), if_pos (by omega)]
          · rw [if_neg (by omega), if_neg (by omega)]
    rw [hset] at h1
    have e : List.range' i (r + 1) = i :: List.range' (i + 1) r := by rw [List.range'_succ]
    rw [e, wpOps_cons]
    exact wpOp_mono (fun a' w' h' => ih (i + 1) a' w' (by omega) h') h1
def backB (ops : Array Oper) : Bool := (List.range ops.size).all fun i => ((ops[i]?).map fun o => o.after.toList.all fun e => !Region.binds .any e || decide (e.on < i)).getD false

theorem wp_region_draw {id : Nat} {a : Act} {w : World} (ks : List Nat) (Fs : Nat → Fc) (m r U R G N : Nat) (E : World → Prop) (A : (Nat → Value) → Act)
    (hm : P.follows .mixedOrders = true) (hsh : shapeB ops m ks = true) (hn : ops.size = m + r) (hA : ∀ tm, A tm = { a with tmps := over a.tmps ks tm })
    (hR : Rd w R N) (hE0 : E w) (hEk : ∀ w1 w2, Only w1 w2 R → E w1 → E w2) (hs : StepsR P ops Q A Fs w E R G N U m (List.range m))
    (hdone : ∀ tm w', Rd w' R (N + m * U) → Only2 w w' R G → E w' → (∀ d, (ops.toList.take m).any (fun o => o.dst == some d) = true → (Fs d).holds R G (tm d) w') →
      wpAnyH P .any ops Q (fun _ => True) r ((List.replicate m true ++ List.replicate r false).toArray) (A tm) w') :
    (Code.region id ops true).wp P Q a w := wp_region_any hm (any_draw ks Fs m r U R G N E A hsh hn hA hR hE0 hEk hs hdone).1
theorem wp_region_text {id : Nat} {a : Act} {w : World} (ks : List Nat) (Fs : Nat → Fc) (m r U R G N : Nat) (E : World → Prop) (A : (Nat → Value) → Act)
    (hm : backB ops = true) (hsh : shapeB ops m ks = true) (hn : ops.size = m + r) (hA : ∀ tm, A tm = { a with tmps := over a.tmps ks tm })
    (hR : Rd w R N) (hE0 : E w) (hEk : ∀ w1 w2, Only w1 w2 R → E w1 → E w2) (hs : StepsR P ops Q A Fs w E R G N U m (List.range m))
    (hdone : ∀ tm w', Rd w' R (N + m * U) → Only2 w w' R G → E w' → (∀ d, (ops.toList.take m).any (fun o => o.dst == some d) = true → (Fs d).holds R G (tm d) w') →
      wpAnyH P .any ops Q (fun _ => True) r ((List.replicate m true ++ List.replicate r false).toArray) (A tm) w') :
    (Code.region id ops false).wp P Q a w := by
  refine wp_region ?_
  have h := (any_draw ks Fs m r U R G N E A hsh hn hA hR hE0 hEk hs hdone).2
  have e0 : (Array.replicate ops.size false) = (List.replicate 0 true ++ List.replicate ops.size false).toArray := by simp
  rw [e0] at h
  have := ops_of_any (P := P) (Q := Q) (ops := ops) (fun i hi o ho e he hb => by
    unfold backB at hm
    rw [List.all_eq_true] at hm
    have h1 := hm i (List.mem_range.2 hi)
    rw [ho] at h1
    simp only [Option.map_some, Option.getD_some, List.all_eq_true] at h1
    have h2 := h1 e (by simpa using he)
    rw [hb] at h2
    simpa using h2) ops.size 0 a w (by omega) h
  rw [List.range_eq_range']
  exact this

def backTo (ops : Array Oper) (m : Nat) (ks : List Nat) : Bool :=
  ((List.range m).all fun i => ((ops[i]?).map fun o => (o.after.toList.all fun e => !Region.binds .any e || decide (e.on < i)) && (match o.dst with | some d => ks.contains d | none => true)).getD false) &&
  ((List.range m).all fun i => (List.range m).all fun j => decide (i = j) || (match (ops[i]?).bind (·.dst), (ops[j]?).bind (·.dst) with | some x, some y => decide (x ≠ y) | _, _ => true))
theorem wp_text_draw {id : Nat} {l : List Oper} {a : Act} {w : World} (ks : List Nat) (Fs : Nat → Fc) (m U R G N : Nat) (E : World → Prop) (A : (Nat → Value) → Act) (rest : List Oper)
    (hsh : backTo l.toArray m ks = true) (hrest : l.drop m = rest) (hA : ∀ tm, A tm = { a with tmps := over a.tmps ks tm })
    (hR : Rd w R N) (hE0 : E w) (hEk : ∀ w1 w2, Only w1 w2 R → E w1 → E w2) (hs : StepsR P l.toArray Q A Fs w E R G N U m (List.range m))
    (hdone : ∀ tm w', Rd w' R (N + m * U) → Only2 w w' R G → E w' → (∀ d, (l.take m).any (fun o => o.dst == some d) = true → (Fs d).holds R G (tm d) w') →
      wpList P l.toArray Q rest (A tm) w') :
    (Code.region id l.toArray false).wp P Q a w := by
  subst hrest
  refine wp_region_lit ?_
  unfold backTo at hsh
  simp only [Bool.and_eq_true, decide_eq_true_eq, List.all_eq_true, List.mem_range] at hsh
  obtain ⟨hback, hapart⟩ := hsh
  obtain ⟨tm0, htm0⟩ : ∃ tm, a = A tm := by
    refine ⟨fun k => a.tmps.getD k undef, ?_⟩
    rw [hA]
    have e : over a.tmps ks (fun k => a.tmps.getD k undef) = a.tmps := by
      apply Array.ext_getElem?
      intro k
      rw [over_get]
      by_cases h : k ∈ ks ∧ k < a.tmps.size
      · rw [if_pos h, Array.getD_eq_getD_getElem?, Array.getElem?_eq_getElem h.2]; rfl
      · rw [if_neg h]
    rw [e]
  have main : ∀ (k i : Nat) (tm : Nat → Value) (wc : World), i + k = m → Rd wc R (N + i * U) → Only2 w wc R G → E wc → (∀ j o d, j < i → l.toArray[j]? = some o → o.dst = some d → (Fs d).holds R G (tm d) wc) →
      wpList P l.toArray Q (l.drop i) (A tm) wc := by
    intro k
    induction k with
    | zero =>
      intro i tm wc hi hRc hO hE hF
      obtain rfl : i = m := by omega
      refine hdone tm wc hRc hO hE fun d hd => ?_
      rw [List.any_eq_true] at hd
      obtain ⟨o, ho, hod⟩ := hd
      obtain ⟨j, hj, rfl⟩ := List.mem_iff_getElem.1 ho
      have hj' : j < i := by simp at hj; omega
      refine hF j _ d hj' ?_ (by simpa using hod)
      simp at hj ⊢
    | succ k ih =>
      intro i tm wc hi hRc hO hE hF
      have him : i < m := by omega
      obtain ⟨o, ho, hstep⟩ := hs i (List.mem_range.2 him)
      have hlt : i < l.length := by
        rcases Nat.lt_or_ge i l.length with h | h
        · exact h
        · rw [List.getElem?_toArray, List.getElem?_eq_none h] at ho; cases ho
      have ho' : l[i] = o := by rw [List.getElem?_toArray, List.getElem?_eq_getElem hlt] at ho; simpa using ho
      rw [List.drop_eq_getElem_cons hlt, ho']
      have hb := hback i him
      rw [ho] at hb
      simp only [Option.map_some, Option.getD_some, Bool.and_eq_true] at hb
      have hpre : ∀ d, (predDst l.toArray o).contains d = true → (Fs d).holds R G (tm d) wc := fun d hd => by
        rw [List.contains_iff_mem] at hd
        unfold predDst at hd
        rw [List.mem_filterMap] at hd
        obtain ⟨e, he, hed⟩ := hd
        rw [List.mem_filter] at he
        have h1 := List.all_eq_true.1 hb.1 e he.1
        rw [he.2] at h1
        have h2 : e.on < i := by simpa using h1
        cases hoe : l.toArray[e.on]? with
        | none => rw [hoe] at hed; cases hed
        | some oe => rw [hoe] at hed; exact hF e.on oe d h2 hoe hed
      refine wpList_step fun K hKK => hstep K tm wc i him hRc hO hE hpre fun v w' hR' hOE hf' => ?_
      apply hKK
      have hO' : Only2 wc w' R G := by
        rcases hOE with h | h
        · exact h.to2l G
        · exact h.1.to2r R
      have hE' : E w' := by
        rcases hOE with h | h
        · exact hEk _ _ h hE
        · exact h.2
      have hput : ∃ tm', (A tm).put o.dst v = A tm' ∧ (∀ d, d ≠ (o.dst.getD 0) ∨ o.dst = none → tm' d = tm d) ∧ ∀ d, o.dst = some d → tm' d = v := by
        cases hd : o.dst with
        | none => exact ⟨tm, rfl, fun _ _ => rfl, fun _ h => by cases h⟩
        | some d =>
          have hdk : d ∈ ks := by
            have := hb.2
            rw [hd] at this
            simpa using this
          refine ⟨fun k => if k = d then v else tm k, ?_, fun k hk => ?_, fun k hk => ?_⟩
          · rw [hA, hA]; show Act.mk _ _ = Act.mk _ _; rw [over_put _ _ _ _ _ hdk]
          · rcases hk with hk | hk
            · exact if_neg hk
            · cases hk
          · injection hk with hk; exact if_pos hk.symm
      obtain ⟨tm', hp1, hp2, hp3⟩ := hput
      rw [hp1]
      refine ih (i + 1) tm' w' (by omega) (by rw [Nat.add_mul, Nat.one_mul, ← Nat.add_assoc]; exact hR') (hO.trans hO') hE' ?_
      intro j oj d hj hoj hdj
      by_cases hji : j = i
      · subst hji
        rw [hoj] at ho; injection ho with ho; subst ho
        rw [hp3 d hdj]
        rw [hdj] at hf'
        exact hf'
      · have hne : d ≠ o.dst.getD 0 ∨ o.dst = none := by
          cases hd : o.dst with
          | none => exact .inr rfl
          | some x =>
            have := hapart i him j (by omega)
            rw [ho, hoj] at this
            simp only [Option.bind_some, hd, hdj, Bool.or_eq_true, decide_eq_true_eq] at this
            rcases this with h | h
            · exact absurd h.symm hji
            · exact .inl fun e => h e.symm
        rw [hp2 d hne]
        exact Fc.keep hO' (hF j oj d (by omega) hoj hdj)
  have h := main m 0 tm0 w (by omega) (by simpa using hR) ((only_refl w R).to2l G) hE0 (fun j o d hj => absurd hj (Nat.not_lt_zero _))
  rw [htm0]
  exact h
end
end Go.Proofs.Ytiimaodphhaohaa
