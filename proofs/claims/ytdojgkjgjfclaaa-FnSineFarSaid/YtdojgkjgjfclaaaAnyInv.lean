/- A law for regions that draw their order: a condition on what has been carried out, on the temporaries and on the world, kept by every operation's step, whatever has come before; condition: an operation's operands are waited for. -/
import Derived.Test.YtdojgkjgjfclaaaReg
namespace Go.Proofs.Ytdojgkjgjfclaaa
open Go.RowKit
set_option linter.unusedVariables false

def predIdx (o : Oper) : List Nat := (o.after.toList.filter (Region.binds .any)).map (·.on)
section
variable {P : Program} {ops : Array Oper} {Q : Exit → Act → World → Prop}
def StepI (P : Program) (ops : Array Oper) (Q : Exit → Act → World → Prop) (A : (Nat → Value) → Act) (I : (Nat → Bool) → (Nat → Value) → World → Prop) (i : Nat) (o : Oper) : Prop :=
  ∀ (K : Act → World → Prop) (tm : Nat → Value) (wc : World) (L : Nat → Bool), L i = false → (∀ e, (predIdx o).contains e = true → L e = true) → I L tm wc →
    Shut (∀ v w', I (fun j => if j = i then true else L j) (fun k => if o.dst = some k then v else tm k) w' → K ((A tm).put o.dst v) w') →
    if Region.wanted o (yielded ops (A tm).tmps) = true then Oper.wp P o (A tm) wc K Q else K ((A tm).put o.dst undef) wc
def StepsI (P : Program) (ops : Array Oper) (Q : Exit → Act → World → Prop) (A : (Nat → Value) → Act) (I : (Nat → Bool) → (Nat → Value) → World → Prop) (is : List Nat) : Prop :=
  ∀ i ∈ is, ∃ o, ops[i]? = some o ∧ StepI P ops Q A I i o
theorem StepsI.nil {A : (Nat → Value) → Act} {I : (Nat → Bool) → (Nat → Value) → World → Prop} : StepsI P ops Q A I [] := fun _ h => by cases h
theorem StepsI.cons {A : (Nat → Value) → Act} {I : (Nat → Bool) → (Nat → Value) → World → Prop} {i : Nat} {is : List Nat} {o : Oper} (ho : ops[i]? = some o) (h : StepI P ops Q A I i o) (hs : StepsI P ops Q A I is) : StepsI P ops Q A I (i :: is) := fun j hj => by
  rcases List.mem_cons.1 hj with rfl | hj
  · exact ⟨o, ho, h⟩
  · exact hs j hj
theorem any_inv {a : Act} {w : World} (ks : List Nat) (m : Nat) (A : (Nat → Value) → Act) (I : (Nat → Bool) → (Nat → Value) → World → Prop)
    (hsh : shapeB ops m ks = true) (hn : ops.size = m) (hA : ∀ tm, A tm = { a with tmps := over a.tmps ks tm })
    (h0 : ∀ tm, I (fun _ => false) tm { w with drawn := w.drawn + 1 }) (hs : StepsI P ops Q A I (List.range m))
    (hdone : ∀ tm w', I (fun j => decide (j < m)) tm w' → Q .normal (A tm) w') :
    wpAny P .any ops Q ops.size (Array.replicate ops.size false) a { w with drawn := w.drawn + 1 } := by
  unfold shapeB at hsh
  simp only [Bool.and_eq_true, decide_eq_true_eq, List.all_eq_true, List.mem_range] at hsh
  obtain ⟨⟨⟨hle, hback⟩, hsink⟩, hapart⟩ := hsh
  obtain ⟨tm0, htm0⟩ : ∃ tm, a = A tm := by
    refine ⟨fun k => a.tmps.getD k undef, ?_⟩
    rw [hA]
    have e : over a.tmps ks (fun k => a.tmps.getD k undef) = a.tmps := by
      apply Array.ext_getElem?
      intro k
      rw [over_get]
      by_cases h : k ∈ ks ∧ k < a.tmps.size
      · rw [if_pos h, Array.getD_eq_getD_getElem?, Array.getElem?_eq_getElem h.2]; rfl
      · rw [if_neg h]
    rw [e]
  have hgt : ∀ (L : Array Bool) j, L.getD j true = if j < L.size then L.getD j false else true := fun L j => by
    simp only [Array.getD_eq_getD_getElem?]
    by_cases hj : j < L.size
    · rw [if_pos hj, Array.getElem?_eq_getElem hj]; rfl
    · rw [if_neg hj, Array.getElem?_eq_none (by omega)]; rfl
  have main : ∀ (k : Nat) (L : Array Bool) (tm : Nat → Value) (wc : World), L.size = ops.size → unl L m = k → I (fun j => L.getD j false) tm wc → wpAny P .any ops Q k L (A tm) wc := by
    intro k
    induction k with
    | zero =>
      intro L tm wc hL hk hI
      have hall := unl_zero hk
      have e : (fun j => L.getD j false) = fun j => decide (j < m) := by
        funext j
        by_cases hj : j < m
        · rw [hall j hj]; simp [hj]
        · have : L.getD j false = false := by
            rw [Array.getD_eq_getD_getElem?, Array.getElem?_eq_none (by omega)]; rfl
          rw [this]; simp [hj]
      rw [e] at hI
      refine wpAny_of_held _ _ _ _ (S := fun _ => True) (wpAnyH_done ?_ (hdone tm wc hI) 0)
      unfold Region.ready
      rw [List.filter_eq_nil_iff]
      intro i hi
      have hi' : i < m := by have := List.mem_range.1 hi; omega
      rw [hgt, if_pos (by omega), hall i hi']
      simp
    | succ k ih =>
      intro L tm wc hL hk hI
      have hkm : k + 1 ≤ m := by have := unl_le L m; omega
      obtain ⟨i0, hi0, hu0, hlow⟩ := unl_pos (L := L) (m := m) (by omega)
      refine ⟨fun hr => ?_, fun i hi => ?_⟩
      · exfalso
        have : i0 ∈ Region.ready .any ops L := by
          unfold Region.ready
          rw [List.mem_filter]
          refine ⟨List.mem_range.2 (by omega), ?_⟩
          have hb := hback i0 hi0
          rw [hgt, if_pos (by omega), hu0]
          rw [Array.getElem?_eq_getElem (show i0 < ops.size by omega)] at hb ⊢
          simp only [Option.map_some, Option.getD_some, Bool.not_false, Bool.true_and] at hb ⊢
          rw [Bool.and_eq_true] at hb
          rw [Array.all_eq_true_iff_forall_mem]
          intro e he
          have h1 := List.all_eq_true.1 hb.1 e (by simpa using he)
          rw [Bool.or_eq_true] at h1 ⊢
          rcases h1 with h1 | h1
          · exact .inl h1
          · exact .inr (hlow _ (by simpa using h1))
        rw [hr] at this; cases this
      · have hi' := hi
        unfold Region.ready at hi'
        rw [List.mem_filter] at hi'
        obtain ⟨hir, hi2⟩ := hi'
        have hin : i < ops.size := List.mem_range.1 hir
        rw [Bool.and_eq_true] at hi2
        obtain ⟨hiu, hiall⟩ := hi2
        rw [hgt, if_pos (by omega)] at hiu
        have hiu : L.getD i false = false := by simpa using hiu
        rw [Array.getElem?_eq_getElem hin] at hiall
        simp only [Option.map_some, Option.getD_some] at hiall
        rw [Array.all_eq_true_iff_forall_mem] at hiall
        have him : i < m := by omega
        obtain ⟨o, ho, hstep⟩ := hs i (List.mem_range.2 him)
        unfold wpOp
        simp only [ho]
        have hoi : ops[i] = o := by rw [Array.getElem?_eq_getElem hin] at ho; simpa using ho
        rw [hoi] at hiall
        have hpre : ∀ e, (predIdx o).contains e = true → L.getD e false = true := fun d hd => by
          rw [List.contains_iff_mem] at hd
          unfold predIdx at hd
          rw [List.mem_map] at hd
          obtain ⟨e, he, rfl⟩ := hd
          rw [List.mem_filter] at he
          have h1 := hiall e (by simpa using he.1)
          rw [he.2] at h1
          simpa using h1
        have hK : ∀ v w', I (fun j => if j = i then true else L.getD j false) (fun k => if o.dst = some k then v else tm k) w' → wpAny P .any ops Q k (L.setIfInBounds i true) ((A tm).put o.dst v) w' := fun v w' hI' => by
          have hset := fun j => getD_set' L i j (by omega)
          have hput : (A tm).put o.dst v = A (fun k => if o.dst = some k then v else tm k) := by
            cases hd : o.dst with
            | none =>
              have : (fun k => if (none : Option Nat) = some k then v else tm k) = tm := by funext k; simp
              rw [this]; rfl
            | some d =>
              have hdk : d ∈ ks := by
                have hb := hback i him
                rw [ho] at hb
                simp only [Option.map_some, Option.getD_some, Bool.and_eq_true, hd] at hb
                simpa using hb.2
              have e : (fun k => if some d = some k then v else tm k) = fun k => if k = d then v else tm k := by
                funext k
                by_cases h : k = d
                · subst h; simp
                · rw [if_neg h, if_neg (by simpa using Ne.symm h)]
              rw [e, hA, hA]
              show Act.mk _ _ = Act.mk _ _
              rw [over_put _ _ _ _ _ hdk]
          rw [hput]
          refine ih (L.setIfInBounds i true) _ w' (by simpa using hL) ?_ ?_
          · have := unl_set (L := L) (i := i) (by omega) hiu (m := m)
            rw [if_pos him] at this
            omega
          · have e : (fun j => (L.setIfInBounds i true).getD j false) = fun j => if j = i then true else L.getD j false := by funext j; exact hset j
            rw [e]; exact hI'
        have h := hstep (wpAny P .any ops Q k (L.setIfInBounds i true)) tm wc (fun j => L.getD j false) hiu hpre hI hK
        by_cases hw : Region.wanted o (yielded ops (A tm).tmps) = true
        · rw [if_pos hw] at h ⊢; exact .inl h
        · rw [if_neg hw] at h ⊢; exact h
  have hn := unl_none ops.size m
  have hl0 : (fun i => (Array.replicate ops.size false).getD i false) = fun _ => false := by funext i; simp [Array.getD_eq_getD_getElem?, Array.getElem?_replicate]; split <;> simp
  rw [htm0]
  have h1 := main m (Array.replicate ops.size false) tm0 { w with drawn := w.drawn + 1 } (by simp) hn (by rw [hl0]; exact h0 tm0)
  have e : ops.size = m := by omega
  rw [e] at h1 ⊢
  exact h1
theorem wp_region_inv {id : Nat} {a : Act} {w : World} (ks : List Nat) (m : Nat) (A : (Nat → Value) → Act) (I : (Nat → Bool) → (Nat → Value) → World → Prop)
    (hm : P.follows .mixedOrders = true) (hsh : shapeB ops m ks = true) (hn : ops.size = m) (hA : ∀ tm, A tm = { a with tmps := over a.tmps ks tm })
    (h0 : ∀ tm, I (fun _ => false) tm { w with drawn := w.drawn + 1 }) (hs : StepsI P ops Q A I (List.range m))
    (hdone : ∀ tm w', I (fun j => decide (j < m)) tm w' → Q .normal (A tm) w') : (Code.region id ops true).wp P Q a w :=
  wp_region_any hm (any_inv ks m A I hsh hn hA h0 hs hdone)
end
end Go.Proofs.Ytdojgkjgjfclaaa
