/- Plain laws of joined tables; no condition. -/
import Derived.Test.YtiimaodphhaohaaKnJ3
import Derived.Test.YtiimaodphhaohaaKnV
namespace Go.Proofs.Ytiimaodphhaohaa
open Go.RowKit
set_option linter.unusedVariables false
set_option linter.unusedSimpArgs false

theorem insL_length {l : List Int} {n p : Nat} {u v : Int} (hl : l.length = n * 2) (hp : p ≤ n) : (insL l p u v).length = (n + 1) * 2 := by
  unfold insL; simp [hl]; omega
theorem getD_app (a b : List Int) (j : Nat) : (a ++ b).getD j 0 = if j < a.length then a.getD j 0 else b.getD (j - a.length) 0 := by
  unfold List.getD
  split
  · rename_i h; rw [List.getElem?_append_left h]
  · rename_i h; rw [List.getElem?_append_right (by omega)]
theorem insL_getD {l : List Int} {n p : Nat} {u v : Int} (hl : l.length = n * 2) (hp : p ≤ n) (j : Nat) : (insL l p u v).getD j 0 = if j < p * 2 then l.getD j 0 else if j = p * 2 then u else if j = p * 2 + 1 then v else l.getD (j - 2) 0 := by
  have e1 : (l.take (p * 2)).length = p * 2 := by simp [hl]; omega
  have e2 : (l.take (p * 2) ++ [u, v]).length = p * 2 + 2 := by simp [hl]; omega
  unfold insL
  rw [getD_app, e2, getD_app, e1]
  by_cases h1 : j < p * 2
  · rw [if_pos (by omega), if_pos h1, if_pos h1]
    simp [List.getD, List.getElem?_take, h1]
  · rw [if_neg h1, if_neg h1]
    by_cases h2 : j = p * 2
    · subst h2; rw [if_pos (by omega), if_pos rfl, Nat.sub_self]; rfl
    · rw [if_neg h2]
      by_cases h3 : j = p * 2 + 1
      · subst h3; rw [if_pos (by omega), if_pos rfl, Nat.add_sub_cancel_left]; rfl
      · rw [if_neg (by omega), if_neg h3]
        simp only [List.getD, List.getElem?_drop]
        rw [show p * 2 + (j - (p * 2 + 2)) = j - 2 by omega]
theorem ins_at {l : List Int} {n p : Nat} {u v : Int} (hl : l.length = n * 2) (hp : p ≤ n) (k : Nat) : kAt (insL l p u v) k = if k < p then kAt l k else if k = p then u else kAt l (k - 1) := by
  unfold kAt
  rw [insL_getD hl hp]
  by_cases h1 : k < p
  · rw [if_pos (by omega), if_pos h1]
  · rw [if_neg (by omega), if_neg h1]
    by_cases h2 : k = p
    · rw [if_pos (by omega), if_pos h2]
    · rw [if_neg (by omega), if_neg (by omega), if_neg h2, show (k - 1) * 2 = k * 2 - 2 by omega]
theorem ins_val {l : List Int} {n p : Nat} {u v : Int} (hl : l.length = n * 2) (hp : p ≤ n) (k : Nat) : kVal (insL l p u v) k = if k < p then kVal l k else if k = p then v else kVal l (k - 1) := by
  unfold kVal
  rw [insL_getD hl hp]
  by_cases h1 : k < p
  · rw [if_pos (by omega), if_pos h1]
  · rw [if_neg (by omega), if_neg h1]
    by_cases h2 : k = p
    · rw [if_neg (by omega), if_pos (by omega), if_pos h2]
    · rw [if_neg (by omega), if_neg (by omega), if_neg h2, show (k - 1) * 2 + 1 = k * 2 + 1 - 2 by omega]
/-- What a table joined with a place has: it is valid, has the value there, and is not joined again. -/
theorem ins_facts {l : List Int} {n : Nat} {x : Int} (hl : l.length = n * 2) (hok : joinOk l n x = true) (hf : fullB l n x = false) :
    n ≤ 11 ∧ knotsB (insL l (ffN l x n) x (kvF l n x)) (n + 1) = true ∧ kvF (insL l (ffN l x n) x (kvF l n x)) (n + 1) x = kvF l n x ∧ joinB (insL l (ffN l x n) x (kvF l n x)) (n + 1) x = false := by
  unfold joinOk at hok
  rw [Bool.and_eq_true, inB_iff] at hok
  obtain ⟨hv, x0, x1⟩ := hok
  obtain ⟨n2, n12, hk⟩ := knotsB_at hv
  obtain ⟨f1, f2, f3⟩ := ffN_spec l x n
  have hne : ffN l x n < n → ¬ kAt l (ffN l x n) = x := fun h1 h2 => by rw [full_there h1 h2] at hf; cases hf
  have h12 : ¬ n = 12 := fun h => by rw [full_12 h] at hf; cases hf
  obtain ⟨v0, v1⟩ := kv_range (x := x) (lo := -1000000) (hi := 1000000) hv fun k h => (hk k h).2.1
  obtain ⟨p, hp⟩ : ∃ p, ffN l x n = p := ⟨_, rfl⟩
  obtain ⟨V, hV⟩ : ∃ V, kvF l n x = V := ⟨_, rfl⟩
  rw [hp] at f1 f2 f3 hne
  rw [hV] at v0 v1
  rw [hp, hV]
  have hY : knotsB (insL l p x V) (n + 1) = true := knotsB_mk (by omega) (by omega) fun k hkn => by
    rw [ins_at hl f1, ins_val hl f1]
    by_cases h1 : k < p
    · rw [if_pos h1, if_pos h1]
      refine ⟨(hk k (by omega)).1, (hk k (by omega)).2.1, fun h0 => ?_⟩
      rw [ins_at hl f1, if_pos (by omega)]
      exact (hk k (by omega)).2.2 h0
    · rw [if_neg h1, if_neg h1]
      by_cases h2 : k = p
      · rw [if_pos h2, if_pos h2]
        refine ⟨⟨x0, x1⟩, ⟨v0, v1⟩, fun h0 => ?_⟩
        rw [ins_at hl f1, if_pos (by omega)]
        exact f2 (k - 1) (by omega)
      · rw [if_neg h2, if_neg h2]
        refine ⟨(hk (k - 1) (by omega)).1, (hk (k - 1) (by omega)).2.1, fun h0 => ?_⟩
        rw [ins_at hl f1, if_neg (by omega)]
        by_cases h3 : k - 1 = p
        · rw [if_pos h3, h3]
          have := f3 (by omega)
          have := hne (by omega)
          omega
        · rw [if_neg h3]
          exact (hk (k - 1) (by omega)).2.2 (by omega)
  have ea : kAt (insL l p x V) p = x := by rw [ins_at hl f1, if_neg (by omega), if_pos rfl]
  have ev : kVal (insL l p x V) p = V := by rw [ins_val hl f1, if_neg (by omega), if_pos rfl]
  have h1 := kv_at hY (k := p) (by omega)
  rw [ea, ev] at h1
  have h2 : ffN (insL l p x V) x (n + 1) = p := ffN_is (by omega) (fun j hj => by have := kAt_mono hY p (by omega) j hj; rw [ea] at this; exact this) (fun _ => by rw [ea]; exact Int.le_refl _)
  refine ⟨by omega, hY, h1, ?_⟩
  unfold joinB
  rw [full_there (by rw [h2]; omega) (by rw [h2]; exact ea)]
  simp
/-- Whether the knot i of the joined table is the knot j of the table. -/
def hitB (p i j : Nat) : Bool := (decide (i < p) && decide (j = i)) || (decide (p < i) && decide (j + 1 = i))
theorem hit_yes {l : List Int} {n p i j : Nat} {u v : Int} (hl : l.length = n * 2) (hp : p ≤ n) (h : hitB p i j = true) : kAt (insL l p u v) i = kAt l j ∧ kVal (insL l p u v) i = kVal l j := by
  unfold hitB at h
  simp only [Bool.or_eq_true, Bool.and_eq_true, decide_eq_true_eq] at h
  rw [ins_at hl hp, ins_val hl hp]
  rcases h with ⟨h1, rfl⟩ | ⟨h1, rfl⟩
  · rw [if_pos h1, if_pos h1]; exact ⟨rfl, rfl⟩
  · rw [if_neg (by omega), if_neg (by omega), if_neg (by omega), if_neg (by omega), Nat.add_sub_cancel]; exact ⟨rfl, rfl⟩
theorem hit_no {l : List Int} {n i j : Nat} {x v : Int} (hl : l.length = n * 2) (hok : joinOk l n x = true) (hf : fullB l n x = false) (hi : i < n + 1) (hj : j < n) (h : hitB (ffN l x n) i j = false) : ¬ kAt (insL l (ffN l x n) x v) i = kAt l j := by
  unfold joinOk at hok
  rw [Bool.and_eq_true, inB_iff] at hok
  obtain ⟨hv, x0, x1⟩ := hok
  obtain ⟨f1, f2, f3⟩ := ffN_spec l x n
  have hne : ffN l x n < n → ¬ kAt l (ffN l x n) = x := fun h1 h2 => by rw [full_there h1 h2] at hf; cases hf
  have mono : ∀ a b, a < n → b < n → ¬ a = b → ¬ kAt l a = kAt l b := fun a b ha hb hab he => by
    rcases Nat.lt_or_ge a b with h1 | h1
    · have := kAt_mono hv b hb a h1; omega
    · have := kAt_mono hv a ha b (by omega); omega
  rw [ins_at hl f1]
  unfold hitB at h
  simp only [Bool.or_eq_false_iff, Bool.and_eq_false_iff, decide_eq_false_iff_not] at h
  by_cases h1 : i < ffN l x n
  · rw [if_pos h1]
    exact mono _ _ (by omega) hj (by omega)
  · rw [if_neg h1]
    by_cases h2 : i = ffN l x n
    · rw [if_pos h2]
      intro he
      rcases Nat.lt_or_ge j (ffN l x n) with h3 | h3
      · have := f2 j h3; omega
      · by_cases h4 : j = ffN l x n
        · subst h4; exact hne hj he.symm
        · have := kAt_mono hv j hj (ffN l x n) (by omega)
          have := f3 (by omega)
          omega
    · rw [if_neg h2]
      exact mono _ _ (by omega) hj (by omega)
/-- How many equal pairs there are ahead of the pair i, j. -/
def cntP (p i j : Nat) : Nat := (if i ≤ p then i else i - 1) + (if i < p ∧ i < j then 1 else if p < i ∧ i ≤ j then 1 else 0)
theorem cntP_zero (p i : Nat) : cntP p i 0 = if i ≤ p then i else i - 1 := by
  unfold cntP; split <;> (rw [if_neg (by omega), if_neg (by omega)]; omega)
theorem cntP_yes {p i j : Nat} (h : hitB p i j = true) : cntP p i (j + 1) = cntP p i j + 1 := by
  unfold hitB at h
  simp only [Bool.or_eq_true, Bool.and_eq_true, decide_eq_true_eq] at h
  unfold cntP
  repeat' split
  all_goals omega
theorem cntP_no {p i j : Nat} (h : hitB p i j = false) : cntP p i (j + 1) = cntP p i j := by
  unfold hitB at h
  simp only [Bool.or_eq_false_iff, Bool.and_eq_false_iff, decide_eq_false_iff_not] at h
  unfold cntP
  repeat' split
  all_goals omega
theorem cntP_row {p i n : Nat} (hp : p ≤ n) (hi : i < n + 1) : cntP p i n = cntP p (i + 1) 0 := by
  rw [cntP_zero]
  unfold cntP
  repeat' split
  all_goals omega
theorem cntP_all {p n : Nat} (hp : p ≤ n) : cntP p (n + 1) 0 = n := by
  rw [cntP_zero]; split <;> omega
theorem cntP_le (p i j : Nat) : cntP p i j ≤ i + 1 := by
  unfold cntP
  repeat' split
  all_goals omega
theorem cntP_start (p : Nat) : cntP p 0 0 = 0 := by
  rw [cntP_zero]; split <;> omega
end Go.Proofs.Ytiimaodphhaohaa
