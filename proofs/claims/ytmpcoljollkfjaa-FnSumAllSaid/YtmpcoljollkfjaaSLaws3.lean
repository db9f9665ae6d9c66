/- The walk of the law SumAll; no condition. -/
import Derived.Test.YtmpcoljollkfjaaSDraw3
import Derived.Test.YtmpcoljollkfjaaSLaws
import Derived.Test.YtmpcoljollkfjaaSums2
namespace Go.Proofs.Ytmpcoljollkfjaa
open Go.RowKit
set_option linter.unusedVariables false
set_option linter.unusedSimpArgs false
set_option maxHeartbeats 2000000

def sumI : List Int → Int
  | [] => 0
  | a :: l => a + sumI l
theorem sumI_append (a b : List Int) : sumI (a ++ b) = sumI a + sumI b := by
  induction a with
  | nil => simp [sumI]
  | cons x l ih => simp [sumI, ih]; omega
theorem sumI_reverse (l : List Int) : sumI l.reverse = sumI l := by
  induction l with
  | nil => rfl
  | cons x l ih => rw [List.reverse_cons, sumI_append, ih]; simp [sumI]; omega
theorem sumV_in (v n : Int) : inB (sumV v n) (-1125899906842624) 1125899906842624 = true := (inB_iff _ _ _).2 (sumV_bd v n)
theorem fold_lost (l : List Int) : ∀ s : Int × Bool, allWork l = true → inB s.1 (-1125899906842624) 1125899906842624 = true → (l.foldl sumStep s).2 = false → s.2 = false ∧ (l.foldl sumStep s).1 = s.1 + sumI l := by
  induction l with
  | nil => intro s _ _ h; exact ⟨h, by simp [sumI]⟩
  | cons x l ih =>
    intro s hw hs h
    unfold allWork at hw
    simp only [List.all_cons, Bool.and_eq_true] at hw
    have hk : okS s.1 x = true := by unfold okS; rw [hs, hw.1]; rfl
    obtain ⟨e1, e2⟩ := ih (sumStep s x) hw.2 (sumV_in _ _) h
    rcases sum_ok (l := s.2) hk with ⟨f1, f2, f3⟩ | ⟨y, f1, f2, f3, f4⟩
    · refine ⟨?_, ?_⟩
      · rw [← f2]; exact e1
      · rw [List.foldl_cons, e2]
        show sumV s.1 x + sumI l = s.1 + sumI (x :: l)
        rw [f1, sumI]; omega
    · exfalso
      have : (sumStep s x).2 = true := f2
      rw [this] at e1; cases e1
theorem allWork_reverse (l : List Int) : allWork l.reverse = allWork l := by unfold allWork; rw [List.all_reverse]
theorem sumAll_turn (l : List Int) (h1 : (sumAll l).2 = false) (h2 : (sumAll l.reverse).2 = false) : sumAll l.reverse = sumAll l := by
  unfold sumAll at *
  rw [List.length_reverse, allWork_reverse] at *
  by_cases hc : (decide (l.length ≤ 100) && allWork l) = true
  · rw [if_pos hc] at *
    rw [if_pos hc]
    rw [Bool.and_eq_true] at hc
    have h0 : inB (0 : Int) (-1125899906842624) 1125899906842624 = true := by decide
    have a := fold_lost l (0, false) hc.2 h0 h1
    have b := fold_lost l.reverse (0, false) (by rw [allWork_reverse]; exact hc.2) h0 h2
    have e1 : (sumFold l).1 = sumI l := by have := a.2; simp only [Int.zero_add] at this; exact this
    have e2 : (sumFold l.reverse).1 = sumI l := by have := b.2; rw [sumI_reverse] at this; simp only [Int.zero_add] at this; exact this
    exact Prod.ext (by rw [e1, e2]) (h2.trans h1.symm)
  · rw [if_neg hc, if_neg hc]
theorem sumAll_in (l : List Int) : inB (sumAll l).1 (-1125899906842624) 1125899906842624 = true := by
  unfold sumAll
  split
  · exact (inB_iff _ _ _).2 (sumFold_bd l)
  · decide
theorem turn_snoc (l : List Int) (j : Nat) (h : j < l.length) (x : Int) (hx : l.getD j 0 = x) : (l.drop j).reverse = (l.drop (j + 1)).reverse ++ [x] := by
  rw [List.drop_eq_getElem_cons h, List.reverse_cons, ← hx]
  simp [List.getD, h]
theorem walk_FnSumAll (A : Option Addr) (n c : Nat) (xs : List Int) (w : World) (h : Byts w w.heap.size A xs) (hn : xs.length = n) (hc : n ≤ c) (hm : c ≤ maxLen) :
    Calls Try.prog 11 #[.slice A n c] w fun e w' => e = .returned (.bool true) ∧ Below w.heap.size w w' := by
  by_cases hbig : 1048576 < n
  · unfold maxLen at hm
    clear hn
    go_enter Try.func11, Try.ntmps11
    go_wp2
    go_ret
    exact ⟨rfl, (by repeat (first | exact bw_refl _ | assumption | apply bw_alloc | apply bw_drew | apply bw_drewN | (refine bw_trans ?_ (by assumption)) | (refine bw_set ?_ (by simp only [go_sem]; omega) _)))⟩
  · have HN := Lib.hid hn
    clear hn
    go_enter Try.func11, Try.ntmps11
    go_wp2_with fail
    refine (drawSumAll_any A n c xs w w h HN.out hc hm (by omega) (bw_refl w)).mono ?_
    rintro e w1 ⟨A1, c1, l, rfl, hl, o1, b1⟩
    have hlen : l.length ≤ 4294967296 := by omega
    have hi := o1.ints
    clear o1
    obtain ⟨v, hv⟩ : ∃ v, (sumAll l).1 = v := ⟨_, rfl⟩
    obtain ⟨q, hq⟩ : ∃ q, (sumAll l).2 = q := ⟨_, rfl⟩
    have HV := Lib.hid hv
    have HQ := Lib.hid hq
    clear hv hq
    go_upto_region 4 with fail
    go_cut [3, 4] (fun s t wx => ∃ g4 : Nat, s = .slice A1 l.length c1 ∧ t = .pointer (some ⟨g4, 0, none⟩) ∧ Blk wx g4 26 #[.int .i64 v, .bool q] ∧ Ints wx wx.heap.size A1 l ∧ Below w.heap.size w wx)
    case first =>
      go_wp2_with fail
      refine (implSumAll_any A1 _ c1 l _ rfl hi hlen).mono ?_
      rintro e w2 ⟨he, hb⟩
      rw [HV.out, HQ.out] at he
      subst he
      go_wp2
      go_meet
      exact ⟨_, rfl, rfl, Blk.new _ _ _, (hi.up hb).up (bw_alloc (bw_refl _) _), bw_alloc (bw_trans b1 hb) _⟩
    case rest =>
      obtain ⟨g4, rfl, rfl, l4, hi, hbc⟩ := hcut
      obtain ⟨n0, n1, m0, m1⟩ := cell2 l4
      have z4 := l4.lt
      go_upto_region 5 with fail
      go_cut [18] (fun s wx => s = .bool false ∧ Below wc.heap.size wc wx)
      case first =>
        refine wp_region_below (by kernel_rfl) (fun wD hHeld => ?_)
        refine wpAnyH_take (i := 0) (v := ?_) (by (simp only [List.getElem?_toArray, List.getElem?_cons_zero]; rfl)) (by kernel_rfl) (by kernel_rfl) (by kernel_rfl) (by exact fun _ _ _ h => h) (Or.inl ⟨by rfl, ?_⟩) (by assumption) ?_
        rotate_left
        · (intro wS hS; have hSc := (bcell hS).1; clear hS; go_simp; try with_reducible rfl)
        try simp only [Act.put, List.setIfInBounds_toArray, List.set_cons_zero, List.set_cons_succ]
        refine wpAnyH_take (i := 1) (v := ?_) (by (simp only [List.getElem?_toArray, List.getElem?_cons_succ, List.getElem?_cons_zero]; rfl)) (by kernel_rfl) (by kernel_rfl) (by kernel_rfl) (by exact fun _ _ _ h => h) (Or.inl ⟨by rfl, ?_⟩) (by assumption) ?_
        rotate_left
        · (intro wS hS; clear hS; go_simp; try with_reducible rfl)
        try simp only [Act.put, List.setIfInBounds_toArray, List.set_cons_zero, List.set_cons_succ]
        refine wpAnyH_ready (rs := [2]) (by kernel_rfl) (by simp) ?_
        refine AllReadyH.cons (by (simp only [List.getElem?_toArray, List.getElem?_cons_succ, List.getElem?_cons_zero]; rfl)) (fun K hK => ?_) AllReadyH.nil
        go_simp
        ((go_at_call 23; refine (specSumAll_any A1 _ c1 l _ rfl (hi.up hHeld) hlen).mono ?_; rintro e w1 ⟨he, hb⟩; rw [HV.out, HQ.out] at he; subst he))
        (try go_wp2_with fail)
        refine hK.out _ _ (by repeat (first | exact bw_refl _ | assumption | apply bw_alloc | apply bw_drew | apply bw_drewN | (refine bw_trans ?_ (by assumption)) | (refine bw_set ?_ (by simp only [go_sem]; omega) _))) (fun hHeld => ?_)
        clear hK K
        try simp only [Act.put, List.setIfInBounds_toArray, List.set_cons_zero, List.set_cons_succ]
        refine wpAnyH_take (i := 3) (v := ?_) (by (simp only [List.getElem?_toArray, List.getElem?_cons_succ, List.getElem?_cons_zero]; rfl)) (by kernel_rfl) (by kernel_rfl) (by kernel_rfl) (by exact fun _ _ _ h => h) (Or.inl ⟨by rfl, ?_⟩) (by assumption) ?_
        rotate_left
        · (intro wS hS; clear hS; go_simp; try with_reducible rfl)
        try simp only [Act.put, List.setIfInBounds_toArray, List.set_cons_zero, List.set_cons_succ]
        refine wpAnyH_done (by kernel_rfl) ?_ _
        go_wp2_with fail
        go_meet
        exact ⟨by simp, hHeld⟩
      case rest =>
        obtain ⟨rfl, hbd⟩ := hcut
        replace l4 := l4.kept hbd
        replace hi := hi.up hbd
        have hbc := bw_trans hbc hbd
        clear n0 n1 m0 m1 z4 hbd b1
        have hA := App.empty wc wc.heap.size (Nat.le_refl _)
        go_wp2
        go_loopw [5, 6] (fun s i wr => ∃ (x : Value) (j : Nat), x = s ∧ j ≤ l.length ∧ i = .int .i64 ((j : Int) - 1) ∧ App wr wc.heap.size x (l.drop j).reverse ∧ Below wc.heap.size wc wr) (fun _ i _ => (intOf i + 1).toNat)
        case atStart => exact ⟨_, l.length, rfl, Nat.le_refl _, rfl, by rw [List.drop_length]; exact hA, bw_alloc (bw_refl _) _⟩
        case round =>
          obtain ⟨x, j, rfl, hj, rfl, hP, hb⟩ := hrel
          rcases Nat.eq_zero_or_pos j with hz | hz
          · subst hz
            have hneg : ((0 : Nat) : Int) - 1 < 0 := by omega
            rw [List.drop_zero] at hP
            obtain ⟨A2, c2, rfl, o2⟩ := hP.form
            rw [List.length_reverse] at o2 ⊢
            have HLR : Hid (l.reverse.length = l.length) := Lib.hid (List.length_reverse ..)
            have l4r := l4.kept hb
            obtain ⟨v2, hv2⟩ : ∃ v, (sumAll l.reverse).1 = v := ⟨_, rfl⟩
            obtain ⟨q2, hq2⟩ : ∃ q, (sumAll l.reverse).2 = q := ⟨_, rfl⟩
            have HV2 := Lib.hid hv2
            have HQ2 := Lib.hid hq2
            clear hv2 hq2
            have i2 := o2.ints
            clear o2 hP
            have l4s := l4r
            go_wp2_with fail
            refine (implSumAll_any A2 _ c2 l.reverse _ HLR.out i2 hlen).mono ?_
            rintro e w2 ⟨he, hb2⟩
            rw [HV2.out, HQ2.out] at he
            subst he
            replace l4s := Blk.alloc (l4s.kept hb2) (.cells #[.int .i64 v2, .bool q2] 26)
            obtain ⟨n0, n1, m0, m1⟩ := cell2 l4s
            have hb5 := bw_alloc (bw_trans (bw_trans hbc hb) hb2) (.cells #[.int .i64 v2, .bool q2] 26)
            have HSV : Hid (inB v (-1125899906842624) 1125899906842624 = true) := Lib.hid (by rw [← HV.out]; exact sumAll_in l)
            have hmain : q = false → q2 = false → v2 = v := fun h1 h2 => by
              have := sumAll_turn l (by rw [HQ.out]; exact h1) (by rw [HQ2.out]; exact h2)
              rw [← HV.out, ← HV2.out, this]
            have HM := Lib.hid hmain
            clear hmain
            have z4 := l4s.lt
            have z4' := z4
            rw [World.size_alloc] at z4'
            have z7 : w2.heap.size < w2.heap.size + 1 := Nat.lt_succ_self _
            clear l4s l4r hb2 hb hbc i2
            cases q
            · cases q2
              · have hvv := HM.out rfl rfl
                subst hvv
                go_wp2_with (first
                  | (go_at_call 19; refine (implSumValid_any _ _ _).mono ?_; rintro e w3 ⟨he, hb⟩; rw [HSV.out] at he; subst he; (first | (have hq := bcomp hc hf hz hb; clear hc hf hz; obtain ⟨hc, hf, hz⟩ := hq) | (obtain ⟨hc, hf⟩ := bcell hb; have hz := bsize hb)))
                  | (go_at_call 33; refine (alive_any _).mono ?_; rintro e w4 ⟨rfl, rfl⟩))
                go_ret
                exact ⟨ret_bool (by simp), (by repeat (first | exact bw_refl _ | assumption | apply bw_alloc | apply bw_drew | apply bw_drewN | (refine bw_trans ?_ (by assumption)) | (refine bw_set ?_ (by simp only [go_sem]; omega) _)))⟩
              · go_wp2_with (first
                  | (go_at_call 19; refine (implSumValid_any _ _ _).mono ?_; rintro e w3 ⟨he, hb⟩; rw [HSV.out] at he; subst he; (first | (have hq := bcomp hc hf hz hb; clear hc hf hz; obtain ⟨hc, hf, hz⟩ := hq) | (obtain ⟨hc, hf⟩ := bcell hb; have hz := bsize hb)))
                  | (go_at_call 33; refine (alive_any _).mono ?_; rintro e w4 ⟨rfl, rfl⟩))
                go_ret
                exact ⟨ret_bool (by simp), (by repeat (first | exact bw_refl _ | assumption | apply bw_alloc | apply bw_drew | apply bw_drewN | (refine bw_trans ?_ (by assumption)) | (refine bw_set ?_ (by simp only [go_sem]; omega) _)))⟩
            · go_wp2_with (first
                | (go_at_call 19; refine (implSumValid_any _ _ _).mono ?_; rintro e w3 ⟨he, hb⟩; rw [HSV.out] at he; subst he; (first | (have hq := bcomp hc hf hz hb; clear hc hf hz; obtain ⟨hc, hf, hz⟩ := hq) | (obtain ⟨hc, hf⟩ := bcell hb; have hz := bsize hb)))
                | (go_at_call 33; refine (alive_any _).mono ?_; rintro e w4 ⟨rfl, rfl⟩))
              go_ret
              exact ⟨ret_bool (by simp), (by repeat (first | exact bw_refl _ | assumption | apply bw_alloc | apply bw_drew | apply bw_drewN | (refine bw_trans ?_ (by assumption)) | (refine bw_set ?_ (by simp only [go_sem]; omega) _)))⟩
          · obtain ⟨k, rfl⟩ : ∃ k, j = k + 1 := ⟨j - 1, by omega⟩
            have ek : ((k + 1 : Nat) : Int) - 1 = (k : Int) := by omega
            rw [ek]
            clear ek
            obtain ⟨g, f, rfl, hg, hcl⟩ := hi (by omega)
            have hc1 : wr.cell? ⟨g, f + k, none⟩ = some (.int .i64 (l.getD k 0)) := (hb.cell (p := ⟨g, f + k, none⟩) hg).trans (hcl k (by omega))
            clear hcl
            obtain ⟨u, hu⟩ : ∃ u, l.getD k 0 = u := ⟨_, rfl⟩
            rw [hu] at hc1
            have HT := Lib.hid (turn_snoc l k (by omega) u hu)
            clear hu
            have hlp : ((l.drop (k + 1)).reverse).length ≤ 4294967296 := by rw [List.length_reverse, List.length_drop]; omega
            have i1 : (k : Int) < (l.length : Int) := by omega
            have hsz := hb.size
            go_wp2_with (at_builtin; refine wpList_append_int rfl (.tmp 27) (.tmp 32) rfl wc.heap.size x _ u wc wr rfl rfl hP hlp hb hsz ?_; rintro v2 w4 hP2 hb4)
            go_roundw
            case rel => exact ⟨v2, k, rfl, by omega, by first | rfl | go_num, by rw [HT.out]; exact hP2, hb4⟩
            case measure => simp [intOf] <;> omega
end Go.Proofs.Ytmpcoljollkfjaa
