/- The walk of the law PolyStored; no condition. -/
import Derived.Test.YtdnklndemoinaaaPStored3
namespace Go.Proofs.Ytdnklndemoinaaa
open Go.RowKit
set_option linter.unusedVariables false
set_option linter.unusedSimpArgs false
set_option maxHeartbeats 2000000
set_option maxRecDepth 100000

def psOk (W P : Int) (l : List Int) (x : Int) : Bool := fitsB W P x && (decide (1 ≤ l.length) && decide (l.length ≤ 7)) && allFit W P l
theorem polyS_no {W P x : Int} {l : List Int} (h : psOk W P l x = false) : polyS W P l x = (0, false) := by
  unfold psOk at h; unfold polyS; rw [h]; rfl
theorem fits_zero {W P : Int} (h : fmtB W P = true) : fitsB W P 0 = true := by
  obtain ⟨h0, h1, h2, h3⟩ := sfour (n := 0) h
  obtain ⟨b0, b1⟩ := pw_bd W P h0 h1 h2 h3
  unfold fitsB; rw [h, Bool.true_and, inB_iff]; omega
theorem fits_cut {W P n : Int} (h : fmtB W P = true) : fitsB W P (cutF W P n) = true := by
  obtain ⟨h0, h1, h2, h3⟩ := sfour (n := 0) h
  obtain ⟨b0, b1⟩ := pw_bd W P h0 h1 h2 h3
  unfold fitsB; rw [h, Bool.true_and, inB_iff]; unfold cutF; omega
theorem fits_put {W P a b r : Int} (h : fmtB W P = true) : fitsB W P (putV W P a b r) = true := by
  unfold putV
  split
  · exact fits_cut h
  · exact fits_zero h
theorem cut_id {W P n : Int} (h : fitsB W P n = true) : cutF W P n = n := by
  have hf := sfits_fmt W P n h
  obtain ⟨h0, h1, h2, h3⟩ := sfour (n := 0) hf
  obtain ⟨b0, b1⟩ := pw_bd W P h0 h1 h2 h3
  unfold fitsB at h
  rw [hf, Bool.true_and, inB_iff] at h
  unfold cutF; omega
theorem rdiv_zero (d : Int) (hd : 0 < d) : rdiv 0 d = 0 := by
  unfold rdiv
  rw [Int.zero_ediv]
  split
  · omega
  · rfl
structure PsFacts (W P x : Int) (l : List Int) : Prop where
  fits : fitsB W P (polyS W P l x).1 = true
  one : polyS W P (l.take 1) x = (l.getD 0 0, true)
  zero : polyS W P l 0 = (l.getD 0 0, true)
  pos : 0 < l.length
theorem ps_facts {W P x : Int} {l : List Int} (h : psOk W P l x = true) : PsFacts W P x l := by
  have h' := h
  unfold psOk at h'
  simp only [Bool.and_eq_true, decide_eq_true_eq] at h'
  obtain ⟨⟨hx, h1, h7⟩, hall⟩ := h'
  have hf := sfits_fmt W P x hx
  have hz := fits_zero hf
  have hat := (allFit_iff W P l).1 hall
  obtain ⟨q0, q1, q2, q3⟩ := sfour (n := 0) hf
  obtain ⟨e0, e1⟩ := p216 P q2 q3
  refine ⟨?_, ?_, ?_, by omega⟩
  · unfold polyS
    unfold psOk at h
    rw [h]
    show fitsB W P (psD W P x l (l.length - 1)).1 = true
    cases l.length - 1 with
    | zero => exact hat _ (by omega)
    | succ d => exact fits_put hf
  · have hl : (l.take 1).length = 1 := by rw [List.length_take]; omega
    have hg : (l.take 1).getD 0 0 = l.getD 0 0 := take_getD _ _ _ (by omega)
    have ha : allFit W P (l.take 1) = true := (allFit_iff W P _).2 fun j hj => by
      rw [hl] at hj
      obtain rfl : j = 0 := by omega
      rw [hg]; exact hat 0 (by omega)
    unfold polyS
    rw [hl, hx, ha]
    show psD W P x (l.take 1) 0 = _
    rw [psD, hl, hg]
  · have key : ∀ d, d ≤ l.length - 1 → psD W P 0 l d = (l.getD (l.length - 1 - d) 0, true) := by
      intro d
      induction d with
      | zero => intro _; rfl
      | succ d ih =>
        intro hd
        have hi := ih (by omega)
        have fa := hat (l.length - 1 - d) (by omega)
        have fb := hat (l.length - 2 - d) (by omega)
        have hm : mulSV W P (l.getD (l.length - 1 - d) 0) 0 = 0 ∧ mulSB W P (l.getD (l.length - 1 - d) 0) 0 = true := by
          unfold mulSV mulSB putV putB
          rw [fa, hz, Int.mul_zero, rdiv_zero _ (by omega), cut_id hz]
          exact ⟨rfl, rfl⟩
        have hs : addSV W P 0 (l.getD (l.length - 2 - d) 0) = l.getD (l.length - 2 - d) 0 ∧ addSB W P 0 (l.getD (l.length - 2 - d) 0) = true := by
          unfold addSV addSB putV putB
          rw [fb, hz, Int.zero_add, cut_id fb]
          exact ⟨rfl, by simp⟩
        have ei : l.length - 1 - (d + 1) = l.length - 2 - d := by omega
        rw [psD, hi, hm.1, hm.2, hs.1, hs.2, ei]
        rfl
    have hok : psOk W P l 0 = true := by
      unfold psOk; rw [hz, hall]
      simp; omega
    unfold polyS
    unfold psOk at hok
    rw [hok]
    show psD W P 0 l (l.length - 1) = _
    rw [key _ (Nat.le_refl _)]
    have : l.length - 1 - (l.length - 1) = 0 := by omega
    rw [this]
theorem walk_FnPolyStored (A : Option Addr) (n c : Nat) (xs : List Int) (w : World) (h : Byts w w.heap.size A xs) (hn : xs.length = n) (hc : n ≤ c) (hm : c ≤ maxLen) :
    Calls Try.prog 11 #[.slice A n c] w fun e w' => e = .returned (.bool true) ∧ Below w.heap.size w w' := by
  by_cases hbig : 1048576 < n
  · unfold maxLen at hm
    clear hn
    go_enter Try.func11, Try.ntmps11
    go_wp2
    go_ret
    exact ⟨rfl, (by repeat (first | exact bw_refl _ | assumption | apply bw_alloc | apply bw_drew | apply bw_drewN | (refine bw_trans ?_ (by assumption)) | (refine bw_set ?_ (by simp only [go_sem]; omega) _)))⟩
  · have HN := Lib.hid hn
    clear hn
    go_enter Try.func11, Try.ntmps11
    go_upto_region 3 with fail
    go_cut [3, 4, 5] (fun s t u wx => ∃ (g3 : Nat) (W P : Int) (A1 : Option Addr) (c1 : Nat) (l : List Int) (x : Int), s = .pointer (some ⟨g3, 0, none⟩) ∧ t = .slice A1 l.length c1 ∧ u = .int .i64 x ∧ l.length ≤ 200 ∧ l.length ≤ c1 ∧ Ints wx wx.heap.size A1 l ∧ Blk wx g3 32 #[.int .i64 W, .int .i64 P] ∧ Below w.heap.size w wx)
    case first =>
      go_wp2_with fail
      refine (drawPolyStored_any A n c xs w w h HN.out hc hm (by omega) (bw_refl w)).mono ?_
      rintro e w1 ⟨W, P, A1, c1, l, x, rfl, hl, ho, hb1⟩
      go_wp2
      go_meet
      exact ⟨_, W, P, A1, c1, l, x, rfl, rfl, rfl, hl, ho.2.1, ho.ints.up (bw_alloc (bw_refl _) _), Blk.new _ _ _, bw_alloc hb1 _⟩
    case rest =>
      obtain ⟨g3, W, P, A1, c1, l, x, rfl, rfl, rfl, hl, hlc, hi, l3, hbc⟩ := hcut
      obtain ⟨n0, n1, m0, m1⟩ := fcell2 l3
      have hlen : l.length ≤ 4294967296 := by omega
      obtain ⟨v, hv⟩ : ∃ y, (polyS W P l x).1 = y := ⟨_, rfl⟩
      obtain ⟨q, hq⟩ : ∃ y, (polyS W P l x).2 = y := ⟨_, rfl⟩
      have HV := Lib.hid hv
      have HQ := Lib.hid hq
      clear hv hq
      cases hok : psOk W P l x
      · have hno := polyS_no hok
        have e1 : v = 0 := by rw [← HV.out, hno]
        have e2 : q = false := by rw [← HQ.out, hno]
        subst e1 e2
        clear hno hok
        go_wp2_with (first
          | (go_at_call 24; refine (implPolyStored_any _ _ _ l W P x _ rfl hi hlen).mono ?_; rintro e w1 ⟨he, hb⟩; rw [HV.out, HQ.out] at he; subst he; replace l3 := l3.kept hb; replace hi := hi.up hb; replace hbc := bw_trans hbc hb; clear n0 n1 m0 m1 hb; obtain ⟨n0, n1, m0, m1⟩ := fcell2 l3)
          | (go_at_call 22; refine (specPolyStored_any _ _ _ l W P x _ rfl hi hlen).mono ?_; rintro e w1 ⟨he, hb⟩; rw [HV.out, HQ.out] at he; subst he; replace l3 := l3.kept hb; replace hi := hi.up hb; replace hbc := bw_trans hbc hb; clear n0 n1 m0 m1 hb; obtain ⟨n0, n1, m0, m1⟩ := fcell2 l3)
          | (go_at_call 26; refine (alive_any _).mono ?_; rintro e w4 ⟨rfl, rfl⟩))
        go_ret
        exact ⟨ret_bool (by simp), (by repeat (first | exact bw_refl _ | assumption | apply bw_alloc | apply bw_drew | apply bw_drewN | (refine bw_trans ?_ (by assumption)) | (refine bw_set ?_ (by simp only [go_sem]; omega) _)))⟩
      · have hps := ps_facts hok
        have HPS := Lib.hid hps
        have hpos := hps.pos
        have hfit := hps.fits
        rw [HV.out] at hfit
        have HFIT := Lib.hid hfit
        clear hok hps hfit
        by_cases hzz : v = 0 ∧ q = false
        · obtain ⟨rfl, rfl⟩ := hzz
          go_wp2_with (first
            | (go_at_call 24; refine (implPolyStored_any _ _ _ l W P x _ rfl hi hlen).mono ?_; rintro e w1 ⟨he, hb⟩; rw [HV.out, HQ.out] at he; subst he; replace l3 := l3.kept hb; replace hi := hi.up hb; replace hbc := bw_trans hbc hb; clear n0 n1 m0 m1 hb; obtain ⟨n0, n1, m0, m1⟩ := fcell2 l3)
            | (go_at_call 22; refine (specPolyStored_any _ _ _ l W P x _ rfl hi hlen).mono ?_; rintro e w1 ⟨he, hb⟩; rw [HV.out, HQ.out] at he; subst he; replace l3 := l3.kept hb; replace hi := hi.up hb; replace hbc := bw_trans hbc hb; clear n0 n1 m0 m1 hb; obtain ⟨n0, n1, m0, m1⟩ := fcell2 l3)
            | (go_at_call 26; refine (alive_any _).mono ?_; rintro e w4 ⟨rfl, rfl⟩))
          go_ret
          exact ⟨ret_bool (by simp), (by repeat (first | exact bw_refl _ | assumption | apply bw_alloc | apply bw_drew | apply bw_drewN | (refine bw_trans ?_ (by assumption)) | (refine bw_set ?_ (by simp only [go_sem]; omega) _)))⟩
        · go_upto_region 8 with (first
            | (go_at_call 24; refine (implPolyStored_any _ _ _ l W P x _ rfl hi hlen).mono ?_; rintro e w1 ⟨he, hb⟩; rw [HV.out, HQ.out] at he; subst he; replace l3 := l3.kept hb; replace hi := hi.up hb; replace hbc := bw_trans hbc hb; clear n0 n1 m0 m1 hb; obtain ⟨n0, n1, m0, m1⟩ := fcell2 l3)
            | (go_at_call 22; refine (specPolyStored_any _ _ _ l W P x _ rfl hi hlen).mono ?_; rintro e w1 ⟨he, hb⟩; rw [HV.out, HQ.out] at he; subst he; replace l3 := l3.kept hb; replace hi := hi.up hb; replace hbc := bw_trans hbc hb; clear n0 n1 m0 m1 hb; obtain ⟨n0, n1, m0, m1⟩ := fcell2 l3))
          go_cut [50] (fun s wx => s = .bool false ∧ wx = w1)
          case first =>
            cases q
            · have hv0 : (v == 0) = false := beq_eq_false_iff_ne.2 (fun e => hzz ⟨e, rfl⟩)
              go_wp2
              go_meet
              exact ⟨rfl, rfl⟩
            · by_cases hv0 : v = 0
              · subst hv0
                go_wp2
                go_meet
                exact ⟨rfl, rfl⟩
              · have hv1 : (v == 0) = false := beq_eq_false_iff_ne.2 hv0
                go_wp2
                go_meet
                exact ⟨rfl, rfl⟩
          case rest =>
            obtain ⟨rfl, rfl⟩ := hcut
            clear hzz
            obtain ⟨a, ha⟩ : ∃ a, l.getD 0 0 = a := ⟨_, rfl⟩
            obtain ⟨g, f, rfl, hg, hcl⟩ := hi hpos
            have k0 := hcl 0 hpos
            rw [ha, Nat.add_zero] at k0
            have h1 := HPS.out.one
            have h0 := HPS.out.zero
            rw [ha] at h1 h0
            have H1 := Lib.hid h1
            have H0 := Lib.hid h0
            have hit := hi.take 1
            have hlt : (l.take 1).length = 1 := by rw [List.length_take]; omega
            have HLT := Lib.hid hlt
            clear h1 h0 hlt hcl ha
            obtain ⟨s, hs⟩ : ∃ s, l.take 1 = s := ⟨_, rfl⟩
            rw [hs] at hit HLT H1
            clear hs
            have c0 : 1 ≤ c1 := by omega
            have c2 : (1 : Int) ≤ (c1 : Int) := by omega
            have z3 := l3.lt
            have lp : (0 : Int) < (l.length : Int) := by omega
            have lp2 : 0 < l.length := hpos
            go_upto_region 10 with fail
            go_cut [10, 11] (fun s t wx => s = .int .i64 a ∧ t = .bool true ∧ Below wc.heap.size wc wx)
            case first =>
              refine wp_region_below (by kernel_rfl) (fun wD hHeld => ?_)
              refine wpAnyH_take (i := 0) (v := ?_) (by (simp only [List.getElem?_toArray, List.getElem?_cons_zero]; rfl)) (by kernel_rfl) (by kernel_rfl) (by kernel_rfl) (by exact fun _ _ _ h => h) (Or.inl ⟨by rfl, ?_⟩) (by assumption) ?_
              rotate_left
              · (intro wS hS; have hSc := (bcell hS).1; clear hS; go_simp; try with_reducible rfl)
              try simp only [Act.put, List.setIfInBounds_toArray, List.set_cons_zero, List.set_cons_succ]
              refine wpAnyH_take (i := 1) (v := ?_) (by (simp only [List.getElem?_toArray, List.getElem?_cons_succ, List.getElem?_cons_zero]; rfl)) (by kernel_rfl) (by kernel_rfl) (by kernel_rfl) (by exact fun _ _ _ h => h) (Or.inl ⟨by rfl, ?_⟩) (by assumption) ?_
              rotate_left
              · (intro wS hS; clear hS; go_simp; try with_reducible rfl)
              try simp only [Act.put, List.setIfInBounds_toArray, List.set_cons_zero, List.set_cons_succ]
              refine wpAnyH_take (i := 2) (v := ?_) (by (simp only [List.getElem?_toArray, List.getElem?_cons_succ, List.getElem?_cons_zero]; rfl)) (by kernel_rfl) (by kernel_rfl) (by kernel_rfl) (by exact fun _ _ _ h => h) (Or.inl ⟨by rfl, ?_⟩) (by assumption) ?_
              rotate_left
              · (intro wS hS; clear hS; go_simp; try with_reducible rfl)
              try simp only [Act.put, List.setIfInBounds_toArray, List.set_cons_zero, List.set_cons_succ]
              refine wpAnyH_take (i := 3) (v := ?_) (by (simp only [List.getElem?_toArray, List.getElem?_cons_succ, List.getElem?_cons_zero]; rfl)) (by kernel_rfl) (by kernel_rfl) (by kernel_rfl) (by exact fun _ _ _ h => h) (Or.inl ⟨by rfl, ?_⟩) (by assumption) ?_
              rotate_left
              · (intro wS hS; clear hS; go_simp; try with_reducible rfl)
              try simp only [Act.put, List.setIfInBounds_toArray, List.set_cons_zero, List.set_cons_succ]
              refine wpAnyH_ready (rs := [4]) (by kernel_rfl) (by simp) ?_
              refine AllReadyH.cons (by (simp only [List.getElem?_toArray, List.getElem?_cons_succ, List.getElem?_cons_zero]; rfl)) (fun K hK => ?_) AllReadyH.nil
              go_simp
              ((go_at_call 24; refine (implPolyStored_any _ _ _ s W P x _ HLT.out (hit.up hHeld) (by omega)).mono ?_; rintro e w3 ⟨he, hb⟩; rw [H1.out] at he; subst he))
              (try go_wp2_with fail)
              refine hK.out _ _ (by repeat (first | exact bw_refl _ | assumption | apply bw_alloc | apply bw_drew | apply bw_drewN | (refine bw_trans ?_ (by assumption)) | (refine bw_set ?_ (by simp only [go_sem]; omega) _))) (fun hHeld => ?_)
              clear hK K
              try simp only [Act.put, List.setIfInBounds_toArray, List.set_cons_zero, List.set_cons_succ]
              refine wpAnyH_take (i := 5) (v := ?_) (by (simp only [List.getElem?_toArray, List.getElem?_cons_succ, List.getElem?_cons_zero]; rfl)) (by kernel_rfl) (by kernel_rfl) (by kernel_rfl) (by exact fun _ _ _ h => h) (Or.inl ⟨by rfl, ?_⟩) (by assumption) ?_
              rotate_left
              · (intro wS hS; clear hS; go_simp; try with_reducible rfl)
              try simp only [Act.put, List.setIfInBounds_toArray, List.set_cons_zero, List.set_cons_succ]
              refine wpAnyH_take (i := 6) (v := ?_) (by (simp only [List.getElem?_toArray, List.getElem?_cons_succ, List.getElem?_cons_zero]; rfl)) (by kernel_rfl) (by kernel_rfl) (by kernel_rfl) (by exact fun _ _ _ h => h) (Or.inl ⟨by rfl, ?_⟩) (by assumption) ?_
              rotate_left
              · (intro wS hS; clear hS; go_simp; try with_reducible rfl)
              try simp only [Act.put, List.setIfInBounds_toArray, List.set_cons_zero, List.set_cons_succ]
              refine wpAnyH_take (i := 7) (v := ?_) (by (simp only [List.getElem?_toArray, List.getElem?_cons_succ, List.getElem?_cons_zero]; rfl)) (by kernel_rfl) (by kernel_rfl) (by kernel_rfl) (by exact fun _ _ _ h => h) (Or.inl ⟨by rfl, ?_⟩) (by assumption) ?_
              rotate_left
              · (intro wS hS; clear hS; go_simp; try with_reducible rfl)
              try simp only [Act.put, List.setIfInBounds_toArray, List.set_cons_zero, List.set_cons_succ]
              refine wpAnyH_take (i := 8) (v := ?_) (by (simp only [List.getElem?_toArray, List.getElem?_cons_succ, List.getElem?_cons_zero]; rfl)) (by kernel_rfl) (by kernel_rfl) (by kernel_rfl) (by exact fun _ _ _ h => h) (Or.inl ⟨by rfl, ?_⟩) (by assumption) ?_
              rotate_left
              · (intro wS hS; clear hS; go_simp; try with_reducible rfl)
              try simp only [Act.put, List.setIfInBounds_toArray, List.set_cons_zero, List.set_cons_succ]
              refine wpAnyH_take (i := 9) (v := ?_) (by (simp only [List.getElem?_toArray, List.getElem?_cons_succ, List.getElem?_cons_zero]; rfl)) (by kernel_rfl) (by kernel_rfl) (by kernel_rfl) (by exact fun _ _ _ h => h) (Or.inl ⟨by rfl, ?_⟩) (by assumption) ?_
              rotate_left
              · (intro wS hS; clear hS; go_simp; try with_reducible rfl)
              try simp only [Act.put, List.setIfInBounds_toArray, List.set_cons_zero, List.set_cons_succ]
              refine wpAnyH_done (by kernel_rfl) ?_ _
              go_wp2
              go_meet
              exact ⟨rfl, rfl, hHeld⟩
            case rest =>
              obtain ⟨rfl, rfl, hb⟩ := hcut
              replace k0 := cell_keep hb k0
              replace l3 := l3.kept hb; replace hi := hi.up hb; replace hbc := bw_trans hbc hb; clear n0 n1 m0 m1 hb; obtain ⟨n0, n1, m0, m1⟩ := fcell2 l3
              go_wp2_with (first
                | (go_at_call 24; refine (implPolyStored_any _ _ _ l W P 0 _ rfl hi hlen).mono ?_; rintro e w4 ⟨he, hb⟩; rw [H0.out] at he; subst he; replace k0 := cell_keep hb k0; replace l3 := l3.kept hb; replace hi := hi.up hb; replace hbc := bw_trans hbc hb; clear n0 n1 m0 m1 hb; obtain ⟨n0, n1, m0, m1⟩ := fcell2 l3)
                | (go_at_call 31; refine (implStoredFits_any W P v _).mono ?_; rintro e w5 ⟨he, hb⟩; rw [HFIT.out] at he; subst he; replace k0 := cell_keep hb k0; replace l3 := l3.kept hb; replace hi := hi.up hb; replace hbc := bw_trans hbc hb; clear n0 n1 m0 m1 hb; obtain ⟨n0, n1, m0, m1⟩ := fcell2 l3))
              go_ret
              exact ⟨ret_bool (by simp), (by repeat (first | exact bw_refl _ | assumption | apply bw_alloc | apply bw_drew | apply bw_drewN | (refine bw_trans ?_ (by assumption)) | (refine bw_set ?_ (by simp only [go_sem]; omega) _)))⟩
end Go.Proofs.Ytdnklndemoinaaa
