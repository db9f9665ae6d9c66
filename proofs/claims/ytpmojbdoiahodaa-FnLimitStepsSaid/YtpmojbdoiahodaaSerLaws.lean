/- The walks of the laws MeanFilter, SmoothFilter, LimitSteps; no condition. -/
import Derived.Test.YtpmojbdoiahodaaSerMath
import Derived.Test.YtpmojbdoiahodaaSerDraw2
namespace Go.Proofs.Ytpmojbdoiahodaa
open Go.RowKit
set_option linter.unusedVariables false
set_option linter.unusedSimpArgs false
set_option maxHeartbeats 1000000

theorem walk_FnMeanFilter (A : Option Addr) (n c : Nat) (xs : List Int) (w : World) (h : Byts w w.heap.size A xs) (hn : xs.length = n) (hc : n ≤ c) (hm : c ≤ maxLen) :
    Calls Try.prog 13 #[.slice A n c] w fun e w' => e = .returned (.bool true) ∧ Below w.heap.size w w' := by
  by_cases hbig : 1048576 < n
  · unfold maxLen at hm
    clear hn
    go_enter Try.func13, Try.ntmps13
    go_wp2
    go_ret
    exact ⟨rfl, (by repeat (first | exact bw_refl _ | assumption | apply bw_alloc | apply bw_drew | apply bw_drewN | (refine bw_trans ?_ (by assumption)) | (refine bw_set ?_ (by simp only [go_sem]; omega) _)))⟩
  · have HN := Lib.hid hn
    clear hn
    go_enter Try.func13, Try.ntmps13
    go_wp2_with fail
    refine (drawMeanFilter_any A n c xs w w h HN.out hc hm (by omega) (bw_refl w)).mono ?_
    rintro e w1 ⟨A1, c1, l, m, rfl, hl, o1, b1⟩
    have hlen : l.length ≤ 4294967296 := by omega
    have hRl : (meanFilter l m).length ≤ 4294967296 := meanFilter_len l m (by omega)
    have hi := o1.ints
    obtain ⟨R, hR⟩ : ∃ R, meanFilter l m = R := ⟨_, rfl⟩
    have HR := Lib.hid hR
    rw [hR] at hRl
    clear hR
    go_wp2_with fail
    refine (implMeanFilter_any A1 _ c1 l m _ rfl hi hlen).mono ?_
    rintro e w2 hq
    rw [HR.out] at hq
    obtain ⟨⟨A2, c2, rfl, o2⟩, b2⟩ := hq
    have i1 := hi.up b2
    have i2 := o2.ints
    have c2 : Below w.heap.size w w2 := (by repeat (first | exact bw_refl _ | assumption | apply bw_alloc | apply bw_drew | apply bw_drewN | (refine bw_trans ?_ (by assumption)) | (refine bw_set ?_ (by simp only [go_sem]; omega) _)))
    clear hi
    go_wp2_with fail
    refine (specMeanFilter_any A1 _ c1 l m _ rfl i1 hlen).mono ?_
    rintro e w3 hq
    rw [HR.out] at hq
    obtain ⟨⟨A3, c3, rfl, o3⟩, b3⟩ := hq
    have j1 := i1.up b3
    have j2 := i2.up b3
    have j3 := o3.ints
    clear i1 i2
    go_wp2_with fail
    refine (sameInts_any A2 A3 _ _ _ _ R R _ rfl rfl j2 j3 hRl hRl).mono ?_
    rintro e w4 ⟨he, b4⟩
    rw [eqIs_same] at he
    subst he
    have i1 := j1.up b4
    have i2 := j2.up b4
    have d4 : Below w.heap.size w w4 := (by repeat (first | exact bw_refl _ | assumption | apply bw_alloc | apply bw_drew | apply bw_drewN | (refine bw_trans ?_ (by assumption)) | (refine bw_set ?_ (by simp only [go_sem]; omega) _)))
    clear j1 j2 j3 b1 b2 b3 b4 c2 o1 o2 o3
    cases hs : seriesB l
    · have hrl : R = [] := by rw [← HR.out]; exact mean_no l m (.inl hs)
      subst hrl
      have HS := Lib.hid hs
      clear hs HR
      go_wp2_with (first
        | (go_at_call 14; refine (specSeriesValid_any A1 _ c1 l _ rfl i1 hlen).mono ?_; rintro e w5 ⟨he, hb⟩; rw [HS.out] at he; subst he; try subst hb)
        | (go_at_call 29; refine (alive_any _).mono ?_; rintro e w6 ⟨rfl, rfl⟩))
      go_ret
      exact ⟨ret_bool (by simp), (by repeat (first | exact bw_refl _ | assumption | apply bw_alloc | apply bw_drew | apply bw_drewN | (refine bw_trans ?_ (by assumption)) | (refine bw_set ?_ (by simp only [go_sem]; omega) _)))⟩
    · have HS := Lib.hid hs
      clear hs
      cases hin : inB m 1 60
      · have hrl : R = [] := by rw [← HR.out]; exact mean_no l m (.inr hin)
        subst hrl
        have hmm : m < 1 ∨ 60 < m := by have := (inB_no _ _ _).1 hin; omega
        clear hin HR
        rcases hmm with hmm | hmm
        all_goals
          go_wp2_with (first
            | (go_at_call 14; refine (specSeriesValid_any A1 _ c1 l _ rfl i1 hlen).mono ?_; rintro e w5 ⟨he, hb⟩; rw [HS.out] at he; subst he; try subst hb)
            | (go_at_call 29; refine (alive_any _).mono ?_; rintro e w6 ⟨rfl, rfl⟩))
          go_ret
          exact ⟨ret_bool (by simp), (by repeat (first | exact bw_refl _ | assumption | apply bw_alloc | apply bw_drew | apply bw_drewN | (refine bw_trans ?_ (by assumption)) | (refine bw_set ?_ (by simp only [go_sem]; omega) _)))⟩
      · obtain ⟨m0, m1⟩ := (inB_iff _ _ _).1 hin
        have hok := mean_ok l m HS.out hin
        rw [HR.out] at hok
        obtain ⟨hok, hsame⟩ := hok
        have hl1 : ((R.length : Int) == (l.length : Int)) = true := by rw [hok.len]; simp
        have HK := Lib.hid hok
        have HE := Lib.hid hsame
        clear hin hok hsame
        go_wp2_with (first
          | (go_at_call 14; refine (specSeriesValid_any A1 _ c1 l _ rfl i1 hlen).mono ?_; rintro e w5 ⟨he, hb⟩; rw [HS.out] at he; subst he; try subst hb)
          | fail)
        refine (inside_any A2 A1 _ _ _ _ R l _ rfl rfl i2 i1 hRl hlen HK.out.hull).mono ?_
        rintro e w7 ⟨rfl, rfl⟩
        go_wp2_with fail
        refine (implMeanFilter_any A1 _ c1 l 1 _ rfl i1 hlen).mono ?_
        rintro e w8 hq
        rw [HE.out] at hq
        obtain ⟨⟨A8, c8, rfl, o8⟩, b8⟩ := hq
        go_wp2_with fail
        refine (sameInts_any A8 A1 _ _ _ _ l l _ rfl rfl o8.ints (i1.up b8) hlen hlen).mono ?_
        rintro e w9 ⟨he, b9⟩
        rw [eqIs_same] at he
        subst he
        go_wp2
        go_ret
        exact ⟨ret_bool (by simp), (by repeat (first | exact bw_refl _ | assumption | apply bw_alloc | apply bw_drew | apply bw_drewN | (refine bw_trans ?_ (by assumption)) | (refine bw_set ?_ (by simp only [go_sem]; omega) _)))⟩
theorem walk_FnSmoothFilter (A : Option Addr) (n c : Nat) (xs : List Int) (w : World) (h : Byts w w.heap.size A xs) (hn : xs.length = n) (hc : n ≤ c) (hm : c ≤ maxLen) :
    Calls Try.prog 12 #[.slice A n c] w fun e w' => e = .returned (.bool true) ∧ Below w.heap.size w w' := by
  by_cases hbig : 1048576 < n
  · unfold maxLen at hm
    clear hn
    go_enter Try.func12, Try.ntmps12
    go_wp2
    go_ret
    exact ⟨rfl, (by repeat (first | exact bw_refl _ | assumption | apply bw_alloc | apply bw_drew | apply bw_drewN | (refine bw_trans ?_ (by assumption)) | (refine bw_set ?_ (by simp only [go_sem]; omega) _)))⟩
  · have HN := Lib.hid hn
    clear hn
    go_enter Try.func12, Try.ntmps12
    go_wp2_with fail
    refine (drawSmoothFilter_any A n c xs w w h HN.out hc hm (by omega) (bw_refl w)).mono ?_
    rintro e w1 ⟨A1, c1, l, m, rfl, hl, o1, b1⟩
    have hlen : l.length ≤ 4294967296 := by omega
    have hRl : (smoothFilter l m).length ≤ 4294967296 := smoothFilter_len l m (by omega)
    have hi := o1.ints
    obtain ⟨R, hR⟩ : ∃ R, smoothFilter l m = R := ⟨_, rfl⟩
    have HR := Lib.hid hR
    rw [hR] at hRl
    clear hR
    go_wp2_with fail
    refine (implSmoothFilter_any A1 _ c1 l m _ rfl hi hlen).mono ?_
    rintro e w2 hq
    rw [HR.out] at hq
    obtain ⟨⟨A2, c2, rfl, o2⟩, b2⟩ := hq
    have i1 := hi.up b2
    have i2 := o2.ints
    have c2 : Below w.heap.size w w2 := (by repeat (first | exact bw_refl _ | assumption | apply bw_alloc | apply bw_drew | apply bw_drewN | (refine bw_trans ?_ (by assumption)) | (refine bw_set ?_ (by simp only [go_sem]; omega) _)))
    clear hi
    go_wp2_with fail
    refine (specSmoothFilter_any A1 _ c1 l m _ rfl i1 hlen).mono ?_
    rintro e w3 hq
    rw [HR.out] at hq
    obtain ⟨⟨A3, c3, rfl, o3⟩, b3⟩ := hq
    have j1 := i1.up b3
    have j2 := i2.up b3
    have j3 := o3.ints
    clear i1 i2
    go_wp2_with fail
    refine (sameInts_any A2 A3 _ _ _ _ R R _ rfl rfl j2 j3 hRl hRl).mono ?_
    rintro e w4 ⟨he, b4⟩
    rw [eqIs_same] at he
    subst he
    have i1 := j1.up b4
    have i2 := j2.up b4
    have d4 : Below w.heap.size w w4 := (by repeat (first | exact bw_refl _ | assumption | apply bw_alloc | apply bw_drew | apply bw_drewN | (refine bw_trans ?_ (by assumption)) | (refine bw_set ?_ (by simp only [go_sem]; omega) _)))
    clear j1 j2 j3 b1 b2 b3 b4 c2 o1 o2 o3
    cases hs : seriesB l
    · have hrl : R = [] := by rw [← HR.out]; exact smooth_no l m (.inl hs)
      subst hrl
      have HS := Lib.hid hs
      clear hs HR
      go_wp2_with (first
        | (go_at_call 14; refine (specSeriesValid_any A1 _ c1 l _ rfl i1 hlen).mono ?_; rintro e w5 ⟨he, hb⟩; rw [HS.out] at he; subst he; try subst hb)
        | (go_at_call 29; refine (alive_any _).mono ?_; rintro e w6 ⟨rfl, rfl⟩))
      go_ret
      exact ⟨ret_bool (by simp), (by repeat (first | exact bw_refl _ | assumption | apply bw_alloc | apply bw_drew | apply bw_drewN | (refine bw_trans ?_ (by assumption)) | (refine bw_set ?_ (by simp only [go_sem]; omega) _)))⟩
    · have HS := Lib.hid hs
      clear hs
      cases hin : inB m 0 10
      · have hrl : R = [] := by rw [← HR.out]; exact smooth_no l m (.inr hin)
        subst hrl
        have hmm : m < 0 ∨ 10 < m := by have := (inB_no _ _ _).1 hin; omega
        clear hin HR
        rcases hmm with hmm | hmm
        all_goals
          go_wp2_with (first
            | (go_at_call 14; refine (specSeriesValid_any A1 _ c1 l _ rfl i1 hlen).mono ?_; rintro e w5 ⟨he, hb⟩; rw [HS.out] at he; subst he; try subst hb)
            | (go_at_call 29; refine (alive_any _).mono ?_; rintro e w6 ⟨rfl, rfl⟩))
          go_ret
          exact ⟨ret_bool (by simp), (by repeat (first | exact bw_refl _ | assumption | apply bw_alloc | apply bw_drew | apply bw_drewN | (refine bw_trans ?_ (by assumption)) | (refine bw_set ?_ (by simp only [go_sem]; omega) _)))⟩
      · obtain ⟨m0, m1⟩ := (inB_iff _ _ _).1 hin
        have hok := smooth_ok l m HS.out hin
        rw [HR.out] at hok
        obtain ⟨hok, hsame, hfirst⟩ := hok
        have hl1 : ((R.length : Int) == (l.length : Int)) = true := by rw [hok.len]; simp
        have HL := Lib.hid hok.len
        have HK := Lib.hid hok
        have HE := Lib.hid hsame
        have HF := Lib.hid hfirst
        clear hin hok hsame hfirst
        by_cases hz : l.length = 0
        · have hz2 : ((R.length : Int) == 0) = true := by rw [HL.out, hz]; rfl
          clear hz
          go_upto_region 9 with (go_at_call 14; refine (specSeriesValid_any A1 _ c1 l _ rfl i1 hlen).mono ?_; rintro e w5 ⟨he, hb⟩; rw [HS.out] at he; subst he; try subst hb)
          refine wp_region_below (by kernel_rfl) (fun wD hHeld => ?_)
          refine wpAnyH_take (i := 0) (v := ?_) (by (simp only [List.getElem?_toArray, List.getElem?_cons_zero]; rfl)) (by kernel_rfl) (by kernel_rfl) (by kernel_rfl) (by exact fun _ _ _ h => h) (Or.inl ⟨by rfl, ?_⟩) (by assumption) ?_
          rotate_left
          · (intro wS hS; clear hS; go_simp; try with_reducible rfl)
          try simp only [Act.put, List.setIfInBounds_toArray, List.set_cons_zero, List.set_cons_succ]
          refine wpAnyH_take (i := 1) (v := ?_) (by (simp only [List.getElem?_toArray, List.getElem?_cons_succ, List.getElem?_cons_zero]; rfl)) (by kernel_rfl) (by kernel_rfl) (by kernel_rfl) (by exact fun _ _ _ h => h) (Or.inl ⟨by rfl, ?_⟩) (by assumption) ?_
          rotate_left
          · (intro wS hS; clear hS; go_simp; try with_reducible rfl)
          try simp only [Act.put, List.setIfInBounds_toArray, List.set_cons_zero, List.set_cons_succ]
          refine wpAnyH_take (i := 2) (v := ?_) (by (simp only [List.getElem?_toArray, List.getElem?_cons_succ, List.getElem?_cons_zero]; rfl)) (by kernel_rfl) (by kernel_rfl) (by kernel_rfl) (by exact fun _ _ _ h => h) (Or.inl ⟨by rfl, ?_⟩) (by assumption) ?_
          rotate_left
          · (intro wS hS; clear hS; go_simp; try with_reducible rfl)
          try simp only [Act.put, List.setIfInBounds_toArray, List.set_cons_zero, List.set_cons_succ]
          refine wpAnyH_take (i := 3) (v := ?_) (by (simp only [List.getElem?_toArray, List.getElem?_cons_succ, List.getElem?_cons_zero]; rfl)) (by kernel_rfl) (by kernel_rfl) (by kernel_rfl) (by exact fun _ _ _ h => h) (Or.inl ⟨by rfl, ?_⟩) (by assumption) ?_
          rotate_left
          · (intro wS hS; clear hS; go_simp; try with_reducible rfl)
          try simp only [Act.put, List.setIfInBounds_toArray, List.set_cons_zero, List.set_cons_succ]
          refine wpAnyH_take (i := 4) (v := ?_) (by (simp only [List.getElem?_toArray, List.getElem?_cons_succ, List.getElem?_cons_zero]; rfl)) (by kernel_rfl) (by kernel_rfl) (by kernel_rfl) (by exact fun _ _ _ h => h) (Or.inl ⟨by rfl, ?_⟩) (by assumption) ?_
          rotate_left
          · (intro wS hS; clear hS; go_simp; try with_reducible rfl)
          try simp only [Act.put, List.setIfInBounds_toArray, List.set_cons_zero, List.set_cons_succ]
          refine wpAnyH_take (i := 5) (v := ?_) (by (simp only [List.getElem?_toArray, List.getElem?_cons_succ, List.getElem?_cons_zero]; rfl)) (by kernel_rfl) (by kernel_rfl) (by kernel_rfl) (by exact fun _ _ _ h => h) (Or.inl ⟨by rfl, ?_⟩) (by assumption) ?_
          rotate_left
          · (intro wS hS; clear hS; go_simp; try with_reducible rfl)
          try simp only [Act.put, List.setIfInBounds_toArray, List.set_cons_zero, List.set_cons_succ]
          refine wpAnyH_take (i := 6) (v := ?_) (by (simp only [List.getElem?_toArray, List.getElem?_cons_succ, List.getElem?_cons_zero]; rfl)) (by kernel_rfl) (by kernel_rfl) (by kernel_rfl) (by exact fun _ _ _ h => h) (Or.inl ⟨by rfl, ?_⟩) (by assumption) ?_
          rotate_left
          · (intro wS hS; clear hS; go_simp; try with_reducible rfl)
          try simp only [Act.put, List.setIfInBounds_toArray, List.set_cons_zero, List.set_cons_succ]
          refine wpAnyH_take (i := 7) (v := ?_) (by (simp only [List.getElem?_toArray, List.getElem?_cons_succ, List.getElem?_cons_zero]; rfl)) (by kernel_rfl) (by kernel_rfl) (by kernel_rfl) (by exact fun _ _ _ h => h) (Or.inl ⟨by rfl, ?_⟩) (by assumption) ?_
          rotate_left
          · (intro wS hS; clear hS; go_simp; try with_reducible rfl)
          try simp only [Act.put, List.setIfInBounds_toArray, List.set_cons_zero, List.set_cons_succ]
          refine wpAnyH_ready (rs := [8]) (by kernel_rfl) (by simp) ?_
          refine AllReadyH.cons (by (simp only [List.getElem?_toArray, List.getElem?_cons_succ, List.getElem?_cons_zero]; rfl)) (fun K hK => ?_) AllReadyH.nil
          go_simp
          ((first | (go_at_call 33; refine (inside_any A2 A1 _ _ _ _ R l _ rfl rfl (i2.up hHeld) (i1.up hHeld) hRl hlen HK.out.hull).mono ?_; rintro e w7 ⟨rfl, rfl⟩) | (go_at_call 25; refine (implSmoothFilter_any A1 _ c1 l 0 _ rfl (i1.up hHeld) hlen).mono ?_; rintro e w8 hq; rw [HE.out] at hq; obtain ⟨⟨A8, c8, rfl, o8⟩, b8⟩ := hq) | (go_at_call 31; refine (sameInts_any A8 A1 _ _ _ _ l l _ rfl rfl o8.ints (i1.up hHeld) hlen hlen).mono ?_; rintro e w9 ⟨he, b9⟩; rw [eqIs_same] at he; subst he)))
          (try go_wp2_with fail)
          refine hK.out _ _ (by repeat (first | exact bw_refl _ | assumption | apply bw_alloc | apply bw_drew | apply bw_drewN | (refine bw_trans ?_ (by assumption)) | (refine bw_set ?_ (by simp only [go_sem]; omega) _))) (fun hHeld => ?_)
          clear hK K
          try simp only [Act.put, List.setIfInBounds_toArray, List.set_cons_zero, List.set_cons_succ]
          refine wpAnyH_take (i := 9) (v := ?_) (by (simp only [List.getElem?_toArray, List.getElem?_cons_succ, List.getElem?_cons_zero]; rfl)) (by kernel_rfl) (by kernel_rfl) (by kernel_rfl) (by exact fun _ _ _ h => h) (Or.inl ⟨by rfl, ?_⟩) (by assumption) ?_
          rotate_left
          · (intro wS hS; clear hS; go_simp; try with_reducible rfl)
          try simp only [Act.put, List.setIfInBounds_toArray, List.set_cons_zero, List.set_cons_succ]
          refine wpAnyH_take (i := 10) (v := ?_) (by (simp only [List.getElem?_toArray, List.getElem?_cons_succ, List.getElem?_cons_zero]; rfl)) (by kernel_rfl) (by kernel_rfl) (by kernel_rfl) (by exact fun _ _ _ h => h) (Or.inl ⟨by rfl, ?_⟩) (by assumption) ?_
          rotate_left
          · (intro wS hS; clear hS; go_simp; try with_reducible rfl)
          try simp only [Act.put, List.setIfInBounds_toArray, List.set_cons_zero, List.set_cons_succ]
          refine wpAnyH_take (i := 11) (v := ?_) (by (simp only [List.getElem?_toArray, List.getElem?_cons_succ, List.getElem?_cons_zero]; rfl)) (by kernel_rfl) (by kernel_rfl) (by kernel_rfl) (by exact fun _ _ _ h => h) (Or.inl ⟨by rfl, ?_⟩) (by assumption) ?_
          rotate_left
          · (intro wS hS; clear hS; go_simp; try with_reducible rfl)
          try simp only [Act.put, List.setIfInBounds_toArray, List.set_cons_zero, List.set_cons_succ]
          refine wpAnyH_take (i := 13) (v := ?_) (by (simp only [List.getElem?_toArray, List.getElem?_cons_succ, List.getElem?_cons_zero]; rfl)) (by kernel_rfl) (by kernel_rfl) (by kernel_rfl) (by exact fun _ _ _ h => h) (Or.inl ⟨by rfl, ?_⟩) (by assumption) ?_
          rotate_left
          · (intro wS hS; clear hS; go_simp; try with_reducible rfl)
          try simp only [Act.put, List.setIfInBounds_toArray, List.set_cons_zero, List.set_cons_succ]
          refine wpAnyH_ready (rs := [12]) (by kernel_rfl) (by simp) ?_
          refine AllReadyH.cons (by (simp only [List.getElem?_toArray, List.getElem?_cons_succ, List.getElem?_cons_zero]; rfl)) (fun K hK => ?_) AllReadyH.nil
          go_simp
          ((first | (go_at_call 33; refine (inside_any A2 A1 _ _ _ _ R l _ rfl rfl (i2.up hHeld) (i1.up hHeld) hRl hlen HK.out.hull).mono ?_; rintro e w7 ⟨rfl, rfl⟩) | (go_at_call 25; refine (implSmoothFilter_any A1 _ c1 l 0 _ rfl (i1.up hHeld) hlen).mono ?_; rintro e w8 hq; rw [HE.out] at hq; obtain ⟨⟨A8, c8, rfl, o8⟩, b8⟩ := hq) | (go_at_call 31; refine (sameInts_any A8 A1 _ _ _ _ l l _ rfl rfl o8.ints (i1.up hHeld) hlen hlen).mono ?_; rintro e w9 ⟨he, b9⟩; rw [eqIs_same] at he; subst he)))
          (try go_wp2_with fail)
          refine hK.out _ _ (by repeat (first | exact bw_refl _ | assumption | apply bw_alloc | apply bw_drew | apply bw_drewN | (refine bw_trans ?_ (by assumption)) | (refine bw_set ?_ (by simp only [go_sem]; omega) _))) (fun hHeld => ?_)
          clear hK K
          try simp only [Act.put, List.setIfInBounds_toArray, List.set_cons_zero, List.set_cons_succ]
          refine wpAnyH_ready (rs := [14]) (by kernel_rfl) (by simp) ?_
          refine AllReadyH.cons (by (simp only [List.getElem?_toArray, List.getElem?_cons_succ, List.getElem?_cons_zero]; rfl)) (fun K hK => ?_) AllReadyH.nil
          go_simp
          ((first | (go_at_call 33; refine (inside_any A2 A1 _ _ _ _ R l _ rfl rfl (i2.up hHeld) (i1.up hHeld) hRl hlen HK.out.hull).mono ?_; rintro e w7 ⟨rfl, rfl⟩) | (go_at_call 25; refine (implSmoothFilter_any A1 _ c1 l 0 _ rfl (i1.up hHeld) hlen).mono ?_; rintro e w8 hq; rw [HE.out] at hq; obtain ⟨⟨A8, c8, rfl, o8⟩, b8⟩ := hq) | (go_at_call 31; refine (sameInts_any A8 A1 _ _ _ _ l l _ rfl rfl o8.ints (i1.up hHeld) hlen hlen).mono ?_; rintro e w9 ⟨he, b9⟩; rw [eqIs_same] at he; subst he)))
          (try go_wp2_with fail)
          refine hK.out _ _ (by repeat (first | exact bw_refl _ | assumption | apply bw_alloc | apply bw_drew | apply bw_drewN | (refine bw_trans ?_ (by assumption)) | (refine bw_set ?_ (by simp only [go_sem]; omega) _))) (fun hHeld => ?_)
          clear hK K
          try simp only [Act.put, List.setIfInBounds_toArray, List.set_cons_zero, List.set_cons_succ]
          refine wpAnyH_take (i := 15) (v := ?_) (by (simp only [List.getElem?_toArray, List.getElem?_cons_succ, List.getElem?_cons_zero]; rfl)) (by kernel_rfl) (by kernel_rfl) (by kernel_rfl) (by exact fun _ _ _ h => h) (Or.inl ⟨by rfl, ?_⟩) (by assumption) ?_
          rotate_left
          · (intro wS hS; clear hS; go_simp; try with_reducible rfl)
          try simp only [Act.put, List.setIfInBounds_toArray, List.set_cons_zero, List.set_cons_succ]
          refine wpAnyH_take (i := 16) (v := ?_) (by (simp only [List.getElem?_toArray, List.getElem?_cons_succ, List.getElem?_cons_zero]; rfl)) (by kernel_rfl) (by kernel_rfl) (by kernel_rfl) (by exact fun _ _ _ h => h) (Or.inl ⟨by rfl, ?_⟩) (by assumption) ?_
          rotate_left
          · (intro wS hS; clear hS; go_simp; try with_reducible rfl)
          try simp only [Act.put, List.setIfInBounds_toArray, List.set_cons_zero, List.set_cons_succ]
          refine wpAnyH_take (i := 17) (v := ?_) (by (simp only [List.getElem?_toArray, List.getElem?_cons_succ, List.getElem?_cons_zero]; rfl)) (by kernel_rfl) (by kernel_rfl) (by kernel_rfl) (by exact fun _ _ _ h => h) (Or.inl ⟨by rfl, ?_⟩) (by assumption) ?_
          rotate_left
          · (intro wS hS; clear hS; go_simp; try with_reducible rfl)
          try simp only [Act.put, List.setIfInBounds_toArray, List.set_cons_zero, List.set_cons_succ]
          refine wpAnyH_take (i := 18) (v := ?_) (by (simp only [List.getElem?_toArray, List.getElem?_cons_succ, List.getElem?_cons_zero]; rfl)) (by kernel_rfl) (by kernel_rfl) (by kernel_rfl) (by exact fun _ _ _ h => h) (Or.inl ⟨by rfl, ?_⟩) (by assumption) ?_
          rotate_left
          · (intro wS hS; clear hS; go_simp; try with_reducible rfl)
          try simp only [Act.put, List.setIfInBounds_toArray, List.set_cons_zero, List.set_cons_succ]
          refine wpAnyH_take (i := 19) (v := ?_) (by (simp only [List.getElem?_toArray, List.getElem?_cons_succ, List.getElem?_cons_zero]; rfl)) (by kernel_rfl) (by kernel_rfl) (by kernel_rfl) (by exact fun _ _ _ h => h) (Or.inl ⟨by rfl, ?_⟩) (by assumption) ?_
          rotate_left
          · (intro wS hS; clear hS; go_simp; try with_reducible rfl)
          try simp only [Act.put, List.setIfInBounds_toArray, List.set_cons_zero, List.set_cons_succ]
          refine wpAnyH_take (i := 20) (v := ?_) (by (simp only [List.getElem?_toArray, List.getElem?_cons_succ, List.getElem?_cons_zero]; rfl)) (by kernel_rfl) (by kernel_rfl) (by kernel_rfl) (by exact fun _ _ _ h => h) (Or.inl ⟨by rfl, ?_⟩) (by assumption) ?_
          rotate_left
          · (intro wS hS; clear hS; go_simp; try with_reducible rfl)
          try simp only [Act.put, List.setIfInBounds_toArray, List.set_cons_zero, List.set_cons_succ]
          refine wpAnyH_take (i := 21) (v := undef) (by (simp only [List.getElem?_toArray, List.getElem?_cons_succ, List.getElem?_cons_zero]; rfl)) (by kernel_rfl) (by kernel_rfl) (by kernel_rfl) (by exact fun _ _ _ h => h) (Or.inr ⟨by rfl, rfl⟩) (by assumption) ?_
          try simp only [Act.put, List.setIfInBounds_toArray, List.set_cons_zero, List.set_cons_succ]
          refine wpAnyH_take (i := 22) (v := undef) (by (simp only [List.getElem?_toArray, List.getElem?_cons_succ, List.getElem?_cons_zero]; rfl)) (by kernel_rfl) (by kernel_rfl) (by kernel_rfl) (by exact fun _ _ _ h => h) (Or.inr ⟨by rfl, rfl⟩) (by assumption) ?_
          try simp only [Act.put, List.setIfInBounds_toArray, List.set_cons_zero, List.set_cons_succ]
          refine wpAnyH_take (i := 23) (v := undef) (by (simp only [List.getElem?_toArray, List.getElem?_cons_succ, List.getElem?_cons_zero]; rfl)) (by kernel_rfl) (by kernel_rfl) (by kernel_rfl) (by exact fun _ _ _ h => h) (Or.inr ⟨by rfl, rfl⟩) (by assumption) ?_
          try simp only [Act.put, List.setIfInBounds_toArray, List.set_cons_zero, List.set_cons_succ]
          refine wpAnyH_take (i := 24) (v := undef) (by (simp only [List.getElem?_toArray, List.getElem?_cons_succ, List.getElem?_cons_zero]; rfl)) (by kernel_rfl) (by kernel_rfl) (by kernel_rfl) (by exact fun _ _ _ h => h) (Or.inr ⟨by rfl, rfl⟩) (by assumption) ?_
          try simp only [Act.put, List.setIfInBounds_toArray, List.set_cons_zero, List.set_cons_succ]
          refine wpAnyH_take (i := 25) (v := undef) (by (simp only [List.getElem?_toArray, List.getElem?_cons_succ, List.getElem?_cons_zero]; rfl)) (by kernel_rfl) (by kernel_rfl) (by kernel_rfl) (by exact fun _ _ _ h => h) (Or.inr ⟨by rfl, rfl⟩) (by assumption) ?_
          try simp only [Act.put, List.setIfInBounds_toArray, List.set_cons_zero, List.set_cons_succ]
          refine wpAnyH_take (i := 26) (v := undef) (by (simp only [List.getElem?_toArray, List.getElem?_cons_succ, List.getElem?_cons_zero]; rfl)) (by kernel_rfl) (by kernel_rfl) (by kernel_rfl) (by exact fun _ _ _ h => h) (Or.inr ⟨by rfl, rfl⟩) (by assumption) ?_
          try simp only [Act.put, List.setIfInBounds_toArray, List.set_cons_zero, List.set_cons_succ]
          refine wpAnyH_take (i := 27) (v := undef) (by (simp only [List.getElem?_toArray, List.getElem?_cons_succ, List.getElem?_cons_zero]; rfl)) (by kernel_rfl) (by kernel_rfl) (by kernel_rfl) (by exact fun _ _ _ h => h) (Or.inr ⟨by rfl, rfl⟩) (by assumption) ?_
          try simp only [Act.put, List.setIfInBounds_toArray, List.set_cons_zero, List.set_cons_succ]
          refine wpAnyH_take (i := 28) (v := ?_) (by (simp only [List.getElem?_toArray, List.getElem?_cons_succ, List.getElem?_cons_zero]; rfl)) (by kernel_rfl) (by kernel_rfl) (by kernel_rfl) (by exact fun _ _ _ h => h) (Or.inl ⟨by rfl, ?_⟩) (by assumption) ?_
          rotate_left
          · (intro wS hS; clear hS; go_simp; try with_reducible rfl)
          try simp only [Act.put, List.setIfInBounds_toArray, List.set_cons_zero, List.set_cons_succ]
          refine wpAnyH_take (i := 29) (v := ?_) (by (simp only [List.getElem?_toArray, List.getElem?_cons_succ, List.getElem?_cons_zero]; rfl)) (by kernel_rfl) (by kernel_rfl) (by kernel_rfl) (by exact fun _ _ _ h => h) (Or.inl ⟨by rfl, ?_⟩) (by assumption) ?_
          rotate_left
          · (intro wS hS; clear hS; go_simp; try with_reducible rfl)
          try simp only [Act.put, List.setIfInBounds_toArray, List.set_cons_zero, List.set_cons_succ]
          refine wpAnyH_take (i := 30) (v := ?_) (by (simp only [List.getElem?_toArray, List.getElem?_cons_succ, List.getElem?_cons_zero]; rfl)) (by kernel_rfl) (by kernel_rfl) (by kernel_rfl) (by exact fun _ _ _ h => h) (Or.inl ⟨by rfl, ?_⟩) (by assumption) ?_
          rotate_left
          · (intro wS hS; clear hS; go_simp; try with_reducible rfl)
          try simp only [Act.put, List.setIfInBounds_toArray, List.set_cons_zero, List.set_cons_succ]
          refine wpAnyH_done (by kernel_rfl) ?_ _
          go_wp2
          go_ret
          exact ⟨ret_bool (by simp), (by repeat (first | exact bw_refl _ | assumption | apply bw_alloc | apply bw_drew | apply bw_drewN | (refine bw_trans ?_ (by assumption)) | (refine bw_set ?_ (by simp only [go_sem]; omega) _)))⟩
        · have hz2 : ((R.length : Int) == 0) = false := by rw [HL.out]; exact beq_eq_false_iff_ne.2 (by omega)
          have hp1 : 0 < l.length := by omega
          have hp2 : 0 < R.length := by rw [HL.out]; exact hp1
          obtain ⟨b1, f1, rfl, hb1, hc1⟩ := i1 hp1
          obtain ⟨b2, f2, rfl, hb2, hc2⟩ := i2 hp2
          have k1 := hc1 0 hp1
          have k2 := hc2 0 hp2
          rw [HF.out hp1] at k2
          clear hc1 hc2 hz
          obtain ⟨y, hy⟩ : ∃ y, l.getD 0 0 = y := ⟨_, rfl⟩
          rw [hy] at k1 k2
          clear hy
          rw [Nat.add_zero] at k1 k2
          go_upto_region 9 with (go_at_call 14; refine (specSeriesValid_any _ _ c1 l _ rfl i1 hlen).mono ?_; rintro e w5 ⟨he, hb⟩; rw [HS.out] at he; subst he; try subst hb)
          refine wp_region_below (by kernel_rfl) (fun wD hHeld => ?_)
          refine wpAnyH_take (i := 0) (v := ?_) (by (simp only [List.getElem?_toArray, List.getElem?_cons_zero]; rfl)) (by kernel_rfl) (by kernel_rfl) (by kernel_rfl) (by exact fun _ _ _ h => h) (Or.inl ⟨by rfl, ?_⟩) (by assumption) ?_
          rotate_left
          · (intro wS hS; clear hS; go_simp; try with_reducible rfl)
          try simp only [Act.put, List.setIfInBounds_toArray, List.set_cons_zero, List.set_cons_succ]
          refine wpAnyH_take (i := 1) (v := ?_) (by (simp only [List.getElem?_toArray, List.getElem?_cons_succ, List.getElem?_cons_zero]; rfl)) (by kernel_rfl) (by kernel_rfl) (by kernel_rfl) (by exact fun _ _ _ h => h) (Or.inl ⟨by rfl, ?_⟩) (by assumption) ?_
          rotate_left
          · (intro wS hS; clear hS; go_simp; try with_reducible rfl)
          try simp only [Act.put, List.setIfInBounds_toArray, List.set_cons_zero, List.set_cons_succ]
          refine wpAnyH_take (i := 2) (v := ?_) (by (simp only [List.getElem?_toArray, List.getElem?_cons_succ, List.getElem?_cons_zero]; rfl)) (by kernel_rfl) (by kernel_rfl) (by kernel_rfl) (by exact fun _ _ _ h => h) (Or.inl ⟨by rfl, ?_⟩) (by assumption) ?_
          rotate_left
          · (intro wS hS; clear hS; go_simp; try with_reducible rfl)
          try simp only [Act.put, List.setIfInBounds_toArray, List.set_cons_zero, List.set_cons_succ]
          refine wpAnyH_take (i := 3) (v := ?_) (by (simp only [List.getElem?_toArray, List.getElem?_cons_succ, List.getElem?_cons_zero]; rfl)) (by kernel_rfl) (by kernel_rfl) (by kernel_rfl) (by exact fun _ _ _ h => h) (Or.inl ⟨by rfl, ?_⟩) (by assumption) ?_
          rotate_left
          · (intro wS hS; clear hS; go_simp; try with_reducible rfl)
          try simp only [Act.put, List.setIfInBounds_toArray, List.set_cons_zero, List.set_cons_succ]
          refine wpAnyH_take (i := 4) (v := ?_) (by (simp only [List.getElem?_toArray, List.getElem?_cons_succ, List.getElem?_cons_zero]; rfl)) (by kernel_rfl) (by kernel_rfl) (by kernel_rfl) (by exact fun _ _ _ h => h) (Or.inl ⟨by rfl, ?_⟩) (by assumption) ?_
          rotate_left
          · (intro wS hS; clear hS; go_simp; try with_reducible rfl)
          try simp only [Act.put, List.setIfInBounds_toArray, List.set_cons_zero, List.set_cons_succ]
          refine wpAnyH_take (i := 5) (v := ?_) (by (simp only [List.getElem?_toArray, List.getElem?_cons_succ, List.getElem?_cons_zero]; rfl)) (by kernel_rfl) (by kernel_rfl) (by kernel_rfl) (by exact fun _ _ _ h => h) (Or.inl ⟨by rfl, ?_⟩) (by assumption) ?_
          rotate_left
          · (intro wS hS; clear hS; go_simp; try with_reducible rfl)
          try simp only [Act.put, List.setIfInBounds_toArray, List.set_cons_zero, List.set_cons_succ]
          refine wpAnyH_take (i := 6) (v := ?_) (by (simp only [List.getElem?_toArray, List.getElem?_cons_succ, List.getElem?_cons_zero]; rfl)) (by kernel_rfl) (by kernel_rfl) (by kernel_rfl) (by exact fun _ _ _ h => h) (Or.inl ⟨by rfl, ?_⟩) (by assumption) ?_
          rotate_left
          · (intro wS hS; clear hS; go_simp; try with_reducible rfl)
          try simp only [Act.put, List.setIfInBounds_toArray, List.set_cons_zero, List.set_cons_succ]
          refine wpAnyH_take (i := 7) (v := ?_) (by (simp only [List.getElem?_toArray, List.getElem?_cons_succ, List.getElem?_cons_zero]; rfl)) (by kernel_rfl) (by kernel_rfl) (by kernel_rfl) (by exact fun _ _ _ h => h) (Or.inl ⟨by rfl, ?_⟩) (by assumption) ?_
          rotate_left
          · (intro wS hS; clear hS; go_simp; try with_reducible rfl)
          try simp only [Act.put, List.setIfInBounds_toArray, List.set_cons_zero, List.set_cons_succ]
          refine wpAnyH_ready (rs := [8]) (by kernel_rfl) (by simp) ?_
          refine AllReadyH.cons (by (simp only [List.getElem?_toArray, List.getElem?_cons_succ, List.getElem?_cons_zero]; rfl)) (fun K hK => ?_) AllReadyH.nil
          go_simp
          ((first | (go_at_call 33; refine (inside_any _ _ _ _ _ _ R l _ rfl rfl (i2.up hHeld) (i1.up hHeld) hRl hlen HK.out.hull).mono ?_; rintro e w7 ⟨rfl, rfl⟩) | (go_at_call 25; refine (implSmoothFilter_any _ _ c1 l 0 _ rfl (i1.up hHeld) hlen).mono ?_; rintro e w8 hq; rw [HE.out] at hq; obtain ⟨⟨A8, c8, rfl, o8⟩, b8⟩ := hq) | (go_at_call 31; refine (sameInts_any A8 _ _ _ _ _ l l _ rfl rfl o8.ints (i1.up hHeld) hlen hlen).mono ?_; rintro e w9 ⟨he, b9⟩; rw [eqIs_same] at he; subst he)))
          (try go_wp2_with fail)
          refine hK.out _ _ (by repeat (first | exact bw_refl _ | assumption | apply bw_alloc | apply bw_drew | apply bw_drewN | (refine bw_trans ?_ (by assumption)) | (refine bw_set ?_ (by simp only [go_sem]; omega) _))) (fun hHeld => ?_)
          clear hK K
          try simp only [Act.put, List.setIfInBounds_toArray, List.set_cons_zero, List.set_cons_succ]
          refine wpAnyH_take (i := 9) (v := ?_) (by (simp only [List.getElem?_toArray, List.getElem?_cons_succ, List.getElem?_cons_zero]; rfl)) (by kernel_rfl) (by kernel_rfl) (by kernel_rfl) (by exact fun _ _ _ h => h) (Or.inl ⟨by rfl, ?_⟩) (by assumption) ?_
          rotate_left
          · (intro wS hS; clear hS; go_simp; try with_reducible rfl)
          try simp only [Act.put, List.setIfInBounds_toArray, List.set_cons_zero, List.set_cons_succ]
          refine wpAnyH_take (i := 10) (v := ?_) (by (simp only [List.getElem?_toArray, List.getElem?_cons_succ, List.getElem?_cons_zero]; rfl)) (by kernel_rfl) (by kernel_rfl) (by kernel_rfl) (by exact fun _ _ _ h => h) (Or.inl ⟨by rfl, ?_⟩) (by assumption) ?_
          rotate_left
          · (intro wS hS; clear hS; go_simp; try with_reducible rfl)
          try simp only [Act.put, List.setIfInBounds_toArray, List.set_cons_zero, List.set_cons_succ]
          refine wpAnyH_take (i := 11) (v := ?_) (by (simp only [List.getElem?_toArray, List.getElem?_cons_succ, List.getElem?_cons_zero]; rfl)) (by kernel_rfl) (by kernel_rfl) (by kernel_rfl) (by exact fun _ _ _ h => h) (Or.inl ⟨by rfl, ?_⟩) (by assumption) ?_
          rotate_left
          · (intro wS hS; clear hS; go_simp; try with_reducible rfl)
          try simp only [Act.put, List.setIfInBounds_toArray, List.set_cons_zero, List.set_cons_succ]
          refine wpAnyH_take (i := 13) (v := ?_) (by (simp only [List.getElem?_toArray, List.getElem?_cons_succ, List.getElem?_cons_zero]; rfl)) (by kernel_rfl) (by kernel_rfl) (by kernel_rfl) (by exact fun _ _ _ h => h) (Or.inl ⟨by rfl, ?_⟩) (by assumption) ?_
          rotate_left
          · (intro wS hS; clear hS; go_simp; try with_reducible rfl)
          try simp only [Act.put, List.setIfInBounds_toArray, List.set_cons_zero, List.set_cons_succ]
          refine wpAnyH_ready (rs := [12]) (by kernel_rfl) (by simp) ?_
          refine AllReadyH.cons (by (simp only [List.getElem?_toArray, List.getElem?_cons_succ, List.getElem?_cons_zero]; rfl)) (fun K hK => ?_) AllReadyH.nil
          go_simp
          ((first | (go_at_call 33; refine (inside_any _ _ _ _ _ _ R l _ rfl rfl (i2.up hHeld) (i1.up hHeld) hRl hlen HK.out.hull).mono ?_; rintro e w7 ⟨rfl, rfl⟩) | (go_at_call 25; refine (implSmoothFilter_any _ _ c1 l 0 _ rfl (i1.up hHeld) hlen).mono ?_; rintro e w8 hq; rw [HE.out] at hq; obtain ⟨⟨A8, c8, rfl, o8⟩, b8⟩ := hq) | (go_at_call 31; refine (sameInts_any A8 _ _ _ _ _ l l _ rfl rfl o8.ints (i1.up hHeld) hlen hlen).mono ?_; rintro e w9 ⟨he, b9⟩; rw [eqIs_same] at he; subst he)))
          (try go_wp2_with fail)
          refine hK.out _ _ (by repeat (first | exact bw_refl _ | assumption | apply bw_alloc | apply bw_drew | apply bw_drewN | (refine bw_trans ?_ (by assumption)) | (refine bw_set ?_ (by simp only [go_sem]; omega) _))) (fun hHeld => ?_)
          clear hK K
          try simp only [Act.put, List.setIfInBounds_toArray, List.set_cons_zero, List.set_cons_succ]
          refine wpAnyH_ready (rs := [14]) (by kernel_rfl) (by simp) ?_
          refine AllReadyH.cons (by (simp only [List.getElem?_toArray, List.getElem?_cons_succ, List.getElem?_cons_zero]; rfl)) (fun K hK => ?_) AllReadyH.nil
          go_simp
          ((first | (go_at_call 33; refine (inside_any _ _ _ _ _ _ R l _ rfl rfl (i2.up hHeld) (i1.up hHeld) hRl hlen HK.out.hull).mono ?_; rintro e w7 ⟨rfl, rfl⟩) | (go_at_call 25; refine (implSmoothFilter_any _ _ c1 l 0 _ rfl (i1.up hHeld) hlen).mono ?_; rintro e w8 hq; rw [HE.out] at hq; obtain ⟨⟨A8, c8, rfl, o8⟩, b8⟩ := hq) | (go_at_call 31; refine (sameInts_any A8 _ _ _ _ _ l l _ rfl rfl o8.ints (i1.up hHeld) hlen hlen).mono ?_; rintro e w9 ⟨he, b9⟩; rw [eqIs_same] at he; subst he)))
          (try go_wp2_with fail)
          refine hK.out _ _ (by repeat (first | exact bw_refl _ | assumption | apply bw_alloc | apply bw_drew | apply bw_drewN | (refine bw_trans ?_ (by assumption)) | (refine bw_set ?_ (by simp only [go_sem]; omega) _))) (fun hHeld => ?_)
          clear hK K
          try simp only [Act.put, List.setIfInBounds_toArray, List.set_cons_zero, List.set_cons_succ]
          refine wpAnyH_take (i := 15) (v := ?_) (by (simp only [List.getElem?_toArray, List.getElem?_cons_succ, List.getElem?_cons_zero]; rfl)) (by kernel_rfl) (by kernel_rfl) (by kernel_rfl) (by exact fun _ _ _ h => h) (Or.inl ⟨by rfl, ?_⟩) (by assumption) ?_
          rotate_left
          · (intro wS hS; clear hS; go_simp; try with_reducible rfl)
          try simp only [Act.put, List.setIfInBounds_toArray, List.set_cons_zero, List.set_cons_succ]
          refine wpAnyH_take (i := 16) (v := ?_) (by (simp only [List.getElem?_toArray, List.getElem?_cons_succ, List.getElem?_cons_zero]; rfl)) (by kernel_rfl) (by kernel_rfl) (by kernel_rfl) (by exact fun _ _ _ h => h) (Or.inl ⟨by rfl, ?_⟩) (by assumption) ?_
          rotate_left
          · (intro wS hS; clear hS; go_simp; try with_reducible rfl)
          try simp only [Act.put, List.setIfInBounds_toArray, List.set_cons_zero, List.set_cons_succ]
          refine wpAnyH_take (i := 17) (v := ?_) (by (simp only [List.getElem?_toArray, List.getElem?_cons_succ, List.getElem?_cons_zero]; rfl)) (by kernel_rfl) (by kernel_rfl) (by kernel_rfl) (by exact fun _ _ _ h => h) (Or.inl ⟨by rfl, ?_⟩) (by assumption) ?_
          rotate_left
          · (intro wS hS; clear hS; go_simp; try with_reducible rfl)
          try simp only [Act.put, List.setIfInBounds_toArray, List.set_cons_zero, List.set_cons_succ]
          refine wpAnyH_take (i := 18) (v := ?_) (by (simp only [List.getElem?_toArray, List.getElem?_cons_succ, List.getElem?_cons_zero]; rfl)) (by kernel_rfl) (by kernel_rfl) (by kernel_rfl) (by exact fun _ _ _ h => h) (Or.inl ⟨by rfl, ?_⟩) (by assumption) ?_
          rotate_left
          · (intro wS hS; clear hS; go_simp; try with_reducible rfl)
          try simp only [Act.put, List.setIfInBounds_toArray, List.set_cons_zero, List.set_cons_succ]
          refine wpAnyH_take (i := 19) (v := ?_) (by (simp only [List.getElem?_toArray, List.getElem?_cons_succ, List.getElem?_cons_zero]; rfl)) (by kernel_rfl) (by kernel_rfl) (by kernel_rfl) (by exact fun _ _ _ h => h) (Or.inl ⟨by rfl, ?_⟩) (by assumption) ?_
          rotate_left
          · (intro wS hS; clear hS; go_simp; try with_reducible rfl)
          try simp only [Act.put, List.setIfInBounds_toArray, List.set_cons_zero, List.set_cons_succ]
          refine wpAnyH_take (i := 20) (v := ?_) (by (simp only [List.getElem?_toArray, List.getElem?_cons_succ, List.getElem?_cons_zero]; rfl)) (by kernel_rfl) (by kernel_rfl) (by kernel_rfl) (by exact fun _ _ _ h => h) (Or.inl ⟨by rfl, ?_⟩) (by assumption) ?_
          rotate_left
          · (intro wS hS; clear hS; go_simp; try with_reducible rfl)
          try simp only [Act.put, List.setIfInBounds_toArray, List.set_cons_zero, List.set_cons_succ]
          refine wpAnyH_take (i := 21) (v := ?_) (by (simp only [List.getElem?_toArray, List.getElem?_cons_succ, List.getElem?_cons_zero]; rfl)) (by kernel_rfl) (by kernel_rfl) (by kernel_rfl) (by exact fun _ _ _ h => h) (Or.inl ⟨by rfl, ?_⟩) (by assumption) ?_
          rotate_left
          · (intro wS hS; clear hS; go_simp; try with_reducible rfl)
          try simp only [Act.put, List.setIfInBounds_toArray, List.set_cons_zero, List.set_cons_succ]
          refine wpAnyH_take (i := 22) (v := ?_) (by (simp only [List.getElem?_toArray, List.getElem?_cons_succ, List.getElem?_cons_zero]; rfl)) (by kernel_rfl) (by kernel_rfl) (by kernel_rfl) (by exact fun _ _ _ h => h) (Or.inl ⟨by rfl, ?_⟩) (by assumption) ?_
          rotate_left
          · (intro wS hS; clear hS; go_simp; try with_reducible rfl)
          try simp only [Act.put, List.setIfInBounds_toArray, List.set_cons_zero, List.set_cons_succ]
          refine wpAnyH_take (i := 23) (v := ?_) (by (simp only [List.getElem?_toArray, List.getElem?_cons_succ, List.getElem?_cons_zero]; rfl)) (by kernel_rfl) (by kernel_rfl) (by kernel_rfl) (by exact fun _ _ _ h => h) (Or.inl ⟨by rfl, ?_⟩) (by assumption) ?_
          rotate_left
          · (intro wS hS; have hSc := (bcell hS).1; clear hS; go_simp; try with_reducible rfl)
          try simp only [Act.put, List.setIfInBounds_toArray, List.set_cons_zero, List.set_cons_succ]
          refine wpAnyH_take (i := 24) (v := ?_) (by (simp only [List.getElem?_toArray, List.getElem?_cons_succ, List.getElem?_cons_zero]; rfl)) (by kernel_rfl) (by kernel_rfl) (by kernel_rfl) (by exact fun _ _ _ h => h) (Or.inl ⟨by rfl, ?_⟩) (by assumption) ?_
          rotate_left
          · (intro wS hS; clear hS; go_simp; try with_reducible rfl)
          try simp only [Act.put, List.setIfInBounds_toArray, List.set_cons_zero, List.set_cons_succ]
          refine wpAnyH_take (i := 25) (v := ?_) (by (simp only [List.getElem?_toArray, List.getElem?_cons_succ, List.getElem?_cons_zero]; rfl)) (by kernel_rfl) (by kernel_rfl) (by kernel_rfl) (by exact fun _ _ _ h => h) (Or.inl ⟨by rfl, ?_⟩) (by assumption) ?_
          rotate_left
          · (intro wS hS; clear hS; go_simp; try with_reducible rfl)
          try simp only [Act.put, List.setIfInBounds_toArray, List.set_cons_zero, List.set_cons_succ]
          refine wpAnyH_take (i := 26) (v := ?_) (by (simp only [List.getElem?_toArray, List.getElem?_cons_succ, List.getElem?_cons_zero]; rfl)) (by kernel_rfl) (by kernel_rfl) (by kernel_rfl) (by exact fun _ _ _ h => h) (Or.inl ⟨by rfl, ?_⟩) (by assumption) ?_
          rotate_left
          · (intro wS hS; have hSc := (bcell hS).1; clear hS; go_simp; try with_reducible rfl)
          try simp only [Act.put, List.setIfInBounds_toArray, List.set_cons_zero, List.set_cons_succ]
          refine wpAnyH_take (i := 27) (v := ?_) (by (simp only [List.getElem?_toArray, List.getElem?_cons_succ, List.getElem?_cons_zero]; rfl)) (by kernel_rfl) (by kernel_rfl) (by kernel_rfl) (by exact fun _ _ _ h => h) (Or.inl ⟨by rfl, ?_⟩) (by assumption) ?_
          rotate_left
          · (intro wS hS; clear hS; go_simp; try with_reducible rfl)
          try simp only [Act.put, List.setIfInBounds_toArray, List.set_cons_zero, List.set_cons_succ]
          refine wpAnyH_take (i := 28) (v := ?_) (by (simp only [List.getElem?_toArray, List.getElem?_cons_succ, List.getElem?_cons_zero]; rfl)) (by kernel_rfl) (by kernel_rfl) (by kernel_rfl) (by exact fun _ _ _ h => h) (Or.inl ⟨by rfl, ?_⟩) (by assumption) ?_
          rotate_left
          · (intro wS hS; clear hS; go_simp; try with_reducible rfl)
          try simp only [Act.put, List.setIfInBounds_toArray, List.set_cons_zero, List.set_cons_succ]
          refine wpAnyH_take (i := 29) (v := ?_) (by (simp only [List.getElem?_toArray, List.getElem?_cons_succ, List.getElem?_cons_zero]; rfl)) (by kernel_rfl) (by kernel_rfl) (by kernel_rfl) (by exact fun _ _ _ h => h) (Or.inl ⟨by rfl, ?_⟩) (by assumption) ?_
          rotate_left
          · (intro wS hS; clear hS; go_simp; try with_reducible rfl)
          try simp only [Act.put, List.setIfInBounds_toArray, List.set_cons_zero, List.set_cons_succ]
          refine wpAnyH_take (i := 30) (v := ?_) (by (simp only [List.getElem?_toArray, List.getElem?_cons_succ, List.getElem?_cons_zero]; rfl)) (by kernel_rfl) (by kernel_rfl) (by kernel_rfl) (by exact fun _ _ _ h => h) (Or.inl ⟨by rfl, ?_⟩) (by assumption) ?_
          rotate_left
          · (intro wS hS; clear hS; go_simp; try with_reducible rfl)
          try simp only [Act.put, List.setIfInBounds_toArray, List.set_cons_zero, List.set_cons_succ]
          refine wpAnyH_done (by kernel_rfl) ?_ _
          go_wp2
          go_ret
          exact ⟨ret_bool (by simp), (by repeat (first | exact bw_refl _ | assumption | apply bw_alloc | apply bw_drew | apply bw_drewN | (refine bw_trans ?_ (by assumption)) | (refine bw_set ?_ (by simp only [go_sem]; omega) _)))⟩
theorem walk_FnLimitSteps (A : Option Addr) (n c : Nat) (xs : List Int) (w : World) (h : Byts w w.heap.size A xs) (hn : xs.length = n) (hc : n ≤ c) (hm : c ≤ maxLen) :
    Calls Try.prog 11 #[.slice A n c] w fun e w' => e = .returned (.bool true) ∧ Below w.heap.size w w' := by
  by_cases hbig : 1048576 < n
  · unfold maxLen at hm
    clear hn
    go_enter Try.func11, Try.ntmps11
    go_wp2
    go_ret
    exact ⟨rfl, (by repeat (first | exact bw_refl _ | assumption | apply bw_alloc | apply bw_drew | apply bw_drewN | (refine bw_trans ?_ (by assumption)) | (refine bw_set ?_ (by simp only [go_sem]; omega) _)))⟩
  · have HN := Lib.hid hn
    clear hn
    go_enter Try.func11, Try.ntmps11
    go_wp2_with fail
    refine (drawLimitSteps_any A n c xs w w h HN.out hc hm (by omega) (bw_refl w)).mono ?_
    rintro e w1 ⟨A1, c1, l, m, rfl, hl, o1, b1⟩
    have hlen : l.length ≤ 4294967296 := by omega
    have hRl : (limitSteps l m).length ≤ 4294967296 := limitSteps_len l m (by omega)
    have hi := o1.ints
    obtain ⟨R, hR⟩ : ∃ R, limitSteps l m = R := ⟨_, rfl⟩
    have HR := Lib.hid hR
    rw [hR] at hRl
    clear hR
    go_wp2_with fail
    refine (implLimitSteps_any A1 _ c1 l m _ rfl hi hlen).mono ?_
    rintro e w2 hq
    rw [HR.out] at hq
    obtain ⟨⟨A2, c2, rfl, o2⟩, b2⟩ := hq
    have i1 := hi.up b2
    have i2 := o2.ints
    have c2 : Below w.heap.size w w2 := (by repeat (first | exact bw_refl _ | assumption | apply bw_alloc | apply bw_drew | apply bw_drewN | (refine bw_trans ?_ (by assumption)) | (refine bw_set ?_ (by simp only [go_sem]; omega) _)))
    clear hi
    go_wp2_with fail
    refine (specLimitSteps_any A1 _ c1 l m _ rfl i1 hlen).mono ?_
    rintro e w3 hq
    rw [HR.out] at hq
    obtain ⟨⟨A3, c3, rfl, o3⟩, b3⟩ := hq
    have j1 := i1.up b3
    have j2 := i2.up b3
    have j3 := o3.ints
    clear i1 i2
    go_wp2_with fail
    refine (sameInts_any A2 A3 _ _ _ _ R R _ rfl rfl j2 j3 hRl hRl).mono ?_
    rintro e w4 ⟨he, b4⟩
    rw [eqIs_same] at he
    subst he
    have i1 := j1.up b4
    have i2 := j2.up b4
    have d4 : Below w.heap.size w w4 := (by repeat (first | exact bw_refl _ | assumption | apply bw_alloc | apply bw_drew | apply bw_drewN | (refine bw_trans ?_ (by assumption)) | (refine bw_set ?_ (by simp only [go_sem]; omega) _)))
    clear j1 j2 j3 b1 b2 b3 b4 c2 o1 o2 o3
    cases hs : seriesB l
    · have hrl : R = [] := by rw [← HR.out]; exact limit_no l m (.inl hs)
      subst hrl
      have HS := Lib.hid hs
      clear hs HR
      go_wp2_with (first
        | (go_at_call 14; refine (specSeriesValid_any A1 _ c1 l _ rfl i1 hlen).mono ?_; rintro e w5 ⟨he, hb⟩; rw [HS.out] at he; subst he; try subst hb)
        | (go_at_call 29; refine (alive_any _).mono ?_; rintro e w6 ⟨rfl, rfl⟩))
      go_ret
      exact ⟨ret_bool (by simp), (by repeat (first | exact bw_refl _ | assumption | apply bw_alloc | apply bw_drew | apply bw_drewN | (refine bw_trans ?_ (by assumption)) | (refine bw_set ?_ (by simp only [go_sem]; omega) _)))⟩
    · have HS := Lib.hid hs
      clear hs
      cases hin : inB m 0 1000000
      · have hrl : R = [] := by rw [← HR.out]; exact limit_no l m (.inr hin)
        subst hrl
        have hmm : m < 0 ∨ 1000000 < m := by have := (inB_no _ _ _).1 hin; omega
        clear hin HR
        rcases hmm with hmm | hmm
        all_goals
          go_wp2_with (first
            | (go_at_call 14; refine (specSeriesValid_any A1 _ c1 l _ rfl i1 hlen).mono ?_; rintro e w5 ⟨he, hb⟩; rw [HS.out] at he; subst he; try subst hb)
            | (go_at_call 29; refine (alive_any _).mono ?_; rintro e w6 ⟨rfl, rfl⟩))
          go_ret
          exact ⟨ret_bool (by simp), (by repeat (first | exact bw_refl _ | assumption | apply bw_alloc | apply bw_drew | apply bw_drewN | (refine bw_trans ?_ (by assumption)) | (refine bw_set ?_ (by simp only [go_sem]; omega) _)))⟩
      · obtain ⟨m0, m1⟩ := (inB_iff _ _ _).1 hin
        have hok := limit_ok l m HS.out hin
        rw [HR.out] at hok
        have hl1 : ((R.length : Int) == (l.length : Int)) = true := by rw [hok.len]; simp
        have hr60 : R.length ≤ 60 := by rw [hok.len]; exact hok.short
        have HK := Lib.hid hok
        clear hin hok
        go_wp2_with (first
          | (go_at_call 14; refine (specSeriesValid_any A1 _ c1 l _ rfl i1 hlen).mono ?_; rintro e w5 ⟨he, hb⟩; rw [HS.out] at he; subst he; try subst hb)
          | fail)
        go_loopw [6] (fun i wr => ∃ k : Nat, i = .int .i64 ((k : Int) + 1) ∧ k ≤ 60 ∧ Below w4.heap.size w4 wr) (fun i _ => R.length - (intOf i).toNat)
        case atStart => exact ⟨0, rfl, by omega, bw_refl _⟩
        case round =>
          obtain ⟨j, rfl, hj, hb⟩ := hrel
          by_cases hlt : j + 1 < R.length
          · obtain ⟨g, f, rfl, hg, hc⟩ := i2 (by omega)
            have c1 : wr.cell? ⟨g, f + (j + 1), none⟩ = some (.int .i64 (R.getD (j + 1) 0)) := (hb.cell (p := ⟨g, f + (j + 1), none⟩) hg).trans (hc (j + 1) hlt)
            have c2 : wr.cell? ⟨g, f + j, none⟩ = some (.int .i64 (R.getD j 0)) := (hb.cell (p := ⟨g, f + j, none⟩) hg).trans (hc j (by omega))
            clear hc
            obtain ⟨x0, x1⟩ := HK.out.bd (j + 1) hlt
            obtain ⟨y0, y1⟩ := HK.out.bd j (by omega)
            obtain ⟨s0, s1⟩ := HK.out.step j hlt
            obtain ⟨x, hx⟩ : ∃ x, R.getD (j + 1) 0 = x := ⟨_, rfl⟩
            obtain ⟨y, hy⟩ : ∃ y, R.getD j 0 = y := ⟨_, rfl⟩
            rw [hx] at c1 x0 x1 s0 s1
            rw [hy] at c2 y0 y1 s0 s1
            clear hx hy
            have d1 : decide (m < x - y) = false := decide_eq_false (by omega)
            have d2 : decide (m < y - x) = false := decide_eq_false (by omega)
            have e1 : IntKind.i64.wrap (j : Int) = j := IntWalk.i64_in _ (by omega)
            have e2 : IntKind.i64.wrap (x - y) = x - y := IntWalk.i64_in _ (by omega)
            have e3 : IntKind.i64.wrap (y - x) = y - x := IntWalk.i64_in _ (by omega)
            have i4 : (j : Int) + 1 < R.length := by omega
            have i5 : (0 : Int) ≤ (j : Int) + 1 := by omega
            have i6 : (j : Int) < R.length := by omega
            go_wp2
            go_quiet (fail)
            clear e1 e2 e3
            go_wp2
            go_roundw
            case rel => exact ⟨j + 1, by go_num, by omega, (by repeat (first | exact bw_refl _ | assumption | apply bw_alloc | apply bw_drew | apply bw_drewN | (refine bw_trans ?_ (by assumption)) | (refine bw_set ?_ (by simp only [go_sem]; omega) _)))⟩
            case measure => simp [intOf] <;> omega
          · go_wp2_with fail
            refine (inside_any A2 A1 _ _ _ _ R l _ rfl rfl (i2.up hb) (i1.up hb) hRl hlen HK.out.hull).mono ?_
            rintro e w7 ⟨rfl, rfl⟩
            go_wp2_with fail
            refine (implLimitSteps_any A2 _ c2 R m _ rfl (i2.up hb) hRl).mono ?_
            rintro e w8 hq
            rw [HK.out.idem] at hq
            obtain ⟨⟨A8, c8, rfl, o8⟩, b8⟩ := hq
            go_wp2_with fail
            refine (sameInts_any A8 A2 _ _ _ _ R R _ rfl rfl o8.ints ((i2.up hb).up b8) hRl hRl).mono ?_
            rintro e w9 ⟨he, b9⟩
            rw [eqIs_same] at he
            subst he
            go_wp2
            go_ret
            exact ⟨ret_bool (by simp), (by repeat (first | exact bw_refl _ | assumption | apply bw_alloc | apply bw_drew | apply bw_drewN | (refine bw_trans ?_ (by assumption)) | (refine bw_set ?_ (by simp only [go_sem]; omega) _)))⟩
end Go.Proofs.Ytpmojbdoiahodaa
