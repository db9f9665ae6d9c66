/- The walks of the laws SumProduct and SumOrder; no condition. -/
import Derived.Test.YtmpcoljollkfjaaSDraw3
import Derived.Test.YtmpcoljollkfjaaSLaws
import Derived.Test.YtmpcoljollkfjaaSums2
namespace Go.Proofs.Ytmpcoljollkfjaa
open Go.RowKit
set_option linter.unusedVariables false
set_option linter.unusedSimpArgs false
set_option maxHeartbeats 2000000

theorem prod_comm (W P v : Int) (l : Bool) (a b : Int) : prodV W P v b a = prodV W P v a b ∧ prodL W P v l b a = prodL W P v l a b := by
  unfold prodV prodL
  rw [Bool.and_comm (fitsB W P b), Int.mul_comm b a]; exact ⟨rfl, rfl⟩
theorem prod_ok {W P v : Int} {l : Bool} {a b : Int} (ha : fitsB W P a = true) (hb : fitsB W P b = true) : prodV W P v a b = sumV v (a * b) ∧ prodL W P v l a b = sumL v l (a * b) := by
  unfold prodV prodL; rw [ha, hb]; exact ⟨rfl, rfl⟩
theorem prod_no {W P v : Int} {l : Bool} {a b : Int} (h : inB v (-1125899906842624) 1125899906842624 = false ∨ fitsB W P a = false ∨ fitsB W P b = false) : prodV W P v a b = 0 ∧ prodL W P v l a b = false := by
  unfold prodV prodL
  rcases h with h | h | h
  · have hk : okS v (a * b) = false := by unfold okS; rw [h]; rfl
    obtain ⟨e1, e2⟩ := sum_no (l := l) hk
    rw [e1, e2]; simp
  · rw [h]; exact ⟨rfl, rfl⟩
  · rw [h, Bool.and_false]; exact ⟨rfl, rfl⟩
theorem walk_FnSumProduct (A : Option Addr) (n c : Nat) (xs : List Int) (w : World) (h : Byts w w.heap.size A xs) (hn : xs.length = n) (hc : n ≤ c) (hm : c ≤ maxLen) :
    Calls Try.prog 13 #[.slice A n c] w fun e w' => e = .returned (.bool true) ∧ Below w.heap.size w w' := by
  by_cases hbig : 1048576 < n
  · unfold maxLen at hm
    clear hn
    go_enter Try.func13, Try.ntmps13
    go_wp2
    go_ret
    exact ⟨rfl, (by repeat (first | exact bw_refl _ | assumption | apply bw_alloc | apply bw_drew | apply bw_drewN | (refine bw_trans ?_ (by assumption)) | (refine bw_set ?_ (by simp only [go_sem]; omega) _)))⟩
  · have HN := Lib.hid hn
    clear hn
    go_enter Try.func13, Try.ntmps13
    go_wp2_with fail
    refine (drawSumProduct_any A n c xs w w h HN.out hc hm (by omega) (bw_refl w)).mono ?_
    rintro e w1 ⟨v, l, W, P, a, b, rfl, hb1⟩
    obtain ⟨y, hy⟩ : ∃ y, prodV W P v a b = y := ⟨_, rfl⟩
    obtain ⟨q, hq⟩ : ∃ q, prodL W P v l a b = q := ⟨_, rfl⟩
    have HY := Lib.hid hy
    have HQ := Lib.hid hq
    clear hy hq
    have l3 := Blk.alloc (Blk.new w1 26 #[.int .i64 v, .bool l]) (.cells #[.int .i64 W, .int .i64 P] 40)
    have l4 := Blk.new (w1.alloc (.cells #[.int .i64 v, .bool l] 26)) 40 #[.int .i64 W, .int .i64 P]
    rw [World.size_alloc] at l4
    have hb2 := bw_alloc (bw_alloc hb1 (.cells #[.int .i64 v, .bool l] 26)) (.cells #[.int .i64 W, .int .i64 P] 40)
    clear hb1
    go_upto_region 4 with fail
    go_cut [3, 4, 7] (fun s t u wx => ∃ g3 g4 g7 : Nat, s = .pointer (some ⟨g3, 0, none⟩) ∧ t = .pointer (some ⟨g4, 0, none⟩) ∧ u = .pointer (some ⟨g7, 0, none⟩) ∧ Blk wx g3 26 #[.int .i64 v, .bool l] ∧ Blk wx g4 40 #[.int .i64 W, .int .i64 P] ∧ Blk wx g7 26 #[.int .i64 y, .bool q] ∧ Below w.heap.size w wx)
    case first =>
      go_wp2_with fail
      refine (implSumProduct_any v l W P a b _).mono ?_
      rintro e w2 ⟨he, hb⟩
      rw [HY.out, HQ.out] at he
      subst he
      replace l3 := heap_keep hb l3
      replace l4 := heap_keep hb l4
      have hb3 := bw_trans hb2 hb
      go_wp2
      go_meet
      exact ⟨_, _, _, rfl, rfl, rfl, Blk.alloc l3 _, Blk.alloc l4 _, Blk.new _ _ _, bw_alloc hb3 _⟩
    case rest =>
      obtain ⟨g3, g4, g7, rfl, rfl, rfl, l3, l4, l7, hbc⟩ := hcut
      obtain ⟨n0, n1, m0, m1⟩ := cell2 l3
      obtain ⟨s0, s1, p0, p1⟩ := fcell2 l4
      obtain ⟨t0, t1, f0, f1⟩ := cell2 l7
      have z3 := l3.lt
      have z4 := l4.lt
      have z7 := l7.lt
      go_upto_region 5 with fail
      go_cut [38] (fun s wx => s = .bool false ∧ Below wc.heap.size wc wx)
      case first =>
        refine wp_region_below (by kernel_rfl) (fun wD hHeld => ?_)
        refine wpAnyH_take (i := 0) (v := ?_) (by (simp only [List.getElem?_toArray, List.getElem?_cons_zero]; rfl)) (by kernel_rfl) (by kernel_rfl) (by kernel_rfl) (by exact fun _ _ _ h => h) (Or.inl ⟨by rfl, ?_⟩) (by assumption) ?_
        rotate_left
        · (intro wS hS; have hSc := (bcell hS).1; clear hS; go_simp; try with_reducible rfl)
        try simp only [Act.put, List.setIfInBounds_toArray, List.set_cons_zero, List.set_cons_succ]
        refine wpAnyH_take (i := 1) (v := ?_) (by (simp only [List.getElem?_toArray, List.getElem?_cons_succ, List.getElem?_cons_zero]; rfl)) (by kernel_rfl) (by kernel_rfl) (by kernel_rfl) (by exact fun _ _ _ h => h) (Or.inl ⟨by rfl, ?_⟩) (by assumption) ?_
        rotate_left
        · (intro wS hS; have hSc := (bcell hS).1; clear hS; go_simp; try with_reducible rfl)
        try simp only [Act.put, List.setIfInBounds_toArray, List.set_cons_zero, List.set_cons_succ]
        refine wpAnyH_take (i := 2) (v := ?_) (by (simp only [List.getElem?_toArray, List.getElem?_cons_succ, List.getElem?_cons_zero]; rfl)) (by kernel_rfl) (by kernel_rfl) (by kernel_rfl) (by exact fun _ _ _ h => h) (Or.inl ⟨by rfl, ?_⟩) (by assumption) ?_
        rotate_left
        · (intro wS hS; have hSc := (bcell hS).1; clear hS; go_simp; try with_reducible rfl)
        try simp only [Act.put, List.setIfInBounds_toArray, List.set_cons_zero, List.set_cons_succ]
        refine wpAnyH_take (i := 3) (v := ?_) (by (simp only [List.getElem?_toArray, List.getElem?_cons_succ, List.getElem?_cons_zero]; rfl)) (by kernel_rfl) (by kernel_rfl) (by kernel_rfl) (by exact fun _ _ _ h => h) (Or.inl ⟨by rfl, ?_⟩) (by assumption) ?_
        rotate_left
        · (intro wS hS; clear hS; go_simp; try with_reducible rfl)
        try simp only [Act.put, List.setIfInBounds_toArray, List.set_cons_zero, List.set_cons_succ]
        refine wpAnyH_take (i := 4) (v := ?_) (by (simp only [List.getElem?_toArray, List.getElem?_cons_succ, List.getElem?_cons_zero]; rfl)) (by kernel_rfl) (by kernel_rfl) (by kernel_rfl) (by exact fun _ _ _ h => h) (Or.inl ⟨by rfl, ?_⟩) (by assumption) ?_
        rotate_left
        · (intro wS hS; clear hS; go_simp; try with_reducible rfl)
        try simp only [Act.put, List.setIfInBounds_toArray, List.set_cons_zero, List.set_cons_succ]
        refine wpAnyH_ready (rs := [5]) (by kernel_rfl) (by simp) ?_
        refine AllReadyH.cons (by (simp only [List.getElem?_toArray, List.getElem?_cons_succ, List.getElem?_cons_zero]; rfl)) (fun K hK => ?_) AllReadyH.nil
        go_simp
        ((first | (go_at_call 27; refine (specSumProduct_any v l W P a b _).mono ?_; rintro e w1 ⟨he, hb⟩; rw [HY.out, HQ.out] at he; subst he) | (go_at_call 29; refine (implSumProduct_any v l W P b a _).mono ?_; rintro e w1 ⟨he, hb⟩; rw [(prod_comm W P v l a b).1, (prod_comm W P v l a b).2, HY.out, HQ.out] at he; subst he)))
        (try go_wp2_with fail)
        refine hK.out _ _ (by repeat (first | exact bw_refl _ | assumption | apply bw_alloc | apply bw_drew | apply bw_drewN | (refine bw_trans ?_ (by assumption)) | (refine bw_set ?_ (by simp only [go_sem]; omega) _))) (fun hHeld => ?_)
        clear hK K
        try simp only [Act.put, List.setIfInBounds_toArray, List.set_cons_zero, List.set_cons_succ]
        refine wpAnyH_take (i := 6) (v := ?_) (by (simp only [List.getElem?_toArray, List.getElem?_cons_succ, List.getElem?_cons_zero]; rfl)) (by kernel_rfl) (by kernel_rfl) (by kernel_rfl) (by exact fun _ _ _ h => h) (Or.inl ⟨by rfl, ?_⟩) (by assumption) ?_
        rotate_left
        · (intro wS hS; clear hS; go_simp; try with_reducible rfl)
        try simp only [Act.put, List.setIfInBounds_toArray, List.set_cons_zero, List.set_cons_succ]
        refine wpAnyH_take (i := 7) (v := ?_) (by (simp only [List.getElem?_toArray, List.getElem?_cons_succ, List.getElem?_cons_zero]; rfl)) (by kernel_rfl) (by kernel_rfl) (by kernel_rfl) (by exact fun _ _ _ h => h) (Or.inl ⟨by rfl, ?_⟩) (by assumption) ?_
        rotate_left
        · (intro wS hS; clear hS; go_simp; try with_reducible rfl)
        try simp only [Act.put, List.setIfInBounds_toArray, List.set_cons_zero, List.set_cons_succ]
        refine wpAnyH_take (i := 8) (v := ?_) (by (simp only [List.getElem?_toArray, List.getElem?_cons_succ, List.getElem?_cons_zero]; rfl)) (by kernel_rfl) (by kernel_rfl) (by kernel_rfl) (by exact fun _ _ _ h => h) (Or.inl ⟨by rfl, ?_⟩) (by assumption) ?_
        rotate_left
        · (intro wS hS; have hSc := (bcell hS).1; clear hS; go_simp; try with_reducible rfl)
        try simp only [Act.put, List.setIfInBounds_toArray, List.set_cons_zero, List.set_cons_succ]
        refine wpAnyH_take (i := 9) (v := ?_) (by (simp only [List.getElem?_toArray, List.getElem?_cons_succ, List.getElem?_cons_zero]; rfl)) (by kernel_rfl) (by kernel_rfl) (by kernel_rfl) (by exact fun _ _ _ h => h) (Or.inl ⟨by rfl, ?_⟩) (by assumption) ?_
        rotate_left
        · (intro wS hS; have hSc := (bcell hS).1; clear hS; go_simp; try with_reducible rfl)
        try simp only [Act.put, List.setIfInBounds_toArray, List.set_cons_zero, List.set_cons_succ]
        refine wpAnyH_take (i := 10) (v := ?_) (by (simp only [List.getElem?_toArray, List.getElem?_cons_succ, List.getElem?_cons_zero]; rfl)) (by kernel_rfl) (by kernel_rfl) (by kernel_rfl) (by exact fun _ _ _ h => h) (Or.inl ⟨by rfl, ?_⟩) (by assumption) ?_
        rotate_left
        · (intro wS hS; have hSc := (bcell hS).1; clear hS; go_simp; try with_reducible rfl)
        try simp only [Act.put, List.setIfInBounds_toArray, List.set_cons_zero, List.set_cons_succ]
        refine wpAnyH_take (i := 11) (v := ?_) (by (simp only [List.getElem?_toArray, List.getElem?_cons_succ, List.getElem?_cons_zero]; rfl)) (by kernel_rfl) (by kernel_rfl) (by kernel_rfl) (by exact fun _ _ _ h => h) (Or.inl ⟨by rfl, ?_⟩) (by assumption) ?_
        rotate_left
        · (intro wS hS; clear hS; go_simp; try with_reducible rfl)
        try simp only [Act.put, List.setIfInBounds_toArray, List.set_cons_zero, List.set_cons_succ]
        refine wpAnyH_take (i := 12) (v := ?_) (by (simp only [List.getElem?_toArray, List.getElem?_cons_succ, List.getElem?_cons_zero]; rfl)) (by kernel_rfl) (by kernel_rfl) (by kernel_rfl) (by exact fun _ _ _ h => h) (Or.inl ⟨by rfl, ?_⟩) (by assumption) ?_
        rotate_left
        · (intro wS hS; clear hS; go_simp; try with_reducible rfl)
        try simp only [Act.put, List.setIfInBounds_toArray, List.set_cons_zero, List.set_cons_succ]
        refine wpAnyH_ready (rs := [13]) (by kernel_rfl) (by simp) ?_
        refine AllReadyH.cons (by (simp only [List.getElem?_toArray, List.getElem?_cons_succ, List.getElem?_cons_zero]; rfl)) (fun K hK => ?_) AllReadyH.nil
        go_simp
        ((first | (go_at_call 27; refine (specSumProduct_any v l W P a b _).mono ?_; rintro e w1 ⟨he, hb⟩; rw [HY.out, HQ.out] at he; subst he) | (go_at_call 29; refine (implSumProduct_any v l W P b a _).mono ?_; rintro e w1 ⟨he, hb⟩; rw [(prod_comm W P v l a b).1, (prod_comm W P v l a b).2, HY.out, HQ.out] at he; subst he)))
        (try go_wp2_with fail)
        refine hK.out _ _ (by repeat (first | exact bw_refl _ | assumption | apply bw_alloc | apply bw_drew | apply bw_drewN | (refine bw_trans ?_ (by assumption)) | (refine bw_set ?_ (by simp only [go_sem]; omega) _))) (fun hHeld => ?_)
        clear hK K
        try simp only [Act.put, List.setIfInBounds_toArray, List.set_cons_zero, List.set_cons_succ]
        refine wpAnyH_take (i := 14) (v := ?_) (by (simp only [List.getElem?_toArray, List.getElem?_cons_succ, List.getElem?_cons_zero]; rfl)) (by kernel_rfl) (by kernel_rfl) (by kernel_rfl) (by exact fun _ _ _ h => h) (Or.inl ⟨by rfl, ?_⟩) (by assumption) ?_
        rotate_left
        · (intro wS hS; clear hS; go_simp; try with_reducible rfl)
        try simp only [Act.put, List.setIfInBounds_toArray, List.set_cons_zero, List.set_cons_succ]
        refine wpAnyH_take (i := 15) (v := ?_) (by (simp only [List.getElem?_toArray, List.getElem?_cons_succ, List.getElem?_cons_zero]; rfl)) (by kernel_rfl) (by kernel_rfl) (by kernel_rfl) (by exact fun _ _ _ h => h) (Or.inl ⟨by rfl, ?_⟩) (by assumption) ?_
        rotate_left
        · (intro wS hS; clear hS; go_simp; try with_reducible rfl)
        try simp only [Act.put, List.setIfInBounds_toArray, List.set_cons_zero, List.set_cons_succ]
        refine wpAnyH_done (by kernel_rfl) ?_ _
        go_wp2_with fail
        go_meet
        exact ⟨by simp, hHeld⟩
      case rest =>
        obtain ⟨rfl, hbd⟩ := hcut
        replace l3 := l3.kept hbd
        replace l4 := l4.kept hbd
        replace l7 := l7.kept hbd
        have hbc := bw_trans hbc hbd
        clear n0 n1 m0 m1 t0 t1 f0 f1 s0 s1 p0 p1 z3 z4 z7 hbd
        obtain ⟨n0, n1, m0, m1⟩ := cell2 l3
        obtain ⟨s0, s1, p0, p1⟩ := fcell2 l4
        obtain ⟨t0, t1, f0, f1⟩ := cell2 l7
        have z3 := l3.lt
        have z4 := l4.lt
        have z7 := l7.lt
        obtain ⟨o1, ho1⟩ : ∃ o, inB v (-1125899906842624) 1125899906842624 = o := ⟨_, rfl⟩
        obtain ⟨o2, ho2⟩ : ∃ o, fitsB W P a = o := ⟨_, rfl⟩
        obtain ⟨o3, ho3⟩ : ∃ o, fitsB W P b = o := ⟨_, rfl⟩
        have HO1 := Lib.hid ho1
        have HO2 := Lib.hid ho2
        have HO3 := Lib.hid ho3
        clear ho1 ho2 ho3
        by_cases hall : o1 = true ∧ o2 = true ∧ o3 = true
        · obtain ⟨rfl, rfl, rfl⟩ := hall
          obtain ⟨mb0, mb1⟩ := fits_mul W P a b HO2.out HO3.out
          have hp := prod_ok (v := v) (l := l) HO2.out HO3.out
          rw [HY.out, HQ.out] at hp
          have HP := Lib.hid hp
          clear hp
          have ew : IntKind.i64.wrap (a * b) = a * b := IntWalk.i64_in _ (by omega)
          go_upto_region 7 with fail
          go_cut [53] (fun s wx => s = .bool false ∧ Below wc.heap.size wc wx)
          case first =>
            go_wp2_with (first
              | (go_at_call 17; refine (specSumValid_any v l _).mono ?_; rintro e w3 ⟨he, hb⟩; rw [HO1.out] at he; subst he; have hcc := bcell hb; obtain ⟨hc, hf⟩ := hcc; have hz := bsize hb)
              | (go_at_call 38; refine (specStoredFits_any W P _ _).mono ?_; rintro e w4 ⟨he, hb⟩; (first | rw [HO2.out] at he | rw [HO3.out] at he); subst he; (first | (have hq := bcomp hc hf hz hb; clear hc hf hz; obtain ⟨hc, hf, hz⟩ := hq) | (obtain ⟨hc, hf⟩ := bcell hb; have hz := bsize hb))))
            go_meet
            exact ⟨by simp, (by repeat (first | exact bw_refl _ | assumption | apply bw_alloc | apply bw_drew | apply bw_drewN | (refine bw_trans ?_ (by assumption)) | (refine bw_set ?_ (by simp only [go_sem]; omega) _)))⟩
          case rest =>
            obtain ⟨rfl, hbd⟩ := hcut
            replace l3 := l3.kept hbd
            replace l4 := l4.kept hbd
            replace l7 := l7.kept hbd
            have hbc := bw_trans hbc hbd
            clear n0 n1 m0 m1 t0 t1 f0 f1 s0 s1 p0 p1 z3 z4 z7 hbd
            obtain ⟨n0, n1, m0, m1⟩ := cell2 l3
            obtain ⟨t0, t1, f0, f1⟩ := cell2 l7
            have z3 := l3.lt
            have z7 := l7.lt
            go_upto_region 9 with fail
            refine wp_region_below (by kernel_rfl) (fun wD hHeld => ?_)
            refine wpAnyH_take (i := 0) (v := ?_) (by (simp only [List.getElem?_toArray, List.getElem?_cons_zero]; rfl)) (by kernel_rfl) (by kernel_rfl) (by kernel_rfl) (by exact fun _ _ _ h => h) (Or.inl ⟨by rfl, ?_⟩) (by assumption) ?_
            rotate_left
            · (intro wS hS; have hSc := (bcell hS).1; clear hS; go_simp; try with_reducible rfl)
            try simp only [Act.put, List.setIfInBounds_toArray, List.set_cons_zero, List.set_cons_succ]
            refine wpAnyH_take (i := 1) (v := ?_) (by (simp only [List.getElem?_toArray, List.getElem?_cons_succ, List.getElem?_cons_zero]; rfl)) (by kernel_rfl) (by kernel_rfl) (by kernel_rfl) (by exact fun _ _ _ h => h) (Or.inl ⟨by rfl, ?_⟩) (by assumption) ?_
            rotate_left
            · (intro wS hS; have hSc := (bcell hS).1; clear hS; go_simp; try with_reducible rfl)
            try simp only [Act.put, List.setIfInBounds_toArray, List.set_cons_zero, List.set_cons_succ]
            refine wpAnyH_take (i := 2) (v := ?_) (by (simp only [List.getElem?_toArray, List.getElem?_cons_succ, List.getElem?_cons_zero]; rfl)) (by kernel_rfl) (by kernel_rfl) (by kernel_rfl) (by exact fun _ _ _ h => h) (Or.inl ⟨by rfl, ?_⟩) (by assumption) ?_
            rotate_left
            · (intro wS hS; clear hS; go_simp; try with_reducible rfl)
            try simp only [Act.put, List.setIfInBounds_toArray, List.set_cons_zero, List.set_cons_succ]
            refine wpAnyH_take (i := 3) (v := ?_) (by (simp only [List.getElem?_toArray, List.getElem?_cons_succ, List.getElem?_cons_zero]; rfl)) (by kernel_rfl) (by kernel_rfl) (by kernel_rfl) (by exact fun _ _ _ h => h) (Or.inl ⟨by rfl, ?_⟩) (by assumption) ?_
            rotate_left
            · (intro wS hS; clear hS; go_simp; try with_reducible rfl)
            try simp only [Act.put, List.setIfInBounds_toArray, List.set_cons_zero, List.set_cons_succ]
            refine wpAnyH_take (i := 4) (v := ?_) (by (simp only [List.getElem?_toArray, List.getElem?_cons_succ, List.getElem?_cons_zero]; rfl)) (by kernel_rfl) (by kernel_rfl) (by kernel_rfl) (by exact fun _ _ _ h => h) (Or.inl ⟨by rfl, ?_⟩) (by assumption) ?_
            rotate_left
            · (intro wS hS; clear hS; go_simp; try with_reducible rfl)
            try simp only [Act.put, List.setIfInBounds_toArray, List.set_cons_zero, List.set_cons_succ]
            refine wpAnyH_ready (rs := [5]) (by kernel_rfl) (by simp) ?_
            refine AllReadyH.cons (by (simp only [List.getElem?_toArray, List.getElem?_cons_succ, List.getElem?_cons_zero]; rfl)) (fun K hK => ?_) AllReadyH.nil
            go_simp
            ((go_at_call 21; refine (implSumAdd_any _ _ _ _).mono ?_; rintro e w1 ⟨he, hb⟩; rw [← HP.out.1, ← HP.out.2] at he; subst he))
            (try go_wp2_with fail)
            refine hK.out _ _ (by repeat (first | exact bw_refl _ | assumption | apply bw_alloc | apply bw_drew | apply bw_drewN | (refine bw_trans ?_ (by assumption)) | (refine bw_set ?_ (by simp only [go_sem]; omega) _))) (fun hHeld => ?_)
            clear hK K
            try simp only [Act.put, List.setIfInBounds_toArray, List.set_cons_zero, List.set_cons_succ]
            refine wpAnyH_take (i := 6) (v := ?_) (by (simp only [List.getElem?_toArray, List.getElem?_cons_succ, List.getElem?_cons_zero]; rfl)) (by kernel_rfl) (by kernel_rfl) (by kernel_rfl) (by exact fun _ _ _ h => h) (Or.inl ⟨by rfl, ?_⟩) (by assumption) ?_
            rotate_left
            · (intro wS hS; clear hS; go_simp; try with_reducible rfl)
            try simp only [Act.put, List.setIfInBounds_toArray, List.set_cons_zero, List.set_cons_succ]
            refine wpAnyH_take (i := 7) (v := ?_) (by (simp only [List.getElem?_toArray, List.getElem?_cons_succ, List.getElem?_cons_zero]; rfl)) (by kernel_rfl) (by kernel_rfl) (by kernel_rfl) (by exact fun _ _ _ h => h) (Or.inl ⟨by rfl, ?_⟩) (by assumption) ?_
            rotate_left
            · (intro wS hS; clear hS; go_simp; try with_reducible rfl)
            try simp only [Act.put, List.setIfInBounds_toArray, List.set_cons_zero, List.set_cons_succ]
            refine wpAnyH_done (by kernel_rfl) ?_ _
            go_wp2
            go_ret
            exact ⟨ret_bool (by simp), (by repeat (first | exact bw_refl _ | assumption | apply bw_alloc | apply bw_drew | apply bw_drewN | (refine bw_trans ?_ (by assumption)) | (refine bw_set ?_ (by simp only [go_sem]; omega) _)))⟩
        · have hno : inB v (-1125899906842624) 1125899906842624 = false ∨ fitsB W P a = false ∨ fitsB W P b = false := by
            rw [HO1.out, HO2.out, HO3.out]
            cases o1 <;> cases o2 <;> cases o3 <;> simp_all
          obtain ⟨e1, e2⟩ := prod_no (l := l) hno
          rw [HY.out] at e1
          rw [HQ.out] at e2
          subst e1 e2
          clear hno
          have hkk : o1 = false ∨ (o1 = true ∧ o2 = false) ∨ (o1 = true ∧ o2 = true ∧ o3 = false) := by cases o1 <;> cases o2 <;> cases o3 <;> simp_all
          clear hall
          rcases hkk with rfl | ⟨rfl, rfl⟩ | ⟨rfl, rfl, rfl⟩
          all_goals
            go_wp2_with (first
              | (go_at_call 17; refine (specSumValid_any v l _).mono ?_; rintro e w3 ⟨he, hb⟩; rw [HO1.out] at he; subst he; have hcc := bcell hb; obtain ⟨hc, hf⟩ := hcc; have hz := bsize hb)
              | (go_at_call 38; refine (specStoredFits_any W P _ _).mono ?_; rintro e w4 ⟨he, hb⟩; (first | rw [HO2.out] at he | rw [HO3.out] at he); subst he; (first | (have hq := bcomp hc hf hz hb; clear hc hf hz; obtain ⟨hc, hf, hz⟩ := hq) | (obtain ⟨hc, hf⟩ := bcell hb; have hz := bsize hb)))
              | (go_at_call 33; refine (alive_any _).mono ?_; rintro e w4 ⟨rfl, rfl⟩))
            go_ret
            exact ⟨ret_bool (by simp), (by repeat (first | exact bw_refl _ | assumption | apply bw_alloc | apply bw_drew | apply bw_drewN | (refine bw_trans ?_ (by assumption)) | (refine bw_set ?_ (by simp only [go_sem]; omega) _)))⟩
theorem lost_no {v n : Int} {l : Bool} (h : okS v n = true) (hl : sumL v l n = false) : l = false ∧ sumV v n = v + n := by
  rcases sum_ok (l := l) h with ⟨e1, e2, e3⟩ | ⟨y, e1, e2, e3, e4⟩
  · exact ⟨by rw [← e2]; exact hl, e1⟩
  · rw [hl] at e2; cases e2
theorem lost_bd {W P v : Int} {l : Bool} {a b : Int} (hv : inB v (-1125899906842624) 1125899906842624 = true) (ha : fitsB W P a = true) (hb : fitsB W P b = true) (hl : prodL W P v l a b = false) :
    l = false ∧ prodV W P v a b = v + a * b ∧ inB (prodV W P v a b) (-1125899906842624) 1125899906842624 = true := by
  obtain ⟨mb0, mb1⟩ := fits_mul W P a b ha hb
  obtain ⟨v0, v1⟩ := (inB_iff _ _ _).1 hv
  have hp := prod_ok (v := v) (l := l) ha hb
  rw [hp.2] at hl
  have hk : okS v (a * b) = true := (okS_iff _ _).2 ⟨⟨v0, v1⟩, mb0, mb1⟩
  obtain ⟨e1, e2⟩ := lost_no hk hl
  refine ⟨e1, by rw [hp.1, e2], (inB_iff _ _ _).2 ?_⟩
  rw [hp.1]
  exact sumV_bd v (a * b)
theorem order_same {W P W2 P2 v a b c d : Int} {l : Bool} (hv : inB v (-1125899906842624) 1125899906842624 = true) (ha : fitsB W P a = true) (hb : fitsB W P b = true) (hc : fitsB W2 P2 c = true) (hd : fitsB W2 P2 d = true)
    (hx : prodL W2 P2 (prodV W P v a b) (prodL W P v l a b) c d = false) (hy : prodL W P (prodV W2 P2 v c d) (prodL W2 P2 v l c d) a b = false) :
    prodV W2 P2 (prodV W P v a b) c d = prodV W P (prodV W2 P2 v c d) a b := by
  have hin1 : inB (prodV W P v a b) (-1125899906842624) 1125899906842624 = true := by
    rw [(prod_ok (v := v) (l := l) ha hb).1]; exact (inB_iff _ _ _).2 (sumV_bd _ _)
  have hin2 : inB (prodV W2 P2 v c d) (-1125899906842624) 1125899906842624 = true := by
    rw [(prod_ok (v := v) (l := l) hc hd).1]; exact (inB_iff _ _ _).2 (sumV_bd _ _)
  obtain ⟨e1, e2, _⟩ := lost_bd hin1 hc hd hx
  obtain ⟨f1, f2, _⟩ := lost_bd hin2 ha hb hy
  obtain ⟨_, g2, _⟩ := lost_bd hv ha hb e1
  obtain ⟨_, h2, _⟩ := lost_bd hv hc hd f1
  rw [e2, f2, g2, h2]
  omega
set_option maxRecDepth 100000 in
theorem walk_FnSumOrder (A : Option Addr) (n c : Nat) (xs : List Int) (A' : Option Addr) (n' c' : Nat) (xs' : List Int) (w : World) (h : Byts w w.heap.size A xs) (hn : xs.length = n) (hc : n ≤ c) (hm : c ≤ maxLen) (h' : Byts w w.heap.size A' xs') (hn' : xs'.length = n') (hc' : n' ≤ c') (hm' : c' ≤ maxLen) :
    Calls Try.prog 12 #[.slice A n c, .slice A' n' c'] w fun e w' => e = .returned (.bool true) ∧ Below w.heap.size w w' := by
  by_cases hbig : 1048576 < n
  · unfold maxLen at hm hm'
    clear hn hn'
    go_enter Try.func12, Try.ntmps12
    go_wp2
    go_ret
    exact ⟨rfl, (by repeat (first | exact bw_refl _ | assumption | apply bw_alloc | apply bw_drew | apply bw_drewN | (refine bw_trans ?_ (by assumption)) | (refine bw_set ?_ (by simp only [go_sem]; omega) _)))⟩
  by_cases hbig2 : 1048576 < n'
  · unfold maxLen at hm hm'
    clear hn hn'
    go_enter Try.func12, Try.ntmps12
    go_wp2
    go_ret
    exact ⟨rfl, (by repeat (first | exact bw_refl _ | assumption | apply bw_alloc | apply bw_drew | apply bw_drewN | (refine bw_trans ?_ (by assumption)) | (refine bw_set ?_ (by simp only [go_sem]; omega) _)))⟩
  · have HN := Lib.hid hn
    have HN' := Lib.hid hn'
    have HBY := Lib.hid h'
    clear hn hn' h'
    go_enter Try.func12, Try.ntmps12
    go_wp2_with fail
    refine (drawSumProduct_any A n c xs w w h HN.out hc hm (by omega) (bw_refl w)).mono ?_
    rintro e w1 ⟨v, l, W, P, a, b, rfl, hb1⟩
    have l5 := Blk.alloc (Blk.new w1 26 #[.int .i64 v, .bool l]) (.cells #[.int .i64 W, .int .i64 P] 40)
    have l6 := Blk.new (w1.alloc (.cells #[.int .i64 v, .bool l] 26)) 40 #[.int .i64 W, .int .i64 P]
    rw [World.size_alloc] at l6
    have hb2 := bw_alloc (bw_alloc hb1 (.cells #[.int .i64 v, .bool l] 26)) (.cells #[.int .i64 W, .int .i64 P] 40)
    clear hb1
    obtain ⟨u, hu⟩ : ∃ y, prodV W P v a b = y := ⟨_, rfl⟩
    obtain ⟨ul, hul⟩ : ∃ q, prodL W P v l a b = q := ⟨_, rfl⟩
    have HU := Lib.hid hu
    have HUL := Lib.hid hul
    clear hu hul
    obtain ⟨g5, hg5⟩ : ∃ g, w1.heap.size = g := ⟨_, rfl⟩
    rw [hg5] at l5 l6
    obtain ⟨n0, n1, m0, m1⟩ := cell2 l5
    obtain ⟨s0, s1, p0, p1⟩ := fcell2 l6
    have z5 := l5.lt
    have z6 := l6.lt
    go_upto_region 4 with fail
    go_cut [7, 40] (fun s t wx => s = .int .i64 a ∧ t = .bool false ∧ Blk wx g5 26 #[.int .i64 v, .bool l] ∧ Blk wx (g5 + 1) 40 #[.int .i64 W, .int .i64 P] ∧ Below w.heap.size w wx)
    case first =>
      refine wp_region_below (by kernel_rfl) (fun wD hHeld => ?_)
      refine wpAnyH_take (i := 0) (v := ?_) (by (simp only [List.getElem?_toArray, List.getElem?_cons_zero]; rfl)) (by kernel_rfl) (by kernel_rfl) (by kernel_rfl) (by exact fun _ _ _ h => h) (Or.inl ⟨by rfl, ?_⟩) (by assumption) ?_
      rotate_left
      · (intro wS hS; have hSc := (bcell hS).1; clear hS; go_simp; try with_reducible rfl)
      try simp only [Act.put, List.setIfInBounds_toArray, List.set_cons_zero, List.set_cons_succ]
      refine wpAnyH_take (i := 1) (v := ?_) (by (simp only [List.getElem?_toArray, List.getElem?_cons_succ, List.getElem?_cons_zero]; rfl)) (by kernel_rfl) (by kernel_rfl) (by kernel_rfl) (by exact fun _ _ _ h => h) (Or.inl ⟨by rfl, ?_⟩) (by assumption) ?_
      rotate_left
      · (intro wS hS; have hSc := (bcell hS).1; clear hS; go_simp; try with_reducible rfl)
      try simp only [Act.put, List.setIfInBounds_toArray, List.set_cons_zero, List.set_cons_succ]
      refine wpAnyH_take (i := 2) (v := ?_) (by (simp only [List.getElem?_toArray, List.getElem?_cons_succ, List.getElem?_cons_zero]; rfl)) (by kernel_rfl) (by kernel_rfl) (by kernel_rfl) (by exact fun _ _ _ h => h) (Or.inl ⟨by rfl, ?_⟩) (by assumption) ?_
      rotate_left
      · (intro wS hS; clear hS; go_simp; try with_reducible rfl)
      try simp only [Act.put, List.setIfInBounds_toArray, List.set_cons_zero, List.set_cons_succ]
      refine wpAnyH_take (i := 3) (v := ?_) (by (simp only [List.getElem?_toArray, List.getElem?_cons_succ, List.getElem?_cons_zero]; rfl)) (by kernel_rfl) (by kernel_rfl) (by kernel_rfl) (by exact fun _ _ _ h => h) (Or.inl ⟨by rfl, ?_⟩) (by assumption) ?_
      rotate_left
      · (intro wS hS; clear hS; go_simp; try with_reducible rfl)
      try simp only [Act.put, List.setIfInBounds_toArray, List.set_cons_zero, List.set_cons_succ]
      refine wpAnyH_take (i := 5) (v := ?_) (by (simp only [List.getElem?_toArray, List.getElem?_cons_succ, List.getElem?_cons_zero]; rfl)) (by kernel_rfl) (by kernel_rfl) (by kernel_rfl) (by exact fun _ _ _ h => h) (Or.inl ⟨by rfl, ?_⟩) (by assumption) ?_
      rotate_left
      · (intro wS hS; have hSc := (bcell hS).1; clear hS; go_simp; try with_reducible rfl)
      try simp only [Act.put, List.setIfInBounds_toArray, List.set_cons_zero, List.set_cons_succ]
      refine wpAnyH_take (i := 6) (v := ?_) (by (simp only [List.getElem?_toArray, List.getElem?_cons_succ, List.getElem?_cons_zero]; rfl)) (by kernel_rfl) (by kernel_rfl) (by kernel_rfl) (by exact fun _ _ _ h => h) (Or.inl ⟨by rfl, ?_⟩) (by assumption) ?_
      rotate_left
      · (intro wS hS; have hSc := (bcell hS).1; clear hS; go_simp; try with_reducible rfl)
      try simp only [Act.put, List.setIfInBounds_toArray, List.set_cons_zero, List.set_cons_succ]
      refine wpAnyH_take (i := 7) (v := ?_) (by (simp only [List.getElem?_toArray, List.getElem?_cons_succ, List.getElem?_cons_zero]; rfl)) (by kernel_rfl) (by kernel_rfl) (by kernel_rfl) (by exact fun _ _ _ h => h) (Or.inl ⟨by rfl, ?_⟩) (by assumption) ?_
      rotate_left
      · (intro wS hS; clear hS; go_simp; try with_reducible rfl)
      try simp only [Act.put, List.setIfInBounds_toArray, List.set_cons_zero, List.set_cons_succ]
      refine wpAnyH_take (i := 8) (v := ?_) (by (simp only [List.getElem?_toArray, List.getElem?_cons_succ, List.getElem?_cons_zero]; rfl)) (by kernel_rfl) (by kernel_rfl) (by kernel_rfl) (by exact fun _ _ _ h => h) (Or.inl ⟨by rfl, ?_⟩) (by assumption) ?_
      rotate_left
      · (intro wS hS; clear hS; go_simp; try with_reducible rfl)
      try simp only [Act.put, List.setIfInBounds_toArray, List.set_cons_zero, List.set_cons_succ]
      refine wpAnyH_ready (rs := [4]) (by kernel_rfl) (by simp) ?_
      refine AllReadyH.cons (by (simp only [List.getElem?_toArray, List.getElem?_cons_succ, List.getElem?_cons_zero]; rfl)) (fun K hK => ?_) AllReadyH.nil
      go_simp
      ((first | (go_at_call 27; refine (specSumProduct_any v l W P a b _).mono ?_; rintro e w1 ⟨he, hb⟩; rw [HU.out, HUL.out] at he; subst he) | (go_at_call 29; refine (implSumProduct_any v l W P a b _).mono ?_; rintro e w1 ⟨he, hb⟩; rw [HU.out, HUL.out] at he; subst he)))
      (try go_wp2_with fail)
      refine hK.out _ _ (by repeat (first | exact bw_refl _ | assumption | apply bw_alloc | apply bw_drew | apply bw_drewN | (refine bw_trans ?_ (by assumption)) | (refine bw_set ?_ (by simp only [go_sem]; omega) _))) (fun hHeld => ?_)
      clear hK K
      try simp only [Act.put, List.setIfInBounds_toArray, List.set_cons_zero, List.set_cons_succ]
      refine wpAnyH_ready (rs := [9]) (by kernel_rfl) (by simp) ?_
      refine AllReadyH.cons (by (simp only [List.getElem?_toArray, List.getElem?_cons_succ, List.getElem?_cons_zero]; rfl)) (fun K hK => ?_) AllReadyH.nil
      go_simp
      ((first | (go_at_call 27; refine (specSumProduct_any v l W P a b _).mono ?_; rintro e w1 ⟨he, hb⟩; rw [HU.out, HUL.out] at he; subst he) | (go_at_call 29; refine (implSumProduct_any v l W P a b _).mono ?_; rintro e w1 ⟨he, hb⟩; rw [HU.out, HUL.out] at he; subst he)))
      (try go_wp2_with fail)
      refine hK.out _ _ (by repeat (first | exact bw_refl _ | assumption | apply bw_alloc | apply bw_drew | apply bw_drewN | (refine bw_trans ?_ (by assumption)) | (refine bw_set ?_ (by simp only [go_sem]; omega) _))) (fun hHeld => ?_)
      clear hK K
      try simp only [Act.put, List.setIfInBounds_toArray, List.set_cons_zero, List.set_cons_succ]
      refine wpAnyH_take (i := 10) (v := ?_) (by (simp only [List.getElem?_toArray, List.getElem?_cons_succ, List.getElem?_cons_zero]; rfl)) (by kernel_rfl) (by kernel_rfl) (by kernel_rfl) (by exact fun _ _ _ h => h) (Or.inl ⟨by rfl, ?_⟩) (by assumption) ?_
      rotate_left
      · (intro wS hS; clear hS; go_simp; try with_reducible rfl)
      try simp only [Act.put, List.setIfInBounds_toArray, List.set_cons_zero, List.set_cons_succ]
      refine wpAnyH_done (by kernel_rfl) ?_ _
      go_wp2_with fail
      go_meet
      exact ⟨rfl, by simp, l5.kept hHeld, l6.kept hHeld, bw_trans hb2 hHeld⟩
    case rest =>
      obtain ⟨rfl, rfl, l5, l6, hbc⟩ := hcut
      clear n0 n1 m0 m1 s0 s1 p0 p1 z5 z6 hb2 hg5
      go_upto_region 6 with fail
      go_cut [10, 11, 12] (fun s t u wx => ∃ (g10 : Nat) (W2 P2 cc d : Int), s = .pointer (some ⟨g10, 0, none⟩) ∧ t = .int .i64 cc ∧ u = .int .i64 d ∧ Blk wx g10 40 #[.int .i64 W2, .int .i64 P2] ∧ Blk wx g5 26 #[.int .i64 v, .bool l] ∧ Blk wx (g5 + 1) 40 #[.int .i64 W, .int .i64 P] ∧ Below w.heap.size w wx)
      case first =>
        go_wp2_with fail
        refine (drawSumProduct_any A' n' c' xs' w _ HBY.out HN'.out hc' hm' (by omega) hbc).mono ?_
        rintro e w3 ⟨v3, l3, W2, P2, cc, d, rfl, hb3⟩
        replace l5 := Blk.alloc (Blk.alloc (l5.kept hb3) (.cells #[.int .i64 v3, .bool l3] 26)) (.cells #[.int .i64 W2, .int .i64 P2] 40)
        replace l6 := Blk.alloc (Blk.alloc (l6.kept hb3) (.cells #[.int .i64 v3, .bool l3] 26)) (.cells #[.int .i64 W2, .int .i64 P2] 40)
        have l10 := Blk.new (w3.alloc (.cells #[.int .i64 v3, .bool l3] 26)) 40 #[.int .i64 W2, .int .i64 P2]
        rw [World.size_alloc] at l10
        have hb4 := bw_alloc (bw_alloc (bw_trans hbc hb3) (.cells #[.int .i64 v3, .bool l3] 26)) (.cells #[.int .i64 W2, .int .i64 P2] 40)
        go_wp2
        go_meet
        exact ⟨_, W2, P2, cc, d, rfl, rfl, rfl, l10, l5, l6, hb4⟩
      case rest =>
        obtain ⟨g10, W2, P2, cc, d, rfl, rfl, rfl, l10, l5, l6, hbo⟩ := hcut
        obtain ⟨x, hx⟩ : ∃ y, prodV W2 P2 u cc d = y := ⟨_, rfl⟩
        obtain ⟨xl, hxl⟩ : ∃ q, prodL W2 P2 u ul cc d = q := ⟨_, rfl⟩
        obtain ⟨t, ht⟩ : ∃ y, prodV W2 P2 v cc d = y := ⟨_, rfl⟩
        obtain ⟨tl, htl⟩ : ∃ q, prodL W2 P2 v l cc d = q := ⟨_, rfl⟩
        obtain ⟨y, hy⟩ : ∃ y, prodV W P t a b = y := ⟨_, rfl⟩
        obtain ⟨yl, hyl⟩ : ∃ q, prodL W P t tl a b = q := ⟨_, rfl⟩
        have hmain : xl = false → yl = false → inB v (-1125899906842624) 1125899906842624 = true → fitsB W P a = true → fitsB W P b = true → fitsB W2 P2 cc = true → fitsB W2 P2 d = true → x = y := fun h1 h2 h3 h4 h5 h6 h7 => by
          have := order_same (l := l) h3 h4 h5 h6 h7 (by rw [HU.out, HUL.out, hxl]; exact h1) (by rw [ht, htl, hyl]; exact h2)
          rw [HU.out, ht, hx, hy] at this
          exact this
        have HM := Lib.hid hmain
        have HX := Lib.hid hx
        have HXL := Lib.hid hxl
        have HT := Lib.hid ht
        have HTL := Lib.hid htl
        have HY := Lib.hid hy
        have HYL := Lib.hid hyl
        clear hx hxl ht htl hy hyl hmain
        obtain ⟨n0, n1, m0, m1⟩ := cell2 l5
        obtain ⟨s0, s1, p0, p1⟩ := fcell2 l6
        obtain ⟨t0, t1, f0, f1⟩ := fcell2 l10
        have z5 := l5.lt
        have z6 := l6.lt
        have z10 := l10.lt
        go_upto_region 7 with fail
        go_cut [13] (fun s wx => ∃ g13 : Nat, s = .pointer (some ⟨g13, 0, none⟩) ∧ Blk wx g5 26 #[.int .i64 v, .bool l] ∧ Blk wx (g5 + 1) 40 #[.int .i64 W, .int .i64 P] ∧ Blk wx g10 40 #[.int .i64 W2, .int .i64 P2] ∧ Blk wx g13 26 #[.int .i64 x, .bool xl] ∧ Below w.heap.size w wx)
        case first =>
          refine wp_region_below (by kernel_rfl) (fun wD hHeld => ?_)
          refine wpAnyH_take (i := 0) (v := ?_) (by (simp only [List.getElem?_toArray, List.getElem?_cons_zero]; rfl)) (by kernel_rfl) (by kernel_rfl) (by kernel_rfl) (by exact fun _ _ _ h => h) (Or.inl ⟨by rfl, ?_⟩) (by assumption) ?_
          rotate_left
          · (intro wS hS; have hSc := (bcell hS).1; clear hS; go_simp; try with_reducible rfl)
          try simp only [Act.put, List.setIfInBounds_toArray, List.set_cons_zero, List.set_cons_succ]
          refine wpAnyH_take (i := 1) (v := ?_) (by (simp only [List.getElem?_toArray, List.getElem?_cons_succ, List.getElem?_cons_zero]; rfl)) (by kernel_rfl) (by kernel_rfl) (by kernel_rfl) (by exact fun _ _ _ h => h) (Or.inl ⟨by rfl, ?_⟩) (by assumption) ?_
          rotate_left
          · (intro wS hS; have hSc := (bcell hS).1; clear hS; go_simp; try with_reducible rfl)
          try simp only [Act.put, List.setIfInBounds_toArray, List.set_cons_zero, List.set_cons_succ]
          refine wpAnyH_take (i := 2) (v := ?_) (by (simp only [List.getElem?_toArray, List.getElem?_cons_succ, List.getElem?_cons_zero]; rfl)) (by kernel_rfl) (by kernel_rfl) (by kernel_rfl) (by exact fun _ _ _ h => h) (Or.inl ⟨by rfl, ?_⟩) (by assumption) ?_
          rotate_left
          · (intro wS hS; clear hS; go_simp; try with_reducible rfl)
          try simp only [Act.put, List.setIfInBounds_toArray, List.set_cons_zero, List.set_cons_succ]
          refine wpAnyH_take (i := 3) (v := ?_) (by (simp only [List.getElem?_toArray, List.getElem?_cons_succ, List.getElem?_cons_zero]; rfl)) (by kernel_rfl) (by kernel_rfl) (by kernel_rfl) (by exact fun _ _ _ h => h) (Or.inl ⟨by rfl, ?_⟩) (by assumption) ?_
          rotate_left
          · (intro wS hS; clear hS; go_simp; try with_reducible rfl)
          try simp only [Act.put, List.setIfInBounds_toArray, List.set_cons_zero, List.set_cons_succ]
          refine wpAnyH_take (i := 5) (v := ?_) (by (simp only [List.getElem?_toArray, List.getElem?_cons_succ, List.getElem?_cons_zero]; rfl)) (by kernel_rfl) (by kernel_rfl) (by kernel_rfl) (by exact fun _ _ _ h => h) (Or.inl ⟨by rfl, ?_⟩) (by assumption) ?_
          rotate_left
          · (intro wS hS; have hSc := (bcell hS).1; clear hS; go_simp; try with_reducible rfl)
          try simp only [Act.put, List.setIfInBounds_toArray, List.set_cons_zero, List.set_cons_succ]
          refine wpAnyH_take (i := 6) (v := ?_) (by (simp only [List.getElem?_toArray, List.getElem?_cons_succ, List.getElem?_cons_zero]; rfl)) (by kernel_rfl) (by kernel_rfl) (by kernel_rfl) (by exact fun _ _ _ h => h) (Or.inl ⟨by rfl, ?_⟩) (by assumption) ?_
          rotate_left
          · (intro wS hS; clear hS; go_simp; try with_reducible rfl)
          try simp only [Act.put, List.setIfInBounds_toArray, List.set_cons_zero, List.set_cons_succ]
          refine wpAnyH_take (i := 7) (v := ?_) (by (simp only [List.getElem?_toArray, List.getElem?_cons_succ, List.getElem?_cons_zero]; rfl)) (by kernel_rfl) (by kernel_rfl) (by kernel_rfl) (by exact fun _ _ _ h => h) (Or.inl ⟨by rfl, ?_⟩) (by assumption) ?_
          rotate_left
          · (intro wS hS; clear hS; go_simp; try with_reducible rfl)
          try simp only [Act.put, List.setIfInBounds_toArray, List.set_cons_zero, List.set_cons_succ]
          refine wpAnyH_ready (rs := [4, 9]) (by kernel_rfl) (by simp) ?_
          refine AllReadyH.cons (by (simp only [List.getElem?_toArray, List.getElem?_cons_succ, List.getElem?_cons_zero]; rfl)) (fun K hK => ?_) (AllReadyH.cons (by (simp only [List.getElem?_toArray, List.getElem?_cons_succ, List.getElem?_cons_zero]; rfl)) (fun K hK => ?_) AllReadyH.nil)
          · go_simp
            ((first | (go_at_call 29; ((with_reducible refine (implSumProduct_any v l W P a b _).mono ?_)); rintro e w4 ⟨he, hb4⟩; rw [HU.out, HUL.out] at he; subst he) | (go_at_call 29; refine (implSumProduct_any u ul W2 P2 cc d _).mono ?_; rintro e w8 ⟨he, hb8⟩; rw [HX.out, HXL.out] at he; subst he)))
            (try go_wp2_with fail)
            refine hK.out _ _ (bw_trans hHeld hb4) (fun hHeld => ?_)
            clear hK K
            try simp only [Act.put, List.setIfInBounds_toArray, List.set_cons_zero, List.set_cons_succ]
            refine wpAnyH_ready (rs := [8, 9]) (by kernel_rfl) (by simp) ?_
            refine AllReadyH.cons (by (simp only [List.getElem?_toArray, List.getElem?_cons_succ, List.getElem?_cons_zero]; rfl)) (fun K hK => ?_) (AllReadyH.cons (by (simp only [List.getElem?_toArray, List.getElem?_cons_succ, List.getElem?_cons_zero]; rfl)) (fun K hK => ?_) AllReadyH.nil)
            · go_simp
              ((first | (go_at_call 29; ((with_reducible refine (implSumProduct_any v l W P a b _).mono ?_)); rintro e w4 ⟨he, hb4⟩; rw [HU.out, HUL.out] at he; subst he) | (go_at_call 29; refine (implSumProduct_any u ul W2 P2 cc d _).mono ?_; rintro e w8 ⟨he, hb8⟩; rw [HX.out, HXL.out] at he; subst he)))
              (try go_wp2_with fail)
              refine hK.out _ _ (bw_trans hHeld hb8) (fun hHeld => ?_)
              clear hK K
              try simp only [Act.put, List.setIfInBounds_toArray, List.set_cons_zero, List.set_cons_succ]
              refine wpAnyH_ready (rs := [9]) (by kernel_rfl) (by simp) ?_
              refine AllReadyH.cons (by (simp only [List.getElem?_toArray, List.getElem?_cons_succ, List.getElem?_cons_zero]; rfl)) (fun K hK => ?_) AllReadyH.nil
              go_simp
              have hge := hHeld.size
              refine alloc_step (fun wa hb hnew => ?_)
              refine hK.out _ _ (bw_trans hHeld hb) (fun hHeld => ?_)
              clear hK K
              try simp only [Act.put, List.setIfInBounds_toArray, List.set_cons_zero, List.set_cons_succ]
              refine wpAnyH_ready (rs := [10]) (by kernel_rfl) (by simp) ?_
              refine AllReadyH.cons (by (simp only [List.getElem?_toArray, List.getElem?_cons_succ, List.getElem?_cons_zero]; rfl)) (fun K hK => ?_) AllReadyH.nil
              first | have k13 := Blk.kept (Blk.kept hnew hb4) hb8 | have k13 := Blk.kept hnew hb8 | have k13 : Blk _ _ _ _ := hnew
              obtain ⟨r0, r1, r2, r3⟩ := cell2 k13
              go_simp
              refine hK.out _ _ (bw_set (bw_set hHeld hge _) hge _) (fun hHeld => ?_)
              clear hK K
              try simp only [Act.put, List.setIfInBounds_toArray, List.set_cons_zero, List.set_cons_succ]
              refine wpAnyH_done (by kernel_rfl) ?_ _
              go_wp2
              go_meet
              exact ⟨_, rfl, l5.kept hHeld, l6.kept hHeld, l10.kept hHeld, Blk.two k13 _ _, bw_trans hbo hHeld⟩
            · go_simp
              have hge := hHeld.size
              refine alloc_step (fun wa hb hnew => ?_)
              refine hK.out _ _ (bw_trans hHeld hb) (fun hHeld => ?_)
              clear hK K
              try simp only [Act.put, List.setIfInBounds_toArray, List.set_cons_zero, List.set_cons_succ]
              refine wpAnyH_ready (rs := [8]) (by kernel_rfl) (by simp) ?_
              refine AllReadyH.cons (by (simp only [List.getElem?_toArray, List.getElem?_cons_succ, List.getElem?_cons_zero]; rfl)) (fun K hK => ?_) AllReadyH.nil
              go_simp
              ((first | (go_at_call 29; ((with_reducible refine (implSumProduct_any v l W P a b _).mono ?_)); rintro e w4 ⟨he, hb4⟩; rw [HU.out, HUL.out] at he; subst he) | (go_at_call 29; refine (implSumProduct_any u ul W2 P2 cc d _).mono ?_; rintro e w8 ⟨he, hb8⟩; rw [HX.out, HXL.out] at he; subst he)))
              (try go_wp2_with fail)
              refine hK.out _ _ (bw_trans hHeld hb8) (fun hHeld => ?_)
              clear hK K
              try simp only [Act.put, List.setIfInBounds_toArray, List.set_cons_zero, List.set_cons_succ]
              refine wpAnyH_ready (rs := [10]) (by kernel_rfl) (by simp) ?_
              refine AllReadyH.cons (by (simp only [List.getElem?_toArray, List.getElem?_cons_succ, List.getElem?_cons_zero]; rfl)) (fun K hK => ?_) AllReadyH.nil
              first | have k13 := Blk.kept (Blk.kept hnew hb4) hb8 | have k13 := Blk.kept hnew hb8 | have k13 : Blk _ _ _ _ := hnew
              obtain ⟨r0, r1, r2, r3⟩ := cell2 k13
              go_simp
              refine hK.out _ _ (bw_set (bw_set hHeld hge _) hge _) (fun hHeld => ?_)
              clear hK K
              try simp only [Act.put, List.setIfInBounds_toArray, List.set_cons_zero, List.set_cons_succ]
              refine wpAnyH_done (by kernel_rfl) ?_ _
              go_wp2
              go_meet
              exact ⟨_, rfl, l5.kept hHeld, l6.kept hHeld, l10.kept hHeld, Blk.two k13 _ _, bw_trans hbo hHeld⟩
          · go_simp
            have hge := hHeld.size
            refine alloc_step (fun wa hb hnew => ?_)
            refine hK.out _ _ (bw_trans hHeld hb) (fun hHeld => ?_)
            clear hK K
            try simp only [Act.put, List.setIfInBounds_toArray, List.set_cons_zero, List.set_cons_succ]
            refine wpAnyH_ready (rs := [4]) (by kernel_rfl) (by simp) ?_
            refine AllReadyH.cons (by (simp only [List.getElem?_toArray, List.getElem?_cons_succ, List.getElem?_cons_zero]; rfl)) (fun K hK => ?_) AllReadyH.nil
            go_simp
            ((first | (go_at_call 29; ((with_reducible refine (implSumProduct_any v l W P a b _).mono ?_)); rintro e w4 ⟨he, hb4⟩; rw [HU.out, HUL.out] at he; subst he) | (go_at_call 29; refine (implSumProduct_any u ul W2 P2 cc d _).mono ?_; rintro e w8 ⟨he, hb8⟩; rw [HX.out, HXL.out] at he; subst he)))
            (try go_wp2_with fail)
            refine hK.out _ _ (bw_trans hHeld hb4) (fun hHeld => ?_)
            clear hK K
            try simp only [Act.put, List.setIfInBounds_toArray, List.set_cons_zero, List.set_cons_succ]
            refine wpAnyH_ready (rs := [8]) (by kernel_rfl) (by simp) ?_
            refine AllReadyH.cons (by (simp only [List.getElem?_toArray, List.getElem?_cons_succ, List.getElem?_cons_zero]; rfl)) (fun K hK => ?_) AllReadyH.nil
            go_simp
            ((first | (go_at_call 29; ((with_reducible refine (implSumProduct_any v l W P a b _).mono ?_)); rintro e w4 ⟨he, hb4⟩; rw [HU.out, HUL.out] at he; subst he) | (go_at_call 29; refine (implSumProduct_any u ul W2 P2 cc d _).mono ?_; rintro e w8 ⟨he, hb8⟩; rw [HX.out, HXL.out] at he; subst he)))
            (try go_wp2_with fail)
            refine hK.out _ _ (bw_trans hHeld hb8) (fun hHeld => ?_)
            clear hK K
            try simp only [Act.put, List.setIfInBounds_toArray, List.set_cons_zero, List.set_cons_succ]
            refine wpAnyH_ready (rs := [10]) (by kernel_rfl) (by simp) ?_
            refine AllReadyH.cons (by (simp only [List.getElem?_toArray, List.getElem?_cons_succ, List.getElem?_cons_zero]; rfl)) (fun K hK => ?_) AllReadyH.nil
            first | have k13 := Blk.kept (Blk.kept hnew hb4) hb8 | have k13 := Blk.kept hnew hb8 | have k13 : Blk _ _ _ _ := hnew
            obtain ⟨r0, r1, r2, r3⟩ := cell2 k13
            go_simp
            refine hK.out _ _ (bw_set (bw_set hHeld hge _) hge _) (fun hHeld => ?_)
            clear hK K
            try simp only [Act.put, List.setIfInBounds_toArray, List.set_cons_zero, List.set_cons_succ]
            refine wpAnyH_done (by kernel_rfl) ?_ _
            go_wp2
            go_meet
            exact ⟨_, rfl, l5.kept hHeld, l6.kept hHeld, l10.kept hHeld, Blk.two k13 _ _, bw_trans hbo hHeld⟩
        case rest =>
          obtain ⟨g13, rfl, l5, l6, l10, l13, hbo⟩ := hcut
          clear n0 n1 m0 m1 s0 s1 p0 p1 t0 t1 f0 f1 z5 z6 z10
          obtain ⟨n0, n1, m0, m1⟩ := cell2 l5
          obtain ⟨s0, s1, p0, p1⟩ := fcell2 l6
          obtain ⟨t0, t1, f0, f1⟩ := fcell2 l10
          have z5 := l5.lt
          have z6 := l6.lt
          have z10 := l10.lt
          go_upto_region 8 with fail
          go_cut [14] (fun s wx => ∃ g14 : Nat, s = .pointer (some ⟨g14, 0, none⟩) ∧ Blk wx g5 26 #[.int .i64 v, .bool l] ∧ Blk wx (g5 + 1) 40 #[.int .i64 W, .int .i64 P] ∧ Blk wx g10 40 #[.int .i64 W2, .int .i64 P2] ∧ Blk wx g13 26 #[.int .i64 x, .bool xl] ∧ Blk wx g14 26 #[.int .i64 y, .bool yl] ∧ Below w.heap.size w wx)
          case first =>
            refine wp_region_below (by kernel_rfl) (fun wD hHeld => ?_)
            refine wpAnyH_take (i := 0) (v := ?_) (by (simp only [List.getElem?_toArray, List.getElem?_cons_zero]; rfl)) (by kernel_rfl) (by kernel_rfl) (by kernel_rfl) (by exact fun _ _ _ h => h) (Or.inl ⟨by rfl, ?_⟩) (by assumption) ?_
            rotate_left
            · (intro wS hS; have hSc := (bcell hS).1; clear hS; go_simp; try with_reducible rfl)
            try simp only [Act.put, List.setIfInBounds_toArray, List.set_cons_zero, List.set_cons_succ]
            refine wpAnyH_take (i := 1) (v := ?_) (by (simp only [List.getElem?_toArray, List.getElem?_cons_succ, List.getElem?_cons_zero]; rfl)) (by kernel_rfl) (by kernel_rfl) (by kernel_rfl) (by exact fun _ _ _ h => h) (Or.inl ⟨by rfl, ?_⟩) (by assumption) ?_
            rotate_left
            · (intro wS hS; have hSc := (bcell hS).1; clear hS; go_simp; try with_reducible rfl)
            try simp only [Act.put, List.setIfInBounds_toArray, List.set_cons_zero, List.set_cons_succ]
            refine wpAnyH_take (i := 2) (v := ?_) (by (simp only [List.getElem?_toArray, List.getElem?_cons_succ, List.getElem?_cons_zero]; rfl)) (by kernel_rfl) (by kernel_rfl) (by kernel_rfl) (by exact fun _ _ _ h => h) (Or.inl ⟨by rfl, ?_⟩) (by assumption) ?_
            rotate_left
            · (intro wS hS; clear hS; go_simp; try with_reducible rfl)
            try simp only [Act.put, List.setIfInBounds_toArray, List.set_cons_zero, List.set_cons_succ]
            refine wpAnyH_take (i := 3) (v := ?_) (by (simp only [List.getElem?_toArray, List.getElem?_cons_succ, List.getElem?_cons_zero]; rfl)) (by kernel_rfl) (by kernel_rfl) (by kernel_rfl) (by exact fun _ _ _ h => h) (Or.inl ⟨by rfl, ?_⟩) (by assumption) ?_
            rotate_left
            · (intro wS hS; clear hS; go_simp; try with_reducible rfl)
            try simp only [Act.put, List.setIfInBounds_toArray, List.set_cons_zero, List.set_cons_succ]
            refine wpAnyH_take (i := 5) (v := ?_) (by (simp only [List.getElem?_toArray, List.getElem?_cons_succ, List.getElem?_cons_zero]; rfl)) (by kernel_rfl) (by kernel_rfl) (by kernel_rfl) (by exact fun _ _ _ h => h) (Or.inl ⟨by rfl, ?_⟩) (by assumption) ?_
            rotate_left
            · (intro wS hS; have hSc := (bcell hS).1; clear hS; go_simp; try with_reducible rfl)
            try simp only [Act.put, List.setIfInBounds_toArray, List.set_cons_zero, List.set_cons_succ]
            refine wpAnyH_take (i := 6) (v := ?_) (by (simp only [List.getElem?_toArray, List.getElem?_cons_succ, List.getElem?_cons_zero]; rfl)) (by kernel_rfl) (by kernel_rfl) (by kernel_rfl) (by exact fun _ _ _ h => h) (Or.inl ⟨by rfl, ?_⟩) (by assumption) ?_
            rotate_left
            · (intro wS hS; clear hS; go_simp; try with_reducible rfl)
            try simp only [Act.put, List.setIfInBounds_toArray, List.set_cons_zero, List.set_cons_succ]
            refine wpAnyH_take (i := 7) (v := ?_) (by (simp only [List.getElem?_toArray, List.getElem?_cons_succ, List.getElem?_cons_zero]; rfl)) (by kernel_rfl) (by kernel_rfl) (by kernel_rfl) (by exact fun _ _ _ h => h) (Or.inl ⟨by rfl, ?_⟩) (by assumption) ?_
            rotate_left
            · (intro wS hS; clear hS; go_simp; try with_reducible rfl)
            try simp only [Act.put, List.setIfInBounds_toArray, List.set_cons_zero, List.set_cons_succ]
            refine wpAnyH_ready (rs := [4, 9]) (by kernel_rfl) (by simp) ?_
            refine AllReadyH.cons (by (simp only [List.getElem?_toArray, List.getElem?_cons_succ, List.getElem?_cons_zero]; rfl)) (fun K hK => ?_) (AllReadyH.cons (by (simp only [List.getElem?_toArray, List.getElem?_cons_succ, List.getElem?_cons_zero]; rfl)) (fun K hK => ?_) AllReadyH.nil)
            · go_simp
              ((first | (go_at_call 29; ((with_reducible refine (implSumProduct_any v l W2 P2 cc d _).mono ?_)); rintro e w4 ⟨he, hb4⟩; rw [HT.out, HTL.out] at he; subst he) | (go_at_call 29; refine (implSumProduct_any t tl W P a b _).mono ?_; rintro e w8 ⟨he, hb8⟩; rw [HY.out, HYL.out] at he; subst he)))
              (try go_wp2_with fail)
              refine hK.out _ _ (bw_trans hHeld hb4) (fun hHeld => ?_)
              clear hK K
              try simp only [Act.put, List.setIfInBounds_toArray, List.set_cons_zero, List.set_cons_succ]
              refine wpAnyH_ready (rs := [8, 9]) (by kernel_rfl) (by simp) ?_
              refine AllReadyH.cons (by (simp only [List.getElem?_toArray, List.getElem?_cons_succ, List.getElem?_cons_zero]; rfl)) (fun K hK => ?_) (AllReadyH.cons (by (simp only [List.getElem?_toArray, List.getElem?_cons_succ, List.getElem?_cons_zero]; rfl)) (fun K hK => ?_) AllReadyH.nil)
              · go_simp
                ((first | (go_at_call 29; ((with_reducible refine (implSumProduct_any v l W2 P2 cc d _).mono ?_)); rintro e w4 ⟨he, hb4⟩; rw [HT.out, HTL.out] at he; subst he) | (go_at_call 29; refine (implSumProduct_any t tl W P a b _).mono ?_; rintro e w8 ⟨he, hb8⟩; rw [HY.out, HYL.out] at he; subst he)))
                (try go_wp2_with fail)
                refine hK.out _ _ (bw_trans hHeld hb8) (fun hHeld => ?_)
                clear hK K
                try simp only [Act.put, List.setIfInBounds_toArray, List.set_cons_zero, List.set_cons_succ]
                refine wpAnyH_ready (rs := [9]) (by kernel_rfl) (by simp) ?_
                refine AllReadyH.cons (by (simp only [List.getElem?_toArray, List.getElem?_cons_succ, List.getElem?_cons_zero]; rfl)) (fun K hK => ?_) AllReadyH.nil
                go_simp
                have hge := hHeld.size
                refine alloc_step (fun wa hb hnew => ?_)
                refine hK.out _ _ (bw_trans hHeld hb) (fun hHeld => ?_)
                clear hK K
                try simp only [Act.put, List.setIfInBounds_toArray, List.set_cons_zero, List.set_cons_succ]
                refine wpAnyH_ready (rs := [10]) (by kernel_rfl) (by simp) ?_
                refine AllReadyH.cons (by (simp only [List.getElem?_toArray, List.getElem?_cons_succ, List.getElem?_cons_zero]; rfl)) (fun K hK => ?_) AllReadyH.nil
                first | have k13 := Blk.kept (Blk.kept hnew hb4) hb8 | have k13 := Blk.kept hnew hb8 | have k13 : Blk _ _ _ _ := hnew
                obtain ⟨r0, r1, r2, r3⟩ := cell2 k13
                go_simp
                refine hK.out _ _ (bw_set (bw_set hHeld hge _) hge _) (fun hHeld => ?_)
                clear hK K
                try simp only [Act.put, List.setIfInBounds_toArray, List.set_cons_zero, List.set_cons_succ]
                refine wpAnyH_done (by kernel_rfl) ?_ _
                go_wp2
                go_meet
                exact ⟨_, rfl, l5.kept hHeld, l6.kept hHeld, l10.kept hHeld, l13.kept hHeld, Blk.two k13 _ _, bw_trans hbo hHeld⟩
              · go_simp
                have hge := hHeld.size
                refine alloc_step (fun wa hb hnew => ?_)
                refine hK.out _ _ (bw_trans hHeld hb) (fun hHeld => ?_)
                clear hK K
                try simp only [Act.put, List.setIfInBounds_toArray, List.set_cons_zero, List.set_cons_succ]
                refine wpAnyH_ready (rs := [8]) (by kernel_rfl) (by simp) ?_
                refine AllReadyH.cons (by (simp only [List.getElem?_toArray, List.getElem?_cons_succ, List.getElem?_cons_zero]; rfl)) (fun K hK => ?_) AllReadyH.nil
                go_simp
                ((first | (go_at_call 29; ((with_reducible refine (implSumProduct_any v l W2 P2 cc d _).mono ?_)); rintro e w4 ⟨he, hb4⟩; rw [HT.out, HTL.out] at he; subst he) | (go_at_call 29; refine (implSumProduct_any t tl W P a b _).mono ?_; rintro e w8 ⟨he, hb8⟩; rw [HY.out, HYL.out] at he; subst he)))
                (try go_wp2_with fail)
                refine hK.out _ _ (bw_trans hHeld hb8) (fun hHeld => ?_)
                clear hK K
                try simp only [Act.put, List.setIfInBounds_toArray, List.set_cons_zero, List.set_cons_succ]
                refine wpAnyH_ready (rs := [10]) (by kernel_rfl) (by simp) ?_
                refine AllReadyH.cons (by (simp only [List.getElem?_toArray, List.getElem?_cons_succ, List.getElem?_cons_zero]; rfl)) (fun K hK => ?_) AllReadyH.nil
                first | have k13 := Blk.kept (Blk.kept hnew hb4) hb8 | have k13 := Blk.kept hnew hb8 | have k13 : Blk _ _ _ _ := hnew
                obtain ⟨r0, r1, r2, r3⟩ := cell2 k13
                go_simp
                refine hK.out _ _ (bw_set (bw_set hHeld hge _) hge _) (fun hHeld => ?_)
                clear hK K
                try simp only [Act.put, List.setIfInBounds_toArray, List.set_cons_zero, List.set_cons_succ]
                refine wpAnyH_done (by kernel_rfl) ?_ _
                go_wp2
                go_meet
                exact ⟨_, rfl, l5.kept hHeld, l6.kept hHeld, l10.kept hHeld, l13.kept hHeld, Blk.two k13 _ _, bw_trans hbo hHeld⟩
            · go_simp
              have hge := hHeld.size
              refine alloc_step (fun wa hb hnew => ?_)
              refine hK.out _ _ (bw_trans hHeld hb) (fun hHeld => ?_)
              clear hK K
              try simp only [Act.put, List.setIfInBounds_toArray, List.set_cons_zero, List.set_cons_succ]
              refine wpAnyH_ready (rs := [4]) (by kernel_rfl) (by simp) ?_
              refine AllReadyH.cons (by (simp only [List.getElem?_toArray, List.getElem?_cons_succ, List.getElem?_cons_zero]; rfl)) (fun K hK => ?_) AllReadyH.nil
              go_simp
              ((first | (go_at_call 29; ((with_reducible refine (implSumProduct_any v l W2 P2 cc d _).mono ?_)); rintro e w4 ⟨he, hb4⟩; rw [HT.out, HTL.out] at he; subst he) | (go_at_call 29; refine (implSumProduct_any t tl W P a b _).mono ?_; rintro e w8 ⟨he, hb8⟩; rw [HY.out, HYL.out] at he; subst he)))
              (try go_wp2_with fail)
              refine hK.out _ _ (bw_trans hHeld hb4) (fun hHeld => ?_)
              clear hK K
              try simp only [Act.put, List.setIfInBounds_toArray, List.set_cons_zero, List.set_cons_succ]
              refine wpAnyH_ready (rs := [8]) (by kernel_rfl) (by simp) ?_
              refine AllReadyH.cons (by (simp only [List.getElem?_toArray, List.getElem?_cons_succ, List.getElem?_cons_zero]; rfl)) (fun K hK => ?_) AllReadyH.nil
              go_simp
              ((first | (go_at_call 29; ((with_reducible refine (implSumProduct_any v l W2 P2 cc d _).mono ?_)); rintro e w4 ⟨he, hb4⟩; rw [HT.out, HTL.out] at he; subst he) | (go_at_call 29; refine (implSumProduct_any t tl W P a b _).mono ?_; rintro e w8 ⟨he, hb8⟩; rw [HY.out, HYL.out] at he; subst he)))
              (try go_wp2_with fail)
              refine hK.out _ _ (bw_trans hHeld hb8) (fun hHeld => ?_)
              clear hK K
              try simp only [Act.put, List.setIfInBounds_toArray, List.set_cons_zero, List.set_cons_succ]
              refine wpAnyH_ready (rs := [10]) (by kernel_rfl) (by simp) ?_
              refine AllReadyH.cons (by (simp only [List.getElem?_toArray, List.getElem?_cons_succ, List.getElem?_cons_zero]; rfl)) (fun K hK => ?_) AllReadyH.nil
              first | have k13 := Blk.kept (Blk.kept hnew hb4) hb8 | have k13 := Blk.kept hnew hb8 | have k13 : Blk _ _ _ _ := hnew
              obtain ⟨r0, r1, r2, r3⟩ := cell2 k13
              go_simp
              refine hK.out _ _ (bw_set (bw_set hHeld hge _) hge _) (fun hHeld => ?_)
              clear hK K
              try simp only [Act.put, List.setIfInBounds_toArray, List.set_cons_zero, List.set_cons_succ]
              refine wpAnyH_done (by kernel_rfl) ?_ _
              go_wp2
              go_meet
              exact ⟨_, rfl, l5.kept hHeld, l6.kept hHeld, l10.kept hHeld, l13.kept hHeld, Blk.two k13 _ _, bw_trans hbo hHeld⟩
          case rest =>
            obtain ⟨g14, rfl, l5, l6, l10, l13, l14, hbo⟩ := hcut
            clear n0 n1 m0 m1 s0 s1 p0 p1 t0 t1 f0 f1 z5 z6 z10
            obtain ⟨n0, n1, m0, m1⟩ := cell2 l5
            obtain ⟨s0, s1, p0, p1⟩ := fcell2 l6
            obtain ⟨t0, t1, f0, f1⟩ := fcell2 l10
            obtain ⟨q0, q1, q2, q3⟩ := cell2 l13
            obtain ⟨r0, r1, r2, r3⟩ := cell2 l14
            have z5 := l5.lt
            have z6 := l6.lt
            have z10 := l10.lt
            have z13 := l13.lt
            have z14 := l14.lt
            obtain ⟨o1, ho1⟩ : ∃ o, inB v (-1125899906842624) 1125899906842624 = o := ⟨_, rfl⟩
            obtain ⟨o2, ho2⟩ : ∃ o, fitsB W P a = o := ⟨_, rfl⟩
            obtain ⟨o3, ho3⟩ : ∃ o, fitsB W P b = o := ⟨_, rfl⟩
            obtain ⟨o4, ho4⟩ : ∃ o, fitsB W2 P2 cc = o := ⟨_, rfl⟩
            obtain ⟨o5, ho5⟩ : ∃ o, fitsB W2 P2 d = o := ⟨_, rfl⟩
            have HO1 := Lib.hid ho1
            have HO2 := Lib.hid ho2
            have HO3 := Lib.hid ho3
            have HO4 := Lib.hid ho4
            have HO5 := Lib.hid ho5
            clear ho1 ho2 ho3 ho4 ho5 HX HXL HT HTL HY HYL HU HUL
            cases xl
            · cases yl
              · cases o1
                · go_wp2_with (first
                    | (go_at_call 17; refine (specSumValid_any v l _).mono ?_; rintro e w3 ⟨he, hb⟩; rw [HO1.out] at he; subst he; have hcc := bcell hb; obtain ⟨hc, hf⟩ := hcc; have hz := bsize hb)
                    | (go_at_call 38; refine (specStoredFits_any _ _ _ _).mono ?_; rintro e w4 ⟨he, hb⟩; (first | rw [HO2.out] at he | rw [HO3.out] at he | rw [HO4.out] at he | rw [HO5.out] at he); subst he; (first | (have hq := bcomp hc hf hz hb; clear hc hf hz; obtain ⟨hc, hf, hz⟩ := hq) | (obtain ⟨hc, hf⟩ := bcell hb; have hz := bsize hb))))
                  go_ret
                  exact ⟨ret_bool (by simp), (by repeat (first | exact bw_refl _ | assumption | apply bw_alloc | apply bw_drew | apply bw_drewN | (refine bw_trans ?_ (by assumption)) | (refine bw_set ?_ (by simp only [go_sem]; omega) _)))⟩
                · cases o2
                  · go_wp2_with (first
                      | (go_at_call 17; refine (specSumValid_any v l _).mono ?_; rintro e w3 ⟨he, hb⟩; rw [HO1.out] at he; subst he; have hcc := bcell hb; obtain ⟨hc, hf⟩ := hcc; have hz := bsize hb)
                      | (go_at_call 38; refine (specStoredFits_any _ _ _ _).mono ?_; rintro e w4 ⟨he, hb⟩; (first | rw [HO2.out] at he | rw [HO3.out] at he | rw [HO4.out] at he | rw [HO5.out] at he); subst he; (first | (have hq := bcomp hc hf hz hb; clear hc hf hz; obtain ⟨hc, hf, hz⟩ := hq) | (obtain ⟨hc, hf⟩ := bcell hb; have hz := bsize hb))))
                    go_ret
                    exact ⟨ret_bool (by simp), (by repeat (first | exact bw_refl _ | assumption | apply bw_alloc | apply bw_drew | apply bw_drewN | (refine bw_trans ?_ (by assumption)) | (refine bw_set ?_ (by simp only [go_sem]; omega) _)))⟩
                  · cases o3
                    · go_wp2_with (first
                        | (go_at_call 17; refine (specSumValid_any v l _).mono ?_; rintro e w3 ⟨he, hb⟩; rw [HO1.out] at he; subst he; have hcc := bcell hb; obtain ⟨hc, hf⟩ := hcc; have hz := bsize hb)
                        | (go_at_call 38; refine (specStoredFits_any _ _ _ _).mono ?_; rintro e w4 ⟨he, hb⟩; (first | rw [HO2.out] at he | rw [HO3.out] at he | rw [HO4.out] at he | rw [HO5.out] at he); subst he; (first | (have hq := bcomp hc hf hz hb; clear hc hf hz; obtain ⟨hc, hf, hz⟩ := hq) | (obtain ⟨hc, hf⟩ := bcell hb; have hz := bsize hb))))
                      go_ret
                      exact ⟨ret_bool (by simp), (by repeat (first | exact bw_refl _ | assumption | apply bw_alloc | apply bw_drew | apply bw_drewN | (refine bw_trans ?_ (by assumption)) | (refine bw_set ?_ (by simp only [go_sem]; omega) _)))⟩
                    · cases o4
                      · go_wp2_with (first
                          | (go_at_call 17; refine (specSumValid_any v l _).mono ?_; rintro e w3 ⟨he, hb⟩; rw [HO1.out] at he; subst he; have hcc := bcell hb; obtain ⟨hc, hf⟩ := hcc; have hz := bsize hb)
                          | (go_at_call 38; refine (specStoredFits_any _ _ _ _).mono ?_; rintro e w4 ⟨he, hb⟩; (first | rw [HO2.out] at he | rw [HO3.out] at he | rw [HO4.out] at he | rw [HO5.out] at he); subst he; (first | (have hq := bcomp hc hf hz hb; clear hc hf hz; obtain ⟨hc, hf, hz⟩ := hq) | (obtain ⟨hc, hf⟩ := bcell hb; have hz := bsize hb))))
                        go_ret
                        exact ⟨ret_bool (by simp), (by repeat (first | exact bw_refl _ | assumption | apply bw_alloc | apply bw_drew | apply bw_drewN | (refine bw_trans ?_ (by assumption)) | (refine bw_set ?_ (by simp only [go_sem]; omega) _)))⟩
                      · cases o5
                        · go_wp2_with (first
                            | (go_at_call 17; refine (specSumValid_any v l _).mono ?_; rintro e w3 ⟨he, hb⟩; rw [HO1.out] at he; subst he; have hcc := bcell hb; obtain ⟨hc, hf⟩ := hcc; have hz := bsize hb)
                            | (go_at_call 38; refine (specStoredFits_any _ _ _ _).mono ?_; rintro e w4 ⟨he, hb⟩; (first | rw [HO2.out] at he | rw [HO3.out] at he | rw [HO4.out] at he | rw [HO5.out] at he); subst he; (first | (have hq := bcomp hc hf hz hb; clear hc hf hz; obtain ⟨hc, hf, hz⟩ := hq) | (obtain ⟨hc, hf⟩ := bcell hb; have hz := bsize hb))))
                          go_ret
                          exact ⟨ret_bool (by simp), (by repeat (first | exact bw_refl _ | assumption | apply bw_alloc | apply bw_drew | apply bw_drewN | (refine bw_trans ?_ (by assumption)) | (refine bw_set ?_ (by simp only [go_sem]; omega) _)))⟩
                        · have hfin := HM.out rfl rfl HO1.out HO2.out HO3.out HO4.out HO5.out
                          subst hfin
                          go_wp2_with (first
                            | (go_at_call 17; refine (specSumValid_any v l _).mono ?_; rintro e w3 ⟨he, hb⟩; rw [HO1.out] at he; subst he; have hcc := bcell hb; obtain ⟨hc, hf⟩ := hcc; have hz := bsize hb)
                            | (go_at_call 38; refine (specStoredFits_any _ _ _ _).mono ?_; rintro e w4 ⟨he, hb⟩; (first | rw [HO2.out] at he | rw [HO3.out] at he | rw [HO4.out] at he | rw [HO5.out] at he); subst he; (first | (have hq := bcomp hc hf hz hb; clear hc hf hz; obtain ⟨hc, hf, hz⟩ := hq) | (obtain ⟨hc, hf⟩ := bcell hb; have hz := bsize hb))))
                          go_ret
                          exact ⟨ret_bool (by simp), (by repeat (first | exact bw_refl _ | assumption | apply bw_alloc | apply bw_drew | apply bw_drewN | (refine bw_trans ?_ (by assumption)) | (refine bw_set ?_ (by simp only [go_sem]; omega) _)))⟩
              · go_wp2_with (first
                  | (go_at_call 17; refine (specSumValid_any v l _).mono ?_; rintro e w3 ⟨he, hb⟩; rw [HO1.out] at he; subst he; have hcc := bcell hb; obtain ⟨hc, hf⟩ := hcc; have hz := bsize hb)
                  | (go_at_call 38; refine (specStoredFits_any _ _ _ _).mono ?_; rintro e w4 ⟨he, hb⟩; (first | rw [HO2.out] at he | rw [HO3.out] at he | rw [HO4.out] at he | rw [HO5.out] at he); subst he; (first | (have hq := bcomp hc hf hz hb; clear hc hf hz; obtain ⟨hc, hf, hz⟩ := hq) | (obtain ⟨hc, hf⟩ := bcell hb; have hz := bsize hb))))
                go_ret
                exact ⟨ret_bool (by simp), (by repeat (first | exact bw_refl _ | assumption | apply bw_alloc | apply bw_drew | apply bw_drewN | (refine bw_trans ?_ (by assumption)) | (refine bw_set ?_ (by simp only [go_sem]; omega) _)))⟩
            · go_wp2_with (first
                | (go_at_call 17; refine (specSumValid_any v l _).mono ?_; rintro e w3 ⟨he, hb⟩; rw [HO1.out] at he; subst he; have hcc := bcell hb; obtain ⟨hc, hf⟩ := hcc; have hz := bsize hb)
                | (go_at_call 38; refine (specStoredFits_any _ _ _ _).mono ?_; rintro e w4 ⟨he, hb⟩; (first | rw [HO2.out] at he | rw [HO3.out] at he | rw [HO4.out] at he | rw [HO5.out] at he); subst he; (first | (have hq := bcomp hc hf hz hb; clear hc hf hz; obtain ⟨hc, hf, hz⟩ := hq) | (obtain ⟨hc, hf⟩ := bcell hb; have hz := bsize hb))))
              go_ret
              exact ⟨ret_bool (by simp), (by repeat (first | exact bw_refl _ | assumption | apply bw_alloc | apply bw_drew | apply bw_drewN | (refine bw_trans ?_ (by assumption)) | (refine bw_set ?_ (by simp only [go_sem]; omega) _)))⟩
end Go.Proofs.Ytmpcoljollkfjaa
