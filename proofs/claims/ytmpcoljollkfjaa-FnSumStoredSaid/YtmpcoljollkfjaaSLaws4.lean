/- The walk of the law SumStored; no condition. -/
import Derived.Test.YtmpcoljollkfjaaSDraw3
import Derived.Test.YtmpcoljollkfjaaSLaws2
import Derived.Test.YtmpcoljollkfjaaStored
namespace Go.Proofs.Ytmpcoljollkfjaa
open Go.RowKit
set_option linter.unusedVariables false
set_option linter.unusedSimpArgs false
set_option maxHeartbeats 2000000
set_option maxRecDepth 100000

theorem implOneOf_ok (W P : Int) (h : fmtB W P = true) (w : World) : Calls Try.prog 41 #[.agg #[.int .i64 W, .int .i64 P]] w fun e w' => e = .returned (.int .i64 (2 ^ P.toNat)) ∧ Below w.heap.size w w' := by
  obtain ⟨h0, h1, h2, h3⟩ := sfour (n := 0) h
  have H := Lib.hid h
  obtain ⟨e0, e1⟩ := p216 P h2 h3
  clear h
  go_enter Try.func41, Try.ntmps41
  go_wp2_with (go_at_call 51; refine (implFormatValid_any _ _ _).mono ?_; rintro e w1 ⟨he, hb⟩; rw [H.out] at he; subst he; (first | (have hq := bcomp hc hf hz hb; clear hc hf hz; obtain ⟨hc, hf, hz⟩ := hq) | (obtain ⟨hc, hf⟩ := bcell hb; have hz := bsize hb)))
  go_ret
  exact ⟨ret_int (by simp), (by repeat (first | exact bw_refl _ | assumption | apply bw_alloc | apply bw_drew | apply bw_drewN | (refine bw_trans ?_ (by assumption)) | (refine bw_set ?_ (by simp only [go_sem]; omega) _)))⟩
/-- The law's numbers: the half and one more, and one; both fit, and their product is stored alike. -/
theorem stored_math (W P p k : Int) (h : fmtB W P = true) (hp : (2 : Int) ^ P.toNat = p) (hk : p / 2 + 1 = k) :
    (prodV W P 0 k p = k * p ∧ prodL W P 0 false k p = false) ∧ storedV W P (k * p) = putV W P k p (rdiv (k * p) (2 ^ P.toNat)) ∧ storedL W P (k * p) false = putB W P k p (rdiv (k * p) (2 ^ P.toNat)) := by
  obtain ⟨h0, h1, h2, h3⟩ := sfour (n := 0) h
  obtain ⟨e0, e1⟩ := p216 P h2 h3
  rw [hp] at e0 e1
  have hpw : 2 * p ≤ pw W P := by
    obtain ⟨a, b, rfl, rfl, hpe⟩ := toNat_split W P h0 h2
    rw [hpe]
    have hb : (b : Int).toNat = b := Int.toNat_natCast b
    rw [hb] at hp
    rw [← hp]
    have ha : 1 ≤ a := by omega
    have e : (2 : Int) ^ (a + b) = 2 ^ (a - 1) * (2 * 2 ^ b) := by
      have : a + b = (a - 1) + (b + 1) := by omega
      rw [this, Int.pow_add, Int.pow_succ]
      congr 1
      rw [Int.mul_comm]
    rw [e]
    have h1 : (1 : Int) ≤ 2 ^ (a - 1) := by have := Int.pow_pos (n := 2) (m := a - 1) (by decide); omega
    have h2 : (0 : Int) ≤ 2 * 2 ^ b := by have := Int.pow_pos (n := 2) (m := b) (by decide); omega
    have := Int.mul_le_mul_of_nonneg_right h1 h2
    omega
  have k0 : 1 ≤ k := by omega
  have k1 : k ≤ p + 1 := by omega
  have fp : fitsB W P p = true := by unfold fitsB; rw [h, Bool.true_and, inB_iff]; omega
  have fk : fitsB W P k = true := by unfold fitsB; rw [h, Bool.true_and, inB_iff]; omega
  have hb1 : 0 ≤ k * p := Int.mul_nonneg (by omega) (by omega)
  have hb2 : k * p ≤ 65537 * 65536 := Int.mul_le_mul (by omega) e1 (by omega) (by omega)
  have hin : inB (k * p) (-1125899906842624) 1125899906842624 = true := (inB_iff _ _ _).2 (by omega)
  have hok : okS 0 (k * p) = true := (okS_iff _ _).2 (by omega)
  have hcut : cutS (0 + k * p) = 0 + k * p := by unfold cutS; omega
  refine ⟨⟨?_, ?_⟩, ?_, ?_⟩
  · unfold prodV sumV; rw [fp, fk, hok]; simp only [Bool.and_self, if_true]; rw [hcut]; omega
  · unfold prodL sumL; rw [fp, fk, hok]; simp only [Bool.and_self, if_true]; rw [hcut]; simp
  · unfold storedV putV; rw [hin, h, fp, fk] <;> rfl
  · unfold storedL putB; rw [hin, h, fp, fk] <;> simp
theorem stored_fits (W P v : Int) (h : fmtB W P = true) (hv : inB v (-1125899906842624) 1125899906842624 = true) : fitsB W P (storedV W P v) = true := by
  obtain ⟨h0, h1, h2, h3⟩ := sfour (n := 0) h
  obtain ⟨b0, b1⟩ := pw_bd W P h0 h1 h2 h3
  unfold storedV fitsB
  rw [hv, h]
  simp only [Bool.and_self, if_true, Bool.true_and]
  rw [inB_iff]
  unfold cutF
  omega
theorem stored_no (W P v : Int) (l : Bool) (h : inB v (-1125899906842624) 1125899906842624 = false ∨ fmtB W P = false) : storedV W P v = 0 ∧ storedL W P v l = false := by
  unfold storedV storedL
  rcases h with h | h <;> rw [h] <;> simp
theorem walk_FnSumStored (A : Option Addr) (n c : Nat) (xs : List Int) (w : World) (h : Byts w w.heap.size A xs) (hn : xs.length = n) (hc : n ≤ c) (hm : c ≤ maxLen) :
    Calls Try.prog 14 #[.slice A n c] w fun e w' => e = .returned (.bool true) ∧ Below w.heap.size w w' := by
  by_cases hbig : 1048576 < n
  · unfold maxLen at hm
    clear hn
    go_enter Try.func14, Try.ntmps14
    go_wp2
    go_ret
    exact ⟨rfl, (by repeat (first | exact bw_refl _ | assumption | apply bw_alloc | apply bw_drew | apply bw_drewN | (refine bw_trans ?_ (by assumption)) | (refine bw_set ?_ (by simp only [go_sem]; omega) _)))⟩
  · have HN := Lib.hid hn
    clear hn
    go_enter Try.func14, Try.ntmps14
    go_upto_region 3 with fail
    go_cut [3, 4] (fun s t wx => ∃ (g3 g4 : Nat) (v : Int) (l : Bool) (W P : Int), s = .pointer (some ⟨g3, 0, none⟩) ∧ t = .pointer (some ⟨g4, 0, none⟩) ∧ Blk wx g3 26 #[.int .i64 v, .bool l] ∧ Blk wx g4 40 #[.int .i64 W, .int .i64 P] ∧ Below w.heap.size w wx)
    case first =>
      go_wp2_with fail
      refine (drawSumStored_any A n c xs w w h HN.out hc hm (by omega) (bw_refl w)).mono ?_
      rintro e w1 ⟨v, l, W, P, rfl, hb1⟩
      have l4 := Blk.new (w1.alloc (.cells #[.int .i64 v, .bool l] 26)) 40 #[.int .i64 W, .int .i64 P]
      rw [World.size_alloc] at l4
      go_wp2
      go_meet
      exact ⟨_, _, v, l, W, P, rfl, rfl, Blk.alloc (Blk.new _ _ _) _, l4, (by repeat (first | exact bw_refl _ | assumption | apply bw_alloc | apply bw_drew | apply bw_drewN | (refine bw_trans ?_ (by assumption)) | (refine bw_set ?_ (by simp only [go_sem]; omega) _)))⟩
    case rest =>
      obtain ⟨g3, g4, v, l, W, P, rfl, rfl, l3, l4, hbc⟩ := hcut
      obtain ⟨n0, n1, m0, m1⟩ := cell2 l3
      obtain ⟨s0, s1, p0, p1⟩ := fcell2 l4
      have z3 := l3.lt
      have z4 := l4.lt
      obtain ⟨y, hy⟩ : ∃ y, storedV W P v = y := ⟨_, rfl⟩
      obtain ⟨q, hq⟩ : ∃ q, storedL W P v l = q := ⟨_, rfl⟩
      obtain ⟨o1, ho1⟩ : ∃ o, inB v (-1125899906842624) 1125899906842624 = o := ⟨_, rfl⟩
      obtain ⟨o2, ho2⟩ : ∃ o, fmtB W P = o := ⟨_, rfl⟩
      have HY := Lib.hid hy
      have HQ := Lib.hid hq
      have HO1 := Lib.hid ho1
      have HO2 := Lib.hid ho2
      clear hy hq ho1 ho2
      by_cases hall : o1 = true ∧ o2 = true
      · obtain ⟨rfl, rfl⟩ := hall
        obtain ⟨h0, h1, h2, h3⟩ := sfour (n := 0) HO2.out
        obtain ⟨e0, e1⟩ := p216 P h2 h3
        obtain ⟨p, hp⟩ : ∃ p, (2 : Int) ^ P.toNat = p := ⟨_, rfl⟩
        obtain ⟨k, hk⟩ : ∃ k, p / 2 + 1 = k := ⟨_, rfl⟩
        obtain ⟨⟨k1, k2⟩, k3, k4⟩ := stored_math W P p k HO2.out hp hk
        obtain ⟨a, ha⟩ : ∃ a, putV W P k p (rdiv (k * p) (2 ^ P.toNat)) = a := ⟨_, rfl⟩
        obtain ⟨b, hbb⟩ : ∃ a, putB W P k p (rdiv (k * p) (2 ^ P.toNat)) = a := ⟨_, rfl⟩
        rw [ha] at k3
        rw [hbb] at k4
        have hql : q = true → l = false := fun hh => by
          rw [← HQ.out] at hh
          unfold storedL at hh
          simp only [Bool.and_eq_true] at hh
          simpa using hh.2
        have hfit := stored_fits W P v HO2.out HO1.out
        rw [HY.out] at hfit
        have HFIT := Lib.hid hfit
        rw [hp] at e0 e1
        have HP := Lib.hid hp
        have K1 := Lib.hid k1
        have K2 := Lib.hid k2
        have K3 := Lib.hid k3
        have K4 := Lib.hid k4
        have HA := Lib.hid ha
        have HB := Lib.hid hbb
        have HQL := Lib.hid hql
        have HKK := Lib.hid hk
        clear hp k1 k2 k3 k4 ha hbb hql hfit hk
        clear z3 z4
        go_upto_region 11 with (first
          | (go_at_call 31; refine (implSumStored_any v l W P _).mono ?_; rintro e w1 ⟨he, hb⟩; rw [HY.out, HQ.out] at he; subst he; replace l3 := l3.kept hb; replace l4 := l4.kept hb; replace hbc := bw_trans hbc hb; clear n0 n1 m0 m1 s0 s1 p0 p1 hb; obtain ⟨n0, n1, m0, m1⟩ := cell2 l3; obtain ⟨s0, s1, p0, p1⟩ := fcell2 l4)
          | (go_at_call 30; refine (specSumStored_any v l W P _).mono ?_; rintro e w1 ⟨he, hb⟩; rw [HY.out, HQ.out] at he; subst he; replace l3 := l3.kept hb; replace l4 := l4.kept hb; replace hbc := bw_trans hbc hb; clear n0 n1 m0 m1 s0 s1 p0 p1 hb; obtain ⟨n0, n1, m0, m1⟩ := cell2 l3; obtain ⟨s0, s1, p0, p1⟩ := fcell2 l4)
          | (go_at_call 17; refine (specSumValid_any v l _).mono ?_; rintro e w1 ⟨he, hb⟩; rw [HO1.out] at he; subst he; replace l3 := l3.kept hb; replace l4 := l4.kept hb; replace hbc := bw_trans hbc hb; clear n0 n1 m0 m1 s0 s1 p0 p1 hb; obtain ⟨n0, n1, m0, m1⟩ := cell2 l3; obtain ⟨s0, s1, p0, p1⟩ := fcell2 l4)
          | (go_at_call 40; refine (specFormatValid_any W P _).mono ?_; rintro e w1 ⟨he, hb⟩; rw [HO2.out] at he; subst he; replace l3 := l3.kept hb; replace l4 := l4.kept hb; replace hbc := bw_trans hbc hb; clear n0 n1 m0 m1 s0 s1 p0 p1 hb; obtain ⟨n0, n1, m0, m1⟩ := cell2 l3; obtain ⟨s0, s1, p0, p1⟩ := fcell2 l4)
          | (go_at_call 41; refine (implOneOf_ok W P HO2.out _).mono ?_; rintro e w1 ⟨he, hb⟩; rw [HP.out] at he; subst he; replace l3 := l3.kept hb; replace l4 := l4.kept hb; replace hbc := bw_trans hbc hb; clear n0 n1 m0 m1 s0 s1 p0 p1 hb; obtain ⟨n0, n1, m0, m1⟩ := cell2 l3; obtain ⟨s0, s1, p0, p1⟩ := fcell2 l4))
        have z3 := l3.lt
        have z4 := l4.lt
        have r0 := HKK.out
        have r1 : p.tdiv 2 = p / 2 := Int.tdiv_eq_ediv_of_nonneg (by omega)
        have r2 : IntKind.i64.wrap (p / 2) = p / 2 := IntWalk.i64_in _ (by omega)
        have r3 : IntKind.i64.wrap k = k := IntWalk.i64_in _ (by omega)
        go_cut [10, 11] (fun s t wx => s = .int .i64 a ∧ t = .bool b ∧ Blk wx g3 26 #[.int .i64 v, .bool l] ∧ Blk wx g4 40 #[.int .i64 W, .int .i64 P] ∧ Below w.heap.size w wx)
        case first =>
          refine wp_region_below (by kernel_rfl) (fun wD hHeld => ?_)
          refine wpAnyH_take (i := 0) (v := ?_) (by (simp only [List.getElem?_toArray, List.getElem?_cons_zero]; rfl)) (by kernel_rfl) (by kernel_rfl) (by kernel_rfl) (by exact fun _ _ _ h => h) (Or.inl ⟨by rfl, ?_⟩) (by assumption) ?_
          rotate_left
          · (intro wS hS; clear hS; go_simp; try with_reducible rfl)
          try simp only [Act.put, List.setIfInBounds_toArray, List.set_cons_zero, List.set_cons_succ]
          refine wpAnyH_take (i := 1) (v := ?_) (by (simp only [List.getElem?_toArray, List.getElem?_cons_succ, List.getElem?_cons_zero]; rfl)) (by kernel_rfl) (by kernel_rfl) (by kernel_rfl) (by exact fun _ _ _ h => h) (Or.inl ⟨by rfl, ?_⟩) (by assumption) ?_
          rotate_left
          · (intro wS hS; have hSc := (bcell hS).1; clear hS; go_simp; try with_reducible rfl)
          try simp only [Act.put, List.setIfInBounds_toArray, List.set_cons_zero, List.set_cons_succ]
          refine wpAnyH_take (i := 2) (v := ?_) (by (simp only [List.getElem?_toArray, List.getElem?_cons_succ, List.getElem?_cons_zero]; rfl)) (by kernel_rfl) (by kernel_rfl) (by kernel_rfl) (by exact fun _ _ _ h => h) (Or.inl ⟨by rfl, ?_⟩) (by assumption) ?_
          rotate_left
          · (intro wS hS; clear hS; go_simp; try with_reducible rfl)
          try simp only [Act.put, List.setIfInBounds_toArray, List.set_cons_zero, List.set_cons_succ]
          refine wpAnyH_take (i := 3) (v := ?_) (by (simp only [List.getElem?_toArray, List.getElem?_cons_succ, List.getElem?_cons_zero]; rfl)) (by kernel_rfl) (by kernel_rfl) (by kernel_rfl) (by exact fun _ _ _ h => h) (Or.inl ⟨by rfl, ?_⟩) (by assumption) ?_
          rotate_left
          · (intro wS hS; clear hS; go_simp; try with_reducible rfl)
          try simp only [Act.put, List.setIfInBounds_toArray, List.set_cons_zero, List.set_cons_succ]
          refine wpAnyH_take (i := 4) (v := ?_) (by (simp only [List.getElem?_toArray, List.getElem?_cons_succ, List.getElem?_cons_zero]; rfl)) (by kernel_rfl) (by kernel_rfl) (by kernel_rfl) (by exact fun _ _ _ h => h) (Or.inl ⟨by rfl, ?_⟩) (by assumption) ?_
          rotate_left
          · (intro wS hS; clear hS; go_simp; try with_reducible rfl)
          try simp only [Act.put, List.setIfInBounds_toArray, List.set_cons_zero, List.set_cons_succ]
          refine wpAnyH_take (i := 5) (v := ?_) (by (simp only [List.getElem?_toArray, List.getElem?_cons_succ, List.getElem?_cons_zero]; rfl)) (by kernel_rfl) (by kernel_rfl) (by kernel_rfl) (by exact fun _ _ _ h => h) (Or.inl ⟨by rfl, ?_⟩) (by assumption) ?_
          rotate_left
          · (intro wS hS; clear hS; go_simp; try with_reducible rfl)
          try simp only [Act.put, List.setIfInBounds_toArray, List.set_cons_zero, List.set_cons_succ]
          refine wpAnyH_take (i := 7) (v := ?_) (by (simp only [List.getElem?_toArray, List.getElem?_cons_succ, List.getElem?_cons_zero]; rfl)) (by kernel_rfl) (by kernel_rfl) (by kernel_rfl) (by exact fun _ _ _ h => h) (Or.inl ⟨by rfl, ?_⟩) (by assumption) ?_
          rotate_left
          · (intro wS hS; have hSc := (bcell hS).1; clear hS; go_simp; try with_reducible rfl)
          try simp only [Act.put, List.setIfInBounds_toArray, List.set_cons_zero, List.set_cons_succ]
          refine wpAnyH_ready (rs := [6]) (by kernel_rfl) (by simp) ?_
          refine AllReadyH.cons (by (simp only [List.getElem?_toArray, List.getElem?_cons_succ, List.getElem?_cons_zero]; rfl)) (fun K hK => ?_) AllReadyH.nil
          go_simp
          ((first | (go_at_call 29; refine (implSumProduct_any 0 false W P k p _).mono ?_; rintro e w4 ⟨he, hb⟩; rw [K1.out, K2.out] at he; subst he) | (go_at_call 31; refine (implSumStored_any (k * p) false W P _).mono ?_; rintro e w5 ⟨he, hb⟩; rw [K3.out, K4.out] at he; subst he)))
          (try go_wp2_with fail)
          refine hK.out _ _ (by repeat (first | exact bw_refl _ | assumption | apply bw_alloc | apply bw_drew | apply bw_drewN | (refine bw_trans ?_ (by assumption)) | (refine bw_set ?_ (by simp only [go_sem]; omega) _))) (fun hHeld => ?_)
          clear hK K
          try simp only [Act.put, List.setIfInBounds_toArray, List.set_cons_zero, List.set_cons_succ]
          refine wpAnyH_ready (rs := [8]) (by kernel_rfl) (by simp) ?_
          refine AllReadyH.cons (by (simp only [List.getElem?_toArray, List.getElem?_cons_succ, List.getElem?_cons_zero]; rfl)) (fun K hK => ?_) AllReadyH.nil
          go_simp
          ((first | (go_at_call 29; refine (implSumProduct_any 0 false W P k p _).mono ?_; rintro e w4 ⟨he, hb⟩; rw [K1.out, K2.out] at he; subst he) | (go_at_call 31; refine (implSumStored_any (k * p) false W P _).mono ?_; rintro e w5 ⟨he, hb⟩; rw [K3.out, K4.out] at he; subst he)))
          (try go_wp2_with fail)
          refine hK.out _ _ (by repeat (first | exact bw_refl _ | assumption | apply bw_alloc | apply bw_drew | apply bw_drewN | (refine bw_trans ?_ (by assumption)) | (refine bw_set ?_ (by simp only [go_sem]; omega) _))) (fun hHeld => ?_)
          clear hK K
          try simp only [Act.put, List.setIfInBounds_toArray, List.set_cons_zero, List.set_cons_succ]
          refine wpAnyH_take (i := 9) (v := ?_) (by (simp only [List.getElem?_toArray, List.getElem?_cons_succ, List.getElem?_cons_zero]; rfl)) (by kernel_rfl) (by kernel_rfl) (by kernel_rfl) (by exact fun _ _ _ h => h) (Or.inl ⟨by rfl, ?_⟩) (by assumption) ?_
          rotate_left
          · (intro wS hS; clear hS; go_simp; try with_reducible rfl)
          try simp only [Act.put, List.setIfInBounds_toArray, List.set_cons_zero, List.set_cons_succ]
          refine wpAnyH_take (i := 10) (v := ?_) (by (simp only [List.getElem?_toArray, List.getElem?_cons_succ, List.getElem?_cons_zero]; rfl)) (by kernel_rfl) (by kernel_rfl) (by kernel_rfl) (by exact fun _ _ _ h => h) (Or.inl ⟨by rfl, ?_⟩) (by assumption) ?_
          rotate_left
          · (intro wS hS; clear hS; go_simp; try with_reducible rfl)
          try simp only [Act.put, List.setIfInBounds_toArray, List.set_cons_zero, List.set_cons_succ]
          refine wpAnyH_take (i := 11) (v := ?_) (by (simp only [List.getElem?_toArray, List.getElem?_cons_succ, List.getElem?_cons_zero]; rfl)) (by kernel_rfl) (by kernel_rfl) (by kernel_rfl) (by exact fun _ _ _ h => h) (Or.inl ⟨by rfl, ?_⟩) (by assumption) ?_
          rotate_left
          · (intro wS hS; clear hS; go_simp; try with_reducible rfl)
          try simp only [Act.put, List.setIfInBounds_toArray, List.set_cons_zero, List.set_cons_succ]
          refine wpAnyH_take (i := 12) (v := ?_) (by (simp only [List.getElem?_toArray, List.getElem?_cons_succ, List.getElem?_cons_zero]; rfl)) (by kernel_rfl) (by kernel_rfl) (by kernel_rfl) (by exact fun _ _ _ h => h) (Or.inl ⟨by rfl, ?_⟩) (by assumption) ?_
          rotate_left
          · (intro wS hS; clear hS; go_simp; try with_reducible rfl)
          try simp only [Act.put, List.setIfInBounds_toArray, List.set_cons_zero, List.set_cons_succ]
          refine wpAnyH_take (i := 13) (v := ?_) (by (simp only [List.getElem?_toArray, List.getElem?_cons_succ, List.getElem?_cons_zero]; rfl)) (by kernel_rfl) (by kernel_rfl) (by kernel_rfl) (by exact fun _ _ _ h => h) (Or.inl ⟨by rfl, ?_⟩) (by assumption) ?_
          rotate_left
          · (intro wS hS; clear hS; go_simp; try with_reducible rfl)
          try simp only [Act.put, List.setIfInBounds_toArray, List.set_cons_zero, List.set_cons_succ]
          refine wpAnyH_done (by kernel_rfl) ?_ _
          go_wp2
          go_meet
          exact ⟨rfl, rfl, l3.kept hHeld, l4.kept hHeld, bw_trans hbc hHeld⟩
        case rest =>
          obtain ⟨rfl, rfl, l3, l4, hbc⟩ := hcut
          clear n0 n1 m0 m1 s0 s1 p0 p1
          obtain ⟨n0, n1, m0, m1⟩ := cell2 l3
          obtain ⟨s0, s1, p0, p1⟩ := fcell2 l4
          clear r0 r2 r3 r1 z3 z4
          have r5 : p / 2 ≤ 65536 := by omega
          have r6 := HKK.out
          go_wp2_with (first
            | (go_at_call 42; refine (implMulStored_any W P k p _).mono ?_; rintro e w5 ⟨he, hb⟩; rw [HA.out, HB.out] at he; subst he; replace l3 := l3.kept hb; replace l4 := l4.kept hb; replace hbc := bw_trans hbc hb; clear n0 n1 m0 m1 s0 s1 p0 p1 hb; obtain ⟨n0, n1, m0, m1⟩ := cell2 l3; obtain ⟨s0, s1, p0, p1⟩ := fcell2 l4)
            | (go_at_call 43; refine (implStoredFits_any W P y _).mono ?_; rintro e w6 ⟨he, hb⟩; rw [HFIT.out] at he; subst he; replace l3 := l3.kept hb; replace l4 := l4.kept hb; replace hbc := bw_trans hbc hb; clear n0 n1 m0 m1 s0 s1 p0 p1 hb; obtain ⟨n0, n1, m0, m1⟩ := cell2 l3; obtain ⟨s0, s1, p0, p1⟩ := fcell2 l4))
          all_goals
            go_ret
            refine ⟨ret_bool ?_, (by repeat (first | exact bw_refl _ | assumption | apply bw_alloc | apply bw_drew | apply bw_drewN | (refine bw_trans ?_ (by assumption)) | (refine bw_set ?_ (by simp only [go_sem]; omega) _)))⟩
            have hh := HQL.out
            cases q <;> simp_all
      · have hno : inB v (-1125899906842624) 1125899906842624 = false ∨ fmtB W P = false := by
          rw [HO1.out, HO2.out]
          cases o1 <;> cases o2 <;> simp_all
        obtain ⟨e1, e2⟩ := stored_no W P v l hno
        rw [HY.out] at e1
        rw [HQ.out] at e2
        subst e1 e2
        have hkk : o1 = false ∨ (o1 = true ∧ o2 = false) := by cases o1 <;> cases o2 <;> simp_all
        clear hno hall z3 z4
        rcases hkk with rfl | ⟨rfl, rfl⟩
        all_goals
          go_wp2_with (first
            | (go_at_call 31; refine (implSumStored_any v l W P _).mono ?_; rintro e w1 ⟨he, hb⟩; rw [HY.out, HQ.out] at he; subst he; replace l3 := l3.kept hb; replace l4 := l4.kept hb; replace hbc := bw_trans hbc hb; clear n0 n1 m0 m1 s0 s1 p0 p1 hb; obtain ⟨n0, n1, m0, m1⟩ := cell2 l3; obtain ⟨s0, s1, p0, p1⟩ := fcell2 l4)
            | (go_at_call 30; refine (specSumStored_any v l W P _).mono ?_; rintro e w1 ⟨he, hb⟩; rw [HY.out, HQ.out] at he; subst he; replace l3 := l3.kept hb; replace l4 := l4.kept hb; replace hbc := bw_trans hbc hb; clear n0 n1 m0 m1 s0 s1 p0 p1 hb; obtain ⟨n0, n1, m0, m1⟩ := cell2 l3; obtain ⟨s0, s1, p0, p1⟩ := fcell2 l4)
            | (go_at_call 17; refine (specSumValid_any v l _).mono ?_; rintro e w1 ⟨he, hb⟩; rw [HO1.out] at he; subst he; replace l3 := l3.kept hb; replace l4 := l4.kept hb; replace hbc := bw_trans hbc hb; clear n0 n1 m0 m1 s0 s1 p0 p1 hb; obtain ⟨n0, n1, m0, m1⟩ := cell2 l3; obtain ⟨s0, s1, p0, p1⟩ := fcell2 l4)
            | (go_at_call 40; refine (specFormatValid_any W P _).mono ?_; rintro e w1 ⟨he, hb⟩; rw [HO2.out] at he; subst he; replace l3 := l3.kept hb; replace l4 := l4.kept hb; replace hbc := bw_trans hbc hb; clear n0 n1 m0 m1 s0 s1 p0 p1 hb; obtain ⟨n0, n1, m0, m1⟩ := cell2 l3; obtain ⟨s0, s1, p0, p1⟩ := fcell2 l4)
            | (go_at_call 33; refine (alive_any _).mono ?_; rintro e w4 ⟨rfl, rfl⟩))
          go_ret
          exact ⟨ret_bool (by simp), (by repeat (first | exact bw_refl _ | assumption | apply bw_alloc | apply bw_drew | apply bw_drewN | (refine bw_trans ?_ (by assumption)) | (refine bw_set ?_ (by simp only [go_sem]; omega) _)))⟩
end Go.Proofs.Ytmpcoljollkfjaa
