/- Contracts of RoundDiv and of MeanFilter, of the program's and the reference's, and the walk of its exact law; no condition. -/
import Derived.Test.YtpmojbdoiahodaaLimit
namespace Go.Proofs.Ytpmojbdoiahodaa
open Go.RowKit
set_option linter.unusedVariables false
set_option maxHeartbeats 4000000

theorem implRoundDiv_ok (a b : Int) (hb : 0 < b) (hb2 : b ≤ 1152921504606846976) (h0 : -1152921504606846976 ≤ a) (h1 : a ≤ 1152921504606846976) (w : World) :
    Calls Try.prog 40 #[.int .i64 a, .int .i64 b] w fun e w' => e = .returned (.int .i64 (rdiv a b)) ∧ w = w' := by
  have hi : inB a (-1152921504606846976) 1152921504606846976 = true := (inB_iff _ _ _).2 ⟨h0, h1⟩
  obtain ⟨q0, q1⟩ := ediv_bd a b 1152921504606846976 hb h0 h1 (by omega)
  obtain ⟨r0, r1⟩ := rest_bd a b hb
  have hp : bits .and .i64 (a / b) 1 = a / b % 2 := and_mask (a / b) 1 (by omega)
  have hz : a / b % 2 = 0 ∨ a / b % 2 = 1 := by omega
  have HZ := Lib.hid hz
  clear hz
  go_enter Try.func40, Try.ntmps40
  go_wp2_with (first
    | (go_at_call 46; refine (workable_any _ _).mono ?_; rintro e w' ⟨rfl, rfl⟩)
    | (go_at_call 47; refine (implFloorDiv_ok a b hb hb2 h0 h1 _).mono ?_; rintro e w' ⟨rfl, rfl⟩))
  all_goals (go_ret; refine ⟨ret_int ?_, rfl⟩; have := HZ.out; unfold rdiv; split <;> (first | omega | (simp_all; try omega)))
def psum (xs : List Int) : Nat → Int
  | 0 => 0
  | k + 1 => psum xs k + xs.getD k 0
theorem psum_bd (xs : List Int) (h : ∀ j, j < xs.length → -1000000 ≤ xs.getD j 0 ∧ xs.getD j 0 ≤ 1000000) : ∀ k, k ≤ xs.length → -(1000000 * (k : Int)) ≤ psum xs k ∧ psum xs k ≤ 1000000 * (k : Int)
  | 0, _ => by simp [psum]
  | k + 1, hk => by
    have h1 := psum_bd xs h k (by omega)
    have h2 := h k (by omega)
    rw [psum]
    omega
def meanF (xs : List Int) (N : Nat) (k : Nat) : Int := rdiv (psum xs (k + 1) - psum xs (k + 1 - N)) ((min (k + 1) N : Nat) : Int)
def meanFilter (xs : List Int) (n : Int) : List Int := if seriesB xs && inB n 1 60 then tab (meanF xs n.toNat) xs.length else []
theorem specMeanFilter_any (A : Option Addr) (n c : Nat) (xs : List Int) (m : Int) (w : World) (hn : xs.length = n) (h : Ints w w.heap.size A xs) (hlen : n ≤ 4294967296) :
    Calls Try.prog 26 #[.slice A n c, .int .i64 m] w fun e w' => IsNew w (meanFilter xs m) e w' := by
  subst hn
  by_cases hv : (seriesB xs && inB m 1 60) = true
  · have E1 : Hid (meanFilter xs m = tab (meanF xs m.toNat) xs.length) := by simp only [Hid, meanFilter, hv, if_true]
    have hv2 := hv
    rw [Bool.and_eq_true] at hv2
    obtain ⟨hs, hm⟩ := hv2
    obtain ⟨l1, hall⟩ := seriesB_at xs hs
    obtain ⟨m0, m1⟩ := (inB_iff _ _ _).1 hm
    have HB := Lib.hid (psum_bd xs hall)
    clear hall hv
    obtain ⟨N, rfl⟩ : ∃ N : Nat, m = N := ⟨m.toNat, by omega⟩
    have eN : ((N : Int)).toNat = N := rfl
    rw [eN] at E1
    clear eN
    go_enter Try.func26, Try.ntmps26
    go_wp2
    go_loopw [5, 6] (fun v i wr => ∃ k : Nat, k ≤ xs.length ∧ i = .int .i64 k ∧ App wr w.heap.size v (tab (meanF xs N) k) ∧ Below w.heap.size w wr) (fun _ i _ => xs.length - (intOf i).toNat)
    case atStart => exact ⟨0, by omega, rfl, App.empty w _ (Nat.le_refl _), (by repeat (first | exact bw_refl _ | assumption | apply bw_alloc | apply bw_drew | apply bw_drewN | (refine bw_trans ?_ (by assumption)) | (refine bw_set ?_ (by simp only [go_sem]; omega) _)))⟩
    case round =>
      obtain ⟨k, hk, rfl, hP, hb⟩ := hrel
      have hB : w.heap.size ≤ wr.heap.size := hb.size
      by_cases hlt : k < xs.length
      · have hI : Ints wr wr.heap.size A xs := h.up hb
        obtain ⟨b, off, rfl, hbl, hc⟩ := hI (by omega)
        have HC := Lib.hid hc
        clear hc
        obtain ⟨s0, hs0⟩ : ∃ s0, s0 = k + 1 - N := ⟨_, rfl⟩
        have HF : Hid (meanF xs N k = rdiv (psum xs (k + 1) - psum xs s0) ((min (k + 1) N : Nat) : Int)) := by rw [hs0]; rfl
        have HS := Lib.hid hs0
        have hsk : s0 ≤ k := by omega
        clear hs0
        by_cases hq : (0 : Int) < (k : Int) - N + 1
        all_goals
          go_wp2_with (first
            | (go_at_call 14; refine (specSeriesValid_any _ _ _ xs _ rfl hI (by omega)).mono ?_; rintro e w' ⟨rfl, rfl⟩)
            | (go_at_call 36; refine (l1In_any _ _ _ _).mono ?_; rintro e w' ⟨rfl, rfl⟩))
          go_loop [7, 8, 9] (fun s q j => ∃ (t : Nat) (sv : Int), s0 + t ≤ k + 1 ∧ s = .int .i64 sv ∧ q = .int .i64 (t : Int) ∧ j = .int .i64 ((s0 : Int) + t) ∧ sv = psum xs (s0 + t) - psum xs s0 ∧ -120000000 ≤ sv ∧ sv ≤ 120000000) (fun _ _ j => k + 1 - (intOf j).toNat)
          case atStart =>
            have := HS.out
            exact ⟨0, 0, by omega, rfl, rfl, congrArg (Value.int .i64) (by first | (split <;> omega) | omega), by simp, by omega, by omega⟩
          case round =>
            obtain ⟨t, sv, ht, rfl, rfl, rfl, hsv, v0, v1⟩ := hrel
            have HV := Lib.hid hsv
            clear hsv
            by_cases hlt2 : s0 + t ≤ k
            · have hc1 := HC.out (s0 + t) (by omega)
              have hbd := HB.out (s0 + t + 1) (by omega)
              have hbd0 := HB.out s0 (by omega)
              have hps : psum xs (s0 + t + 1) = psum xs (s0 + t) + xs.getD (s0 + t) 0 := rfl
              obtain ⟨x, hx⟩ : ∃ x, xs.getD (s0 + t) 0 = x := ⟨_, rfl⟩
              rw [hx] at hc1 hps
              have hv2 : psum xs (s0 + t + 1) - psum xs s0 = sv + x := by rw [HV.out, hps]; omega
              have w0 : -120000000 ≤ sv + x := by omega
              have w1 : sv + x ≤ 120000000 := by omega
              have HX := Lib.hid hv2
              clear hx hps hv2 hbd hbd0
              have ht2 : (s0 : Int) + t ≤ k := by omega
              have ht3 : (0 : Int) ≤ (s0 : Int) + t := by omega
              have ht4 : (s0 : Int) + t < xs.length := by omega
              have ht5 : ((s0 : Int) + t).toNat = s0 + t := by omega
              go_wp2
              go_round
              case rel => exact ⟨t + 1, sv + x, by omega, rfl, by go_num, by first | rfl | (congr 1; omega) | go_num, by rw [← HX.out]; rfl, by omega, by omega⟩
              case measure => simp [intOf] <;> omega
            · have hst : s0 + t = k + 1 := by omega
              have hmin : (t : Int) = ((min (k + 1) N : Nat) : Int) := by have := HS.out; omega
              have ht2 : ¬ ((s0 : Int) + t ≤ k) := by omega
              have ht1 : 0 < (t : Int) := by omega
              have hmean : rdiv sv t = meanF xs N k := by rw [HF.out, HV.out, hmin, hst]
              have HM := Lib.hid hmean
              clear hmean hmin
              go_wp2_with (first
                | (go_at_call 38; refine (l1Round_any sv t (by omega) (by omega) (by omega) (by omega) _).mono ?_; rintro e w' ⟨rfl, rfl⟩)
                | (at_builtin; refine wpList_append_int rfl (.tmp 43) (.tmp 47) rfl w.heap.size _ _ _ w wr rfl rfl hP (by rw [tab_length]; omega) hb hB ?_; rintro v' w' hP2 hb2))
              go_roundw
              case rel => exact ⟨k + 1, by omega, by go_num, by rw [tab_succ, ← HM.out]; exact hP2, hb2⟩
              case measure => simp [intOf] <;> omega
      · have hkk : k = xs.length := by omega
        go_wp2
        go_ret
        rw [E1.out, ← hkk]
        exact IsNew.app hP hb
  · have E1 : Hid (meanFilter xs m = []) := by simp only [Hid, meanFilter, hv]; rfl
    have hv2 : seriesB xs = false ∨ inB m 1 60 = false := by
      cases h1 : seriesB xs
      · exact .inl rfl
      · cases h2 : inB m 1 60
        · exact .inr rfl
        · rw [h1, h2] at hv; exact absurd rfl hv
    clear hv
    go_enter Try.func26, Try.ntmps26
    go_wp2
    go_loopw [5, 6] (fun v i wr => i = .int .i64 0 ∧ App wr w.heap.size v [] ∧ Below w.heap.size w wr) (fun _ i _ => 0)
    case atStart => exact ⟨rfl, App.empty w _ (Nat.le_refl _), (by repeat (first | exact bw_refl _ | assumption | apply bw_alloc | apply bw_drew | apply bw_drewN | (refine bw_trans ?_ (by assumption)) | (refine bw_set ?_ (by simp only [go_sem]; omega) _)))⟩
    case round =>
      obtain ⟨rfl, hP, hb⟩ := hrel
      have hI : Ints wr wr.heap.size A xs := h.up hb
      by_cases hlt : 0 < xs.length
      · cases hs : seriesB xs
        · go_wp2_with (go_at_call 14; refine (specSeriesValid_any _ _ _ xs _ rfl hI (by omega)).mono ?_; rintro e w' ⟨rfl, rfl⟩)
          go_ret
          rw [E1.out]
          exact IsNew.app hP hb
        · have hm : inB m 1 60 = false := by rcases hv2 with h1 | h1; (rw [hs] at h1; cases h1); exact h1
          go_wp2_with (first
            | (go_at_call 14; refine (specSeriesValid_any _ _ _ xs _ rfl hI (by omega)).mono ?_; rintro e w' ⟨rfl, rfl⟩)
            | (go_at_call 36; refine (l1In_any _ _ _ _).mono ?_; rintro e w' ⟨rfl, rfl⟩))
          go_ret
          rw [E1.out]
          exact IsNew.app hP hb
      · have h0 : ((xs.length : Int)) = 0 := by omega
        go_wp2
        go_ret
        rw [E1.out]
        exact IsNew.app hP hb
theorem implMeanFilter_any (A : Option Addr) (n c : Nat) (xs : List Int) (m : Int) (w : World) (hn : xs.length = n) (h : Ints w w.heap.size A xs) (hlen : n ≤ 4294967296) :
    Calls Try.prog 27 #[.slice A n c, .int .i64 m] w fun e w' => IsNew w (meanFilter xs m) e w' := by
  subst hn
  by_cases hv : (seriesB xs && inB m 1 60) = true
  · have E1 : Hid (meanFilter xs m = tab (meanF xs m.toNat) xs.length) := by simp only [Hid, meanFilter, hv, if_true]
    have hv2 := hv
    rw [Bool.and_eq_true] at hv2
    obtain ⟨hs, hm⟩ := hv2
    obtain ⟨l1, hall⟩ := seriesB_at xs hs
    obtain ⟨m0, m1⟩ := (inB_iff _ _ _).1 hm
    have HA := Lib.hid hall
    have HB := Lib.hid (psum_bd xs hall)
    clear hall hv
    obtain ⟨N, rfl⟩ : ∃ N : Nat, m = N := ⟨m.toNat, by omega⟩
    have eN : ((N : Int)).toNat = N := rfl
    rw [eN] at E1
    clear eN
    have hmk := run_make_row' (P := Try.prog) 22 3 (.int .i64 0) 8 Try.underlying22 info_int rfl .i64 .i64 xs.length (by omega) (by omega)
    go_enter Try.func27, Try.ntmps27
    go_wp2_with (go_at_call 16; refine (implSeriesValid_any _ _ _ xs _ rfl h (by omega)).mono ?_; rintro e w' ⟨rfl, rfl⟩)
    go_loopw [6, 25] (fun s i wr => ∃ (k : Nat) (ys : List Int) (sv : Int), k ≤ xs.length ∧ i = .int .i64 (k : Int) ∧ s = .int .i64 sv ∧ sv = psum xs k - psum xs (k - N) ∧ -120000000 ≤ sv ∧ sv ≤ 120000000 ∧ ys.length = xs.length ∧ (∀ j, j < k → ys.getD j 0 = meanF xs N j) ∧ Row wr w.heap.size ys ∧ Below w.heap.size w wr) (fun _ i _ => xs.length - (intOf i).toNat)
    case atStart => exact ⟨0, List.replicate xs.length 0, 0, Nat.zero_le _, rfl, rfl, by simp, by omega, by omega, by simp, fun j hj => by omega, Row.made w _, (by repeat (first | exact bw_refl _ | assumption | apply bw_alloc | apply bw_drew | apply bw_drewN | (refine bw_trans ?_ (by assumption)) | (refine bw_set ?_ (by simp only [go_sem]; omega) _)))⟩
    case round =>
      obtain ⟨k, ys, sv, hk, rfl, rfl, hsv, v0, v1, hy, he, hR, hb⟩ := hrel
      have HE := Lib.hid he
      have HY := Lib.hid hy
      have HV := Lib.hid hsv
      clear he hy hsv
      by_cases hlt : k < xs.length
      · obtain ⟨b, off, rfl, hbl, hc⟩ := h (by omega)
        have hc1 : wr.cell? ⟨b, off + k, none⟩ = some (.int .i64 (xs.getD k 0)) := (hb.cell (p := ⟨b, off + k, none⟩) hbl).trans (hc k hlt)
        have hc3 := hR.cell (j := k) (by rw [HY.out]; omega)
        have hf3 := hR.frozen k
        obtain ⟨x0, x1⟩ := HA.out k hlt
        have hps : psum xs (k + 1) = psum xs k + xs.getD k 0 := rfl
        have hbd1 := HB.out (k + 1) hlt
        obtain ⟨x, hx⟩ : ∃ x, xs.getD k 0 = x := ⟨_, rfl⟩
        obtain ⟨z, hz⟩ : ∃ z, ys.getD k 0 = z := ⟨_, rfl⟩
        rw [hx] at hc1 x0 x1 hps
        rw [hz] at hc3
        clear hx hz
        rcases Nat.lt_or_ge k N with hN | hN
        · clear hc
          have e0 : k - N = 0 := by omega
          have e1 : k + 1 - N = 0 := by omega
          have hmin : ((k : Int) + 1) = ((min (k + 1) N : Nat) : Int) := by omega
          have hmean : rdiv (sv + x) ((k : Int) + 1) = meanF xs N k := by
            rw [meanF, ← hmin, hps, HV.out, e0, e1]
            congr 1
            omega
          have hv2 : sv + x = psum xs (k + 1) - psum xs (k + 1 - N) := by rw [hps, HV.out, e0, e1]; omega
          have u0 : -120000000 ≤ sv + x := by rw [hv2, e1, psum]; omega
          have u1 : sv + x ≤ 120000000 := by rw [hv2, e1, psum]; omega
          have hge : ¬ ((N : Int) ≤ k) := by omega
          have hmi : ¬ ((N : Int) < (k : Int) + 1) := by omega
          have hk1 : (0 : Int) < (k : Int) + 1 := by omega
          have HM := Lib.hid hmean
          have HV2 := Lib.hid hv2
          clear e0 e1 hmin hmean hv2 hps hbd1
          go_wp2_with (go_at_call 40; refine (implRoundDiv_ok (sv + x) ((k : Int) + 1) (by omega) (by omega) (by omega) (by omega) _).mono ?_; rintro e w' ⟨rfl, rfl⟩; rw [HM.out])
          go_roundw
          case rel =>
            refine ⟨k + 1, ys.set k (meanF xs N k), sv + x, by omega, by go_num, rfl, HV2.out, u0, u1, by simp [HY.out], fun i hi => ?_, hR.set_ k _, hb.setCell (p := ⟨w.heap.size, k, none⟩) (Nat.le_refl _) _⟩
            by_cases hij : i = k
            · subst hij; exact getD_set_eq _ _ _ (by rw [HY.out]; exact hlt)
            · rw [getD_set_ne _ _ _ _ hij]; exact HE.out i (by omega)
          case measure => simp [intOf] <;> omega
        · obtain ⟨d, rfl⟩ : ∃ d, k = d + N := ⟨k - N, by omega⟩
          have hc2 : wr.cell? ⟨b, off + d, none⟩ = some (.int .i64 (xs.getD d 0)) := (hb.cell (p := ⟨b, off + d, none⟩) hbl).trans (hc d (by omega))
          clear hc
          obtain ⟨y0, y1⟩ := HA.out d (by omega)
          have e0 : d + N - N = d := by omega
          have e1 : d + N + 1 - N = d + 1 := by omega
          have hpd : psum xs (d + 1) = psum xs d + xs.getD d 0 := rfl
          have hbd2 := HB.out (d + 1) (by omega)
          obtain ⟨y, hyy⟩ : ∃ y, xs.getD d 0 = y := ⟨_, rfl⟩
          rw [hyy] at hc2 hpd y0 y1
          clear hyy
          have hmin : (N : Int) = ((min (d + N + 1) N : Nat) : Int) := by omega
          have hv2 : sv + x - y = psum xs (d + N + 1) - psum xs (d + N + 1 - N) := by rw [e1, hps, hpd, HV.out, e0]; omega
          have hmean : rdiv (sv + x - y) (N : Int) = meanF xs N (d + N) := by rw [meanF, ← hmin, hv2]
          have u0 : -120000000 ≤ sv + x - y := by rw [hv2, e1]; omega
          have u1 : sv + x - y ≤ 120000000 := by rw [hv2, e1]; omega
          have hge : (N : Int) ≤ ((d + N : Nat) : Int) := by omega
          have hmi : (N : Int) < ((d + N : Nat) : Int) + 1 := by omega
          have ed : ((d + N : Nat) : Int) = (d : Int) + N := rfl
          have i1 : (d : Int) < xs.length := by omega
          have i2 : (d : Int) + N < xs.length := by omega
          have i3 : (0 : Int) ≤ (d : Int) + N := by omega
          have HM := Lib.hid hmean
          have HV2 := Lib.hid hv2
          rw [ed] at hge hmi ⊢
          clear e0 e1 hmin hmean hv2 hps hbd1 hbd2 hpd ed
          go_wp2_with (go_at_call 40; refine (implRoundDiv_ok (sv + x - y) (N : Int) (by omega) (by omega) (by omega) (by omega) _).mono ?_; rintro e w' ⟨rfl, rfl⟩; rw [HM.out])
          go_roundw
          case rel =>
            refine ⟨d + N + 1, ys.set (d + N) (meanF xs N (d + N)), sv + x - y, by omega, by go_num, rfl, HV2.out, u0, u1, by simp [HY.out], fun i hi => ?_, hR.set_ (d + N) _, hb.setCell (p := ⟨w.heap.size, d + N, none⟩) (Nat.le_refl _) _⟩
            by_cases hij : i = d + N
            · subst hij; exact getD_set_eq _ _ _ (by rw [HY.out]; exact hlt)
            · rw [getD_set_ne _ _ _ _ hij]; exact HE.out i (by omega)
          case measure => simp [intOf] <;> omega
      · have hkk : k = xs.length := by omega
        go_wp2
        go_ret
        rw [E1.out]
        refine IsNew.row (by rw [tab_length]) (Nat.le_refl _) (Nat.le_refl _) (hR.congr (by rw [tab_length, HY.out]) fun j hj => ?_) hb
        rw [HY.out] at hj
        rw [tab_getD _ _ _ hj, HE.out j (by omega)]
  · have E1 : Hid (meanFilter xs m = []) := by simp only [Hid, meanFilter, hv]; rfl
    cases hs : seriesB xs
    · clear hv
      go_enter Try.func27, Try.ntmps27
      go_wp2_with (go_at_call 16; refine (implSeriesValid_any _ _ _ xs _ rfl h (by omega)).mono ?_; rintro e w' ⟨rfl, rfl⟩)
      go_ret
      rw [E1.out]
      exact IsNew.nil (by repeat (first | exact bw_refl _ | assumption | apply bw_alloc | apply bw_drew | apply bw_drewN | (refine bw_trans ?_ (by assumption)) | (refine bw_set ?_ (by simp only [go_sem]; omega) _)))
    · have hm : ¬ (1 ≤ m ∧ m ≤ 60) := fun hm => hv (by rw [hs, (inB_iff _ _ _).2 hm]; rfl)
      clear hv
      by_cases hm0 : m < 1
      · go_enter Try.func27, Try.ntmps27
        go_wp2_with (go_at_call 16; refine (implSeriesValid_any _ _ _ xs _ rfl h (by omega)).mono ?_; rintro e w' ⟨rfl, rfl⟩)
        go_ret
        rw [E1.out]
        exact IsNew.nil (by repeat (first | exact bw_refl _ | assumption | apply bw_alloc | apply bw_drew | apply bw_drewN | (refine bw_trans ?_ (by assumption)) | (refine bw_set ?_ (by simp only [go_sem]; omega) _)))
      · have hm1 : 60 < m := by omega
        go_enter Try.func27, Try.ntmps27
        go_wp2_with (go_at_call 16; refine (implSeriesValid_any _ _ _ xs _ rfl h (by omega)).mono ?_; rintro e w' ⟨rfl, rfl⟩)
        go_ret
        rw [E1.out]
        exact IsNew.nil (by repeat (first | exact bw_refl _ | assumption | apply bw_alloc | apply bw_drew | apply bw_drewN | (refine bw_trans ?_ (by assumption)) | (refine bw_set ?_ (by simp only [go_sem]; omega) _)))
theorem meanFilter_len (xs : List Int) (m : Int) (h : xs.length ≤ 1048576) : (meanFilter xs m).length ≤ 4294967296 := by
  unfold meanFilter
  split
  · rw [tab_length]; omega
  · simp
theorem walk_FnExactMeanFilter (A : Option Addr) (n c : Nat) (xs : List Int) (m : Int) (w : World) (h : Ints w w.heap.size A xs) (hn : xs.length = n) (_ : n ≤ c) (_ : c ≤ maxLen) (hm : (Lit.int .i64 m).wf = true) :
    Calls Try.prog 7 #[.slice A n c, .int .i64 m] w fun e w' => e = .returned (.bool true) ∧ Below w.heap.size w w' := by
  subst hn
  by_cases hbig : 1048576 < xs.length
  · go_enter Try.func7, Try.ntmps7
    go_wp2
    go_ret
    exact ⟨rfl, (by repeat (first | exact bw_refl _ | assumption | apply bw_alloc | apply bw_drew | apply bw_drewN | (refine bw_trans ?_ (by assumption)) | (refine bw_set ?_ (by simp only [go_sem]; omega) _)))⟩
  · have hsame := eqIs_same xs
    have hS := fun (A : Option Addr) (c : Nat) (w : World) h' => specMeanFilter_any A xs.length c xs m w rfl h' (by omega)
    have hI := fun (A : Option Addr) (c : Nat) (w : World) h' => implMeanFilter_any A xs.length c xs m w rfl h' (by omega)
    have hL : (meanFilter xs m).length ≤ 4294967296 := meanFilter_len xs m (by omega)
    generalize meanFilter xs m = R at hS hI hL
    have hsr := eqIs_same R
    go_enter Try.func7, Try.ntmps7
    go_wp2_with fail
    refine (toIntS_any A _ _ xs _ rfl h (by omega)).mono ?_
    rintro e w1 ⟨rfl, r1, b1⟩
    go_wp2_with fail
    refine (hS _ _ _ r1.is).mono ?_
    rintro e w2 ⟨⟨A2, c2, rfl, o2⟩, b2⟩
    go_wp2_with fail
    refine (toIntS_any A _ _ xs _ rfl (h.up (by repeat (first | exact bw_refl _ | assumption | apply bw_alloc | apply bw_drew | apply bw_drewN | (refine bw_trans ?_ (by assumption)) | (refine bw_set ?_ (by simp only [go_sem]; omega) _)))) (by omega)).mono ?_
    rintro e w3 ⟨rfl, r3, b3⟩
    go_wp2_with fail
    refine (hI _ _ _ r3.is).mono ?_
    rintro e w4 ⟨⟨A4, c4, rfl, o4⟩, b4⟩
    go_wp2_with fail
    refine (eqIntS_any _ _ _ _ _ _ R R _ rfl rfl o4.ints (o2.up (by repeat (first | exact bw_refl _ | assumption | apply bw_alloc | apply bw_drew | apply bw_drewN | (refine bw_trans ?_ (by assumption)) | (refine bw_set ?_ (by simp only [go_sem]; omega) _)))).ints hL hL).mono ?_
    rintro e w5 ⟨rfl, b5⟩
    go_wp2_with fail
    refine (toIntS_any A _ _ xs _ rfl (h.up (by repeat (first | exact bw_refl _ | assumption | apply bw_alloc | apply bw_drew | apply bw_drewN | (refine bw_trans ?_ (by assumption)) | (refine bw_set ?_ (by simp only [go_sem]; omega) _)))) (by omega)).mono ?_
    rintro e w6 ⟨rfl, r6, b6⟩
    go_wp2_with fail
    refine (eqIntS_any _ _ _ _ _ _ xs xs _ rfl rfl (r3.up (by repeat (first | exact bw_refl _ | assumption | apply bw_alloc | apply bw_drew | apply bw_drewN | (refine bw_trans ?_ (by assumption)) | (refine bw_set ?_ (by simp only [go_sem]; omega) _)))).is r6.is (by omega) (by omega)).mono ?_
    rintro e w7 ⟨rfl, b7⟩
    have z1 := b1.size
    have z2 := b2.size
    have z3 := r3.lt
    have x7 : Own w.heap.size w7 (some ⟨w2.heap.size, 0, none⟩) xs.length xs.length xs := ⟨rfl, Nat.le_refl _, fun _ => ⟨_, rfl, by omega, r3.up (by repeat (first | exact bw_refl _ | assumption | apply bw_alloc | apply bw_drew | apply bw_drewN | (refine bw_trans ?_ (by assumption)) | (refine bw_set ?_ (by simp only [go_sem]; omega) _)))⟩⟩
    have o27 : Own w1.heap.size w7 A2 R.length c2 R := o2.up (by repeat (first | exact bw_refl _ | assumption | apply bw_alloc | apply bw_drew | apply bw_drewN | (refine bw_trans ?_ (by assumption)) | (refine bw_set ?_ (by simp only [go_sem]; omega) _)))
    have o47 : Own w3.heap.size w7 A4 R.length c4 R := o4.up (by repeat (first | exact bw_refl _ | assumption | apply bw_alloc | apply bw_drew | apply bw_drewN | (refine bw_trans ?_ (by assumption)) | (refine bw_set ?_ (by simp only [go_sem]; omega) _)))
    have c7 : Below w.heap.size w w7 := (by repeat (first | exact bw_refl _ | assumption | apply bw_alloc | apply bw_drew | apply bw_drewN | (refine bw_trans ?_ (by assumption)) | (refine bw_set ?_ (by simp only [go_sem]; omega) _)))
    go_wp2_with fail
    refine (markIntS_any _ _ _ _ _ _ _ x7 (by omega) (by omega) (by omega)).mono ?_
    rintro e w8 ⟨rfl, x8, t8⟩
    have o28 := o27.tch t8 fun g e e' => by
      have := blk_eq (ite_blk e).2
      rcases Nat.eq_zero_or_pos R.length with h0 | h0
      · exact h0
      · have := o2.lt e' h0
        omega
    have o48 := o47.tch t8 fun g e e' => by
      have := blk_eq (ite_blk e).2
      rcases Nat.eq_zero_or_pos R.length with h0 | h0
      · exact h0
      · have := o4.ge e' h0
        omega
    have c8 : Below w.heap.size w w8 := c7.trans (t8.below fun g e => by have := blk_eq (ite_blk e).2; omega)
    clear x8
    go_wp2_with fail
    refine (eqIntS_any _ _ _ _ _ _ R R _ rfl rfl o48.ints o28.ints hL hL).mono ?_
    rintro e w9 ⟨rfl, b9⟩
    have o49 := o48.up b9
    go_wp2_with fail
    refine (markIntS_any _ _ _ _ _ _ _ o49 (by omega) (by omega) (by omega)).mono ?_
    rintro e w10 ⟨rfl, g10, t10⟩
    have o210 := (o28.up b9).tch t10 fun g e e' => by
      have h0 := ite_blk e
      have := o2.lt e' h0.1
      have := o4.ge h0.2 h0.1
      omega
    have c10 : Below w.heap.size w w10 := Below.trans ((by repeat (first | exact bw_refl _ | assumption | apply bw_alloc | apply bw_drew | apply bw_drewN | (refine bw_trans ?_ (by assumption)) | (refine bw_set ?_ (by simp only [go_sem]; omega) _))) : Below w.heap.size w w9) (t10.below fun g e => by have h0 := ite_blk e; have := o4.ge h0.2 h0.1; omega)
    go_wp2_with fail
    refine (heldIntS_any _ _ _ _ _ g10.ints (by omega) (by omega) (by omega)).mono ?_
    rintro e w11 ⟨rfl, rfl⟩
    go_wp2_with fail
    refine (toIntS_any A _ _ xs _ rfl (h.up (by repeat (first | exact bw_refl _ | assumption | apply bw_alloc | apply bw_drew | apply bw_drewN | (refine bw_trans ?_ (by assumption)) | (refine bw_set ?_ (by simp only [go_sem]; omega) _)))) (by omega)).mono ?_
    rintro e w12 ⟨rfl, r12, b12⟩
    go_wp2_with fail
    refine (hI _ _ _ r12.is).mono ?_
    rintro e w13 ⟨⟨A13, c13, rfl, o13⟩, b13⟩
    go_wp2_with fail
    refine (eqIntS_any _ _ _ _ _ _ R R _ rfl rfl o13.ints (o210.up (by repeat (first | exact bw_refl _ | assumption | apply bw_alloc | apply bw_drew | apply bw_drewN | (refine bw_trans ?_ (by assumption)) | (refine bw_set ?_ (by simp only [go_sem]; omega) _)))).ints hL hL).mono ?_
    rintro e w14 ⟨rfl, b14⟩
    go_wp2_with fail
    refine (heldIntS_any _ _ _ _ _ (g10.up (by repeat (first | exact bw_refl _ | assumption | apply bw_alloc | apply bw_drew | apply bw_drewN | (refine bw_trans ?_ (by assumption)) | (refine bw_set ?_ (by simp only [go_sem]; omega) _)))).ints (by omega) (by omega) (by omega)).mono ?_
    rintro e w15 ⟨rfl, rfl⟩
    go_wp2
    go_ret
    exact ⟨rfl, (by repeat (first | exact bw_refl _ | assumption | apply bw_alloc | apply bw_drew | apply bw_drewN | (refine bw_trans ?_ (by assumption)) | (refine bw_set ?_ (by simp only [go_sem]; omega) _)))⟩
end Go.Proofs.Ytpmojbdoiahodaa
