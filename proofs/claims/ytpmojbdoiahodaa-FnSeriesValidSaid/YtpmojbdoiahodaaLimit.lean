/- Contracts of LimitSteps, of the program's and the reference's, and the walk of its exact law; no condition. -/
import Derived.Test.YtpmojbdoiahodaaSeries
import Derived.Test.YtpmojbdoiahodaaSlices
import Derived.StillTailTactics
namespace Go.Proofs.Ytpmojbdoiahodaa
open Go.RowKit
set_option linter.unusedVariables false
set_option maxHeartbeats 4000000

def limF (xs : List Int) (m : Int) : Nat → Int
  | 0 => xs.getD 0 0
  | k + 1 => max (limF xs m k - m) (min (limF xs m k + m) (xs.getD (k + 1) 0))
def limitSteps (xs : List Int) (m : Int) : List Int := if seriesB xs && inB m 0 1000000 then tab (limF xs m) xs.length else []
theorem seriesB_at (xs : List Int) (h : seriesB xs = true) : xs.length ≤ 60 ∧ ∀ j, j < xs.length → -1000000 ≤ xs.getD j 0 ∧ xs.getD j 0 ≤ 1000000 := by
  unfold seriesB at h
  simp only [Bool.and_eq_true, decide_eq_true_eq] at h
  exact ⟨h.1, fun j hj => allIn_at 1000000 xs h.2 j hj⟩
theorem limF_bd (xs : List Int) (m : Int) (h0 : 0 ≤ m) (h : ∀ j, j < xs.length → -1000000 ≤ xs.getD j 0 ∧ xs.getD j 0 ≤ 1000000) : ∀ k, k < xs.length → -1000000 ≤ limF xs m k ∧ limF xs m k ≤ 1000000
  | 0, hk => h 0 hk
  | k + 1, hk => by
    have h1 := limF_bd xs m h0 h k (by omega)
    have h2 := h (k + 1) hk
    rw [limF]
    omega
theorem clamp_if (x y m : Int) (h : 0 ≤ m) : (if y - m < if x < y + m then x else y + m then if x < y + m then x else y + m else y - m) = max (y - m) (min (y + m) x) := by
  split <;> split <;> omega
theorem specLimitSteps_any (A : Option Addr) (n c : Nat) (xs : List Int) (m : Int) (w : World) (hn : xs.length = n) (h : Ints w w.heap.size A xs) (hlen : n ≤ 4294967296) :
    Calls Try.prog 18 #[.slice A n c, .int .i64 m] w fun e w' => IsNew w (limitSteps xs m) e w' := by
  subst hn
  by_cases hv : (seriesB xs && inB m 0 1000000) = true
  · have E1 : Hid (limitSteps xs m = tab (limF xs m) xs.length) := by simp only [Hid, limitSteps, hv, if_true]
    have hv2 := hv
    rw [Bool.and_eq_true] at hv2
    obtain ⟨hs, hm⟩ := hv2
    obtain ⟨l1, hall⟩ := seriesB_at xs hs
    obtain ⟨m0, m1⟩ := (inB_iff _ _ _).1 hm
    have HB := Lib.hid (limF_bd xs m m0 hall)
    have HA := Lib.hid hall
    clear hall hv
    go_enter Try.func18, Try.ntmps18
    go_wp2
    go_loopw [5, 6] (fun v i wr => ∃ k : Nat, k ≤ xs.length ∧ i = .int .i64 k ∧ App wr w.heap.size v (tab (limF xs m) k) ∧ Below w.heap.size w wr) (fun _ i _ => xs.length - (intOf i).toNat)
    case atStart => exact ⟨0, by omega, rfl, App.empty w _ (Nat.le_refl _), (by repeat (first | exact bw_refl _ | assumption | apply bw_alloc | apply bw_drew | apply bw_drewN | (refine bw_trans ?_ (by assumption)) | (refine bw_set ?_ (by simp only [go_sem]; omega) _)))⟩
    case round =>
      obtain ⟨k, hk, rfl, hP, hb⟩ := hrel
      have hB : w.heap.size ≤ wr.heap.size := hb.size
      by_cases hlt : k < xs.length
      · obtain ⟨b, off, rfl, hbl, hc⟩ := h (by omega)
        have hI : Ints wr wr.heap.size (some ⟨b, off, none⟩) xs := h.up hb
        match k, hk, hlt, hP with
        | 0, hk, hlt, hP =>
          have hc1 : wr.cell? ⟨b, off, none⟩ = some (.int .i64 (xs.getD 0 0)) := (hb.cell (p := ⟨b, off, none⟩) hbl).trans (hc 0 hlt)
          clear hc
          have HF : Hid (limF xs m 0 = xs.getD 0 0) := rfl
          obtain ⟨x, hx⟩ : ∃ x, xs.getD 0 0 = x := ⟨_, rfl⟩
          rw [hx] at hc1
          have HX := Lib.hid hx
          clear hx
          go_wp2_with (first
            | (go_at_call 14; refine (specSeriesValid_any _ _ _ xs _ rfl hI (by omega)).mono ?_; rintro e w' ⟨rfl, rfl⟩)
            | (go_at_call 36; refine (l1In_any _ _ _ _).mono ?_; rintro e w' ⟨rfl, rfl⟩)
            | (at_builtin; refine wpList_append_int rfl (.tmp 24) (.tmp 28) rfl w.heap.size _ _ x w wr rfl rfl hP (by rw [tab_length]; omega) hb hB ?_; rintro v' w' hP2 hb2))
          go_roundw
          case rel => exact ⟨1, by omega, by go_num, by rw [tab_succ, HF.out, HX.out]; exact hP2, hb2⟩
          case measure => simp [intOf] <;> omega
        | j + 1, hk, hlt, hP =>
          have hc1 : wr.cell? ⟨b, off + (j + 1), none⟩ = some (.int .i64 (xs.getD (j + 1) 0)) := (hb.cell (p := ⟨b, off + (j + 1), none⟩) hbl).trans (hc (j + 1) hlt)
          clear hc
          obtain ⟨x0, x1⟩ := HA.out (j + 1) hlt
          obtain ⟨y0, y1⟩ := HB.out j (by omega)
          obtain ⟨A', c', rfl, ho⟩ := hP.form
          rw [tab_length] at hP ho ⊢
          obtain ⟨g, rfl, hg, hR⟩ := ho.2.2 (by omega)
          have hc2 := hR.cell (j := j) (by rw [tab_length]; omega)
          have hf2 := hR.frozen j
          have hcap := ho.2.1
          rw [tab_getD _ _ _ (by omega)] at hc2
          clear ho hR
          have HF : Hid (limF xs m (j + 1) = max (limF xs m j - m) (min (limF xs m j + m) (xs.getD (j + 1) 0))) := rfl
          obtain ⟨x, hx⟩ : ∃ x, xs.getD (j + 1) 0 = x := ⟨_, rfl⟩
          obtain ⟨y, hy⟩ : ∃ y, limF xs m j = y := ⟨_, rfl⟩
          rw [hx] at hc1 x0 x1
          rw [hy] at hc2 y0 y1
          have HX := Lib.hid hx
          have HY := Lib.hid hy
          clear hx hy
          have ek : ((j + 1 : Nat) : Int) = (j : Int) + 1 := rfl
          rw [ek]
          clear ek
          go_wp2_with (first
            | (go_at_call 14; refine (specSeriesValid_any _ _ _ xs _ rfl hI (by omega)).mono ?_; rintro e w' ⟨rfl, rfl⟩)
            | (go_at_call 36; refine (l1In_any _ _ _ _).mono ?_; rintro e w' ⟨rfl, rfl⟩))
          have e1 : IntKind.i64.wrap (j : Int) = j := IntWalk.i64_in _ (by omega)
          have e2 : IntKind.i64.wrap (y - m) = y - m := IntWalk.i64_in _ (by omega)
          have e3 : IntKind.i64.wrap (y + m) = y + m := IntWalk.i64_in _ (by omega)
          have i1 : (j : Int) < (j : Int) + 1 := by omega
          have i2 : (j : Int) + 1 < xs.length := by omega
          have i3 : (0 : Int) ≤ (j : Int) + 1 := by omega
          go_region_law (refine step_append_int rfl (.tmp 30) (.tmp 51) rfl w.heap.size _ _ _ w wr.drew (by simp [Act.eval]) (by simp [Act.eval]) hP (by rw [tab_length]; omega) (by repeat (first | exact bw_refl _ | assumption | apply bw_alloc | apply bw_drew | apply bw_drewN | (refine bw_trans ?_ (by assumption)) | (refine bw_set ?_ (by simp only [go_sem]; omega) _))) hB ?_; intro v' w' hP2 hb2)
          all_goals
            go_wp2
            go_roundw
            case rel => exact ⟨j + 1 + 1, by omega, by go_num, by rw [tab_succ, HF.out, HY.out, HX.out, ← clamp_if x y m m0]; exact hP2, hb2⟩
            case measure => simp [intOf] <;> omega
      · have hkk : k = xs.length := by omega
        go_wp2
        go_ret
        rw [E1.out, ← hkk]
        exact IsNew.app hP hb
  · have E1 : Hid (limitSteps xs m = []) := by simp only [Hid, limitSteps, hv]; rfl
    have hv2 : seriesB xs = false ∨ inB m 0 1000000 = false := by
      cases h1 : seriesB xs
      · exact .inl rfl
      · cases h2 : inB m 0 1000000
        · exact .inr rfl
        · rw [h1, h2] at hv; exact absurd rfl hv
    clear hv
    go_enter Try.func18, Try.ntmps18
    go_wp2
    go_loopw [5, 6] (fun v i wr => i = .int .i64 0 ∧ App wr w.heap.size v [] ∧ Below w.heap.size w wr) (fun _ i _ => 0)
    case atStart => exact ⟨rfl, App.empty w _ (Nat.le_refl _), (by repeat (first | exact bw_refl _ | assumption | apply bw_alloc | apply bw_drew | apply bw_drewN | (refine bw_trans ?_ (by assumption)) | (refine bw_set ?_ (by simp only [go_sem]; omega) _)))⟩
    case round =>
      obtain ⟨rfl, hP, hb⟩ := hrel
      have hI : Ints wr wr.heap.size A xs := h.up hb
      by_cases hlt : 0 < xs.length
      · cases hs : seriesB xs
        · go_wp2_with (go_at_call 14; refine (specSeriesValid_any _ _ _ xs _ rfl hI (by omega)).mono ?_; rintro e w' ⟨rfl, rfl⟩)
          go_ret
          rw [E1.out]
          exact IsNew.app hP hb
        · have hm : inB m 0 1000000 = false := by rcases hv2 with h1 | h1; (rw [hs] at h1; cases h1); exact h1
          go_wp2_with (first
            | (go_at_call 14; refine (specSeriesValid_any _ _ _ xs _ rfl hI (by omega)).mono ?_; rintro e w' ⟨rfl, rfl⟩)
            | (go_at_call 36; refine (l1In_any _ _ _ _).mono ?_; rintro e w' ⟨rfl, rfl⟩))
          go_ret
          rw [E1.out]
          exact IsNew.app hP hb
      · have h0 : ((xs.length : Int)) = 0 := by omega
        go_wp2
        go_ret
        rw [E1.out]
        exact IsNew.app hP hb
theorem implLimitSteps_any (A : Option Addr) (n c : Nat) (xs : List Int) (m : Int) (w : World) (hn : xs.length = n) (h : Ints w w.heap.size A xs) (hlen : n ≤ 4294967296) :
    Calls Try.prog 19 #[.slice A n c, .int .i64 m] w fun e w' => IsNew w (limitSteps xs m) e w' := by
  subst hn
  by_cases hv : (seriesB xs && inB m 0 1000000) = true
  · have E1 : Hid (limitSteps xs m = tab (limF xs m) xs.length) := by simp only [Hid, limitSteps, hv, if_true]
    have hv2 := hv
    rw [Bool.and_eq_true] at hv2
    obtain ⟨hs, hm⟩ := hv2
    obtain ⟨l1, hall⟩ := seriesB_at xs hs
    obtain ⟨m0, m1⟩ := (inB_iff _ _ _).1 hm
    have HB := Lib.hid (limF_bd xs m m0 hall)
    have HA := Lib.hid hall
    clear hall hv
    have hmk := run_make_row' (P := Try.prog) 22 3 (.int .i64 0) 8 Try.underlying22 info_int rfl .i64 .i64 xs.length (by omega) (by omega)
    go_enter Try.func19, Try.ntmps19
    go_wp2_with (first
      | (go_at_call 16; refine (implSeriesValid_any _ _ _ xs _ rfl h (by omega)).mono ?_; rintro e w' ⟨rfl, rfl⟩)
      | (refine wpList_copy_ints (w := w.alloc (.cells (madeCells #[.int .i64 0] xs.length) 3)) rfl (.tmp 22) (.tmp 23) 22 rfl Try.underlying22 (by kernel_rfl) w.heap.size _ _ _ _ rfl rfl xs (List.replicate xs.length 0) rfl (by simp) (h.up (bw_alloc (bw_refl _) _)) (Row.made w _) w.heap.size w (bw_alloc (bw_refl _) _) (Nat.le_refl _) ?_; intro w1 hR1 hb1))
    go_loopw [6] (fun i wr => ∃ (k : Nat) (ys : List Int), (k = 0 ∨ k + 1 ≤ xs.length) ∧ i = .int .i64 ((k : Int) + 1) ∧ ys.length = xs.length ∧ (∀ j, j ≤ k → j < xs.length → ys.getD j 0 = limF xs m j) ∧ (∀ j, k < j → ys.getD j 0 = xs.getD j 0) ∧ Row wr w.heap.size ys ∧ Below w.heap.size w wr) (fun i _ => xs.length - (intOf i).toNat)
    case atStart => exact ⟨0, xs, .inl rfl, rfl, rfl, fun j hj hl => by obtain rfl : j = 0 := by omega
                                                                        rfl, fun j hj => rfl, hR1, hb1⟩
    case round =>
      obtain ⟨k, ys, hk, rfl, hy, he, he2, hR, hb⟩ := hrel
      have HE := Lib.hid he
      have HE2 := Lib.hid he2
      have HY := Lib.hid hy
      have HK := Lib.hid hk
      clear he he2 hy hk
      by_cases hlt : k + 1 < xs.length
      · obtain ⟨b, off, rfl, hbl, hc⟩ := h (by omega)
        have hc1 : wr.cell? ⟨b, off + (k + 1), none⟩ = some (.int .i64 (xs.getD (k + 1) 0)) := (hb.cell (p := ⟨b, off + (k + 1), none⟩) hbl).trans (hc (k + 1) hlt)
        have hc2 := hR.cell (j := k) (by rw [HY.out]; omega)
        have hc3 := hR.cell (j := k + 1) (by rw [HY.out]; omega)
        have hf3 := hR.frozen (k + 1)
        clear hc
        rw [HE.out k (Nat.le_refl _) (by omega)] at hc2
        rw [HE2.out (k + 1) (by omega)] at hc3
        obtain ⟨x0, x1⟩ := HA.out (k + 1) hlt
        obtain ⟨y0, y1⟩ := HB.out k (by omega)
        have HF : Hid (limF xs m (k + 1) = max (limF xs m k - m) (min (limF xs m k + m) (xs.getD (k + 1) 0))) := rfl
        obtain ⟨x, hx⟩ : ∃ x, xs.getD (k + 1) 0 = x := ⟨_, rfl⟩
        obtain ⟨y, hyy⟩ : ∃ y, limF xs m k = y := ⟨_, rfl⟩
        rw [hx] at hc1 hc3 x0 x1
        rw [hyy] at hc2 y0 y1
        have HX := Lib.hid hx
        have HY2 := Lib.hid hyy
        clear hx hyy
        go_wp2
        go_roundw
        case rel =>
          refine ⟨k + 1, ys.set (k + 1) _, .inr (by omega), by go_num, by simp [HY.out], fun j hj hl => ?_, fun j hj => ?_, hR.set_ (k + 1) _, hb.setCell (p := ⟨w.heap.size, k + 1, none⟩) (Nat.le_refl _) _⟩
          · by_cases hjk : j = k + 1
            · subst hjk
              rw [HF.out, HY2.out, HX.out, getD_set_eq _ _ _ (by rw [HY.out]; exact hlt)]
              (repeat' split) <;> omega
            · rw [getD_set_ne _ _ _ _ hjk]; exact HE.out j (by omega) hl
          · rw [getD_set_ne _ _ _ _ (by omega)]; exact HE2.out j (by omega)
        case measure => simp [intOf] <;> omega
      · go_wp2
        go_ret
        rw [E1.out]
        have := HK.out
        refine IsNew.row (by rw [tab_length]) (Nat.le_refl _) (Nat.le_refl _) (hR.congr (by rw [tab_length, HY.out]) fun j hj => ?_) hb
        rw [HY.out] at hj
        rw [tab_getD _ _ _ hj, HE.out j (by omega) hj]
  · have E1 : Hid (limitSteps xs m = []) := by simp only [Hid, limitSteps, hv]; rfl
    cases hs : seriesB xs
    · clear hv
      go_enter Try.func19, Try.ntmps19
      go_wp2_with (go_at_call 16; refine (implSeriesValid_any _ _ _ xs _ rfl h (by omega)).mono ?_; rintro e w' ⟨rfl, rfl⟩)
      go_ret
      rw [E1.out]
      exact IsNew.nil (by repeat (first | exact bw_refl _ | assumption | apply bw_alloc | apply bw_drew | apply bw_drewN | (refine bw_trans ?_ (by assumption)) | (refine bw_set ?_ (by simp only [go_sem]; omega) _)))
    · have hm : ¬ (0 ≤ m ∧ m ≤ 1000000) := fun hm => hv (by rw [hs, (inB_iff _ _ _).2 hm]; rfl)
      clear hv
      by_cases hm0 : m < 0
      · go_enter Try.func19, Try.ntmps19
        go_wp2_with (go_at_call 16; refine (implSeriesValid_any _ _ _ xs _ rfl h (by omega)).mono ?_; rintro e w' ⟨rfl, rfl⟩)
        go_ret
        rw [E1.out]
        exact IsNew.nil (by repeat (first | exact bw_refl _ | assumption | apply bw_alloc | apply bw_drew | apply bw_drewN | (refine bw_trans ?_ (by assumption)) | (refine bw_set ?_ (by simp only [go_sem]; omega) _)))
      · have hm1 : 1000000 < m := by omega
        go_enter Try.func19, Try.ntmps19
        go_wp2_with (go_at_call 16; refine (implSeriesValid_any _ _ _ xs _ rfl h (by omega)).mono ?_; rintro e w' ⟨rfl, rfl⟩)
        go_ret
        rw [E1.out]
        exact IsNew.nil (by repeat (first | exact bw_refl _ | assumption | apply bw_alloc | apply bw_drew | apply bw_drewN | (refine bw_trans ?_ (by assumption)) | (refine bw_set ?_ (by simp only [go_sem]; omega) _)))
theorem limitSteps_len (xs : List Int) (m : Int) (h : xs.length ≤ 1048576) : (limitSteps xs m).length ≤ 4294967296 := by
  unfold limitSteps
  split
  · rw [tab_length]; omega
  · simp
theorem walk_FnExactLimitSteps (A : Option Addr) (n c : Nat) (xs : List Int) (m : Int) (w : World) (h : Ints w w.heap.size A xs) (hn : xs.length = n) (_ : n ≤ c) (_ : c ≤ maxLen) (hm : (Lit.int .i64 m).wf = true) :
    Calls Try.prog 4 #[.slice A n c, .int .i64 m] w fun e w' => e = .returned (.bool true) ∧ Below w.heap.size w w' := by
  subst hn
  by_cases hbig : 1048576 < xs.length
  · go_enter Try.func4, Try.ntmps4
    go_wp2
    go_ret
    exact ⟨rfl, (by repeat (first | exact bw_refl _ | assumption | apply bw_alloc | apply bw_drew | apply bw_drewN | (refine bw_trans ?_ (by assumption)) | (refine bw_set ?_ (by simp only [go_sem]; omega) _)))⟩
  · have hsame := eqIs_same xs
    have hS := fun (A : Option Addr) (c : Nat) (w : World) h' => specLimitSteps_any A xs.length c xs m w rfl h' (by omega)
    have hI := fun (A : Option Addr) (c : Nat) (w : World) h' => implLimitSteps_any A xs.length c xs m w rfl h' (by omega)
    have hL : (limitSteps xs m).length ≤ 4294967296 := limitSteps_len xs m (by omega)
    generalize limitSteps xs m = R at hS hI hL
    have hsr := eqIs_same R
    go_enter Try.func4, Try.ntmps4
    go_wp2_with fail
    refine (toIntS_any A _ _ xs _ rfl h (by omega)).mono ?_
    rintro e w1 ⟨rfl, r1, b1⟩
    go_wp2_with fail
    refine (hS _ _ _ r1.is).mono ?_
    rintro e w2 ⟨⟨A2, c2, rfl, o2⟩, b2⟩
    go_wp2_with fail
    refine (toIntS_any A _ _ xs _ rfl (h.up (by repeat (first | exact bw_refl _ | assumption | apply bw_alloc | apply bw_drew | apply bw_drewN | (refine bw_trans ?_ (by assumption)) | (refine bw_set ?_ (by simp only [go_sem]; omega) _)))) (by omega)).mono ?_
    rintro e w3 ⟨rfl, r3, b3⟩
    go_wp2_with fail
    refine (hI _ _ _ r3.is).mono ?_
    rintro e w4 ⟨⟨A4, c4, rfl, o4⟩, b4⟩
    go_wp2_with fail
    refine (eqIntS_any _ _ _ _ _ _ R R _ rfl rfl o4.ints (o2.up (by repeat (first | exact bw_refl _ | assumption | apply bw_alloc | apply bw_drew | apply bw_drewN | (refine bw_trans ?_ (by assumption)) | (refine bw_set ?_ (by simp only [go_sem]; omega) _)))).ints hL hL).mono ?_
    rintro e w5 ⟨rfl, b5⟩
    go_wp2_with fail
    refine (toIntS_any A _ _ xs _ rfl (h.up (by repeat (first | exact bw_refl _ | assumption | apply bw_alloc | apply bw_drew | apply bw_drewN | (refine bw_trans ?_ (by assumption)) | (refine bw_set ?_ (by simp only [go_sem]; omega) _)))) (by omega)).mono ?_
    rintro e w6 ⟨rfl, r6, b6⟩
    go_wp2_with fail
    refine (eqIntS_any _ _ _ _ _ _ xs xs _ rfl rfl (r3.up (by repeat (first | exact bw_refl _ | assumption | apply bw_alloc | apply bw_drew | apply bw_drewN | (refine bw_trans ?_ (by assumption)) | (refine bw_set ?_ (by simp only [go_sem]; omega) _)))).is r6.is (by omega) (by omega)).mono ?_
    rintro e w7 ⟨rfl, b7⟩
    have z1 := b1.size
    have z2 := b2.size
    have z3 := r3.lt
    have x7 : Own w.heap.size w7 (some ⟨w2.heap.size, 0, none⟩) xs.length xs.length xs := ⟨rfl, Nat.le_refl _, fun _ => ⟨_, rfl, by omega, r3.up (by repeat (first | exact bw_refl _ | assumption | apply bw_alloc | apply bw_drew | apply bw_drewN | (refine bw_trans ?_ (by assumption)) | (refine bw_set ?_ (by simp only [go_sem]; omega) _)))⟩⟩
    have o27 : Own w1.heap.size w7 A2 R.length c2 R := o2.up (by repeat (first | exact bw_refl _ | assumption | apply bw_alloc | apply bw_drew | apply bw_drewN | (refine bw_trans ?_ (by assumption)) | (refine bw_set ?_ (by simp only [go_sem]; omega) _)))
    have o47 : Own w3.heap.size w7 A4 R.length c4 R := o4.up (by repeat (first | exact bw_refl _ | assumption | apply bw_alloc | apply bw_drew | apply bw_drewN | (refine bw_trans ?_ (by assumption)) | (refine bw_set ?_ (by simp only [go_sem]; omega) _)))
    have c7 : Below w.heap.size w w7 := (by repeat (first | exact bw_refl _ | assumption | apply bw_alloc | apply bw_drew | apply bw_drewN | (refine bw_trans ?_ (by assumption)) | (refine bw_set ?_ (by simp only [go_sem]; omega) _)))
    go_wp2_with fail
    refine (markIntS_any _ _ _ _ _ _ _ x7 (by omega) (by omega) (by omega)).mono ?_
    rintro e w8 ⟨rfl, x8, t8⟩
    have o28 := o27.tch t8 fun g e e' => by
      have := blk_eq (ite_blk e).2
      rcases Nat.eq_zero_or_pos R.length with h0 | h0
      · exact h0
      · have := o2.lt e' h0
        omega
    have o48 := o47.tch t8 fun g e e' => by
      have := blk_eq (ite_blk e).2
      rcases Nat.eq_zero_or_pos R.length with h0 | h0
      · exact h0
      · have := o4.ge e' h0
        omega
    have c8 : Below w.heap.size w w8 := c7.trans (t8.below fun g e => by have := blk_eq (ite_blk e).2; omega)
    clear x8
    go_wp2_with fail
    refine (eqIntS_any _ _ _ _ _ _ R R _ rfl rfl o48.ints o28.ints hL hL).mono ?_
    rintro e w9 ⟨rfl, b9⟩
    have o49 := o48.up b9
    go_wp2_with fail
    refine (markIntS_any _ _ _ _ _ _ _ o49 (by omega) (by omega) (by omega)).mono ?_
    rintro e w10 ⟨rfl, g10, t10⟩
    have o210 := (o28.up b9).tch t10 fun g e e' => by
      have h0 := ite_blk e
      have := o2.lt e' h0.1
      have := o4.ge h0.2 h0.1
      omega
    have c10 : Below w.heap.size w w10 := Below.trans ((by repeat (first | exact bw_refl _ | assumption | apply bw_alloc | apply bw_drew | apply bw_drewN | (refine bw_trans ?_ (by assumption)) | (refine bw_set ?_ (by simp only [go_sem]; omega) _))) : Below w.heap.size w w9) (t10.below fun g e => by have h0 := ite_blk e; have := o4.ge h0.2 h0.1; omega)
    go_wp2_with fail
    refine (heldIntS_any _ _ _ _ _ g10.ints (by omega) (by omega) (by omega)).mono ?_
    rintro e w11 ⟨rfl, rfl⟩
    go_wp2_with fail
    refine (toIntS_any A _ _ xs _ rfl (h.up (by repeat (first | exact bw_refl _ | assumption | apply bw_alloc | apply bw_drew | apply bw_drewN | (refine bw_trans ?_ (by assumption)) | (refine bw_set ?_ (by simp only [go_sem]; omega) _)))) (by omega)).mono ?_
    rintro e w12 ⟨rfl, r12, b12⟩
    go_wp2_with fail
    refine (hI _ _ _ r12.is).mono ?_
    rintro e w13 ⟨⟨A13, c13, rfl, o13⟩, b13⟩
    go_wp2_with fail
    refine (eqIntS_any _ _ _ _ _ _ R R _ rfl rfl o13.ints (o210.up (by repeat (first | exact bw_refl _ | assumption | apply bw_alloc | apply bw_drew | apply bw_drewN | (refine bw_trans ?_ (by assumption)) | (refine bw_set ?_ (by simp only [go_sem]; omega) _)))).ints hL hL).mono ?_
    rintro e w14 ⟨rfl, b14⟩
    go_wp2_with fail
    refine (heldIntS_any _ _ _ _ _ (g10.up (by repeat (first | exact bw_refl _ | assumption | apply bw_alloc | apply bw_drew | apply bw_drewN | (refine bw_trans ?_ (by assumption)) | (refine bw_set ?_ (by simp only [go_sem]; omega) _)))).ints (by omega) (by omega) (by omega)).mono ?_
    rintro e w15 ⟨rfl, rfl⟩
    go_wp2
    go_ret
    exact ⟨rfl, (by repeat (first | exact bw_refl _ | assumption | apply bw_alloc | apply bw_drew | apply bw_drewN | (refine bw_trans ?_ (by assumption)) | (refine bw_set ?_ (by simp only [go_sem]; omega) _)))⟩
end Go.Proofs.Ytpmojbdoiahodaa
