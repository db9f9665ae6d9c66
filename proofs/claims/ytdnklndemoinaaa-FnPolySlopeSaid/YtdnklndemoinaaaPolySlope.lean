/- Contracts of PolySlope, of the program's and the reference's; no condition. -/
import Derived.Test.YtdnklndemoinaaaPoly
import Derived.Test.YtdnklndemoinaaaSlices
namespace Go.Proofs.Ytdnklndemoinaaa
open Go.RowKit
set_option linter.unusedVariables false

def slopeF (xs : List Int) (j : Nat) : Int := ((j : Int) + 1) * xs.getD (j + 1) 0
def polySlope (xs : List Int) : List Int := if polyB xs then (if xs.length = 1 then [0] else tab (slopeF xs) (xs.length - 1)) else []
theorem polyB_at (xs : List Int) (h : polyB xs = true) : 1 ≤ xs.length ∧ xs.length ≤ 7 ∧ ∀ j, j < xs.length → -1000 ≤ xs.getD j 0 ∧ xs.getD j 0 ≤ 1000 := by
  unfold polyB at h
  simp only [Bool.and_eq_true, decide_eq_true_eq] at h
  exact ⟨h.1.1, h.1.2, fun j hj => allIn_at 1000 xs h.2 j hj⟩
theorem specPolySlope_any (A : Option Addr) (n c : Nat) (xs : List Int) (w : World) (hn : xs.length = n) (h : Ints w w.heap.size A xs) (hlen : n ≤ 4294967296) :
    Calls Try.prog 18 #[.slice A n c] w fun e w' => IsNew w (polySlope xs) e w' := by
  subst hn
  cases hv : polyB xs
  · have E1 : Hid (polySlope xs = []) := by simp [Hid, polySlope, hv]
    go_enter Try.func18, Try.ntmps18
    go_wp2_with (go_at_call 12; refine (specPolyValid_any _ _ _ xs _ rfl h hlen).mono ?_; rintro e w' ⟨rfl, rfl⟩)
    go_ret
    rw [E1.out]
    exact IsNew.app (App.empty w _ (Nat.le_refl _)) (by repeat (first | exact bw_refl _ | assumption | apply bw_alloc | apply bw_drew | apply bw_drewN | (refine bw_trans ?_ (by assumption)) | (refine bw_set ?_ (by simp only [go_sem]; omega) _)))
  · obtain ⟨l0, l1, hall⟩ := polyB_at xs hv
    have HA := Lib.hid hall
    clear hall
    by_cases h1 : xs.length = 1
    · have E1 : Hid (polySlope xs = [0]) := by simp [Hid, polySlope, hv, h1]
      have hq : ((xs.length : Int) == 1) = true := by simp [h1]
      clear h1
      go_enter Try.func18, Try.ntmps18
      go_wp2_with (go_at_call 12; refine (specPolyValid_any _ _ _ xs _ rfl h hlen).mono ?_; rintro e w' ⟨rfl, rfl⟩)
      go_ret
      rw [E1.out]
      exact IsNew.row rfl (by simp) (Nat.le_refl _) (Row.lit w 0) (by repeat (first | exact bw_refl _ | assumption | apply bw_alloc | apply bw_drew | apply bw_drewN | (refine bw_trans ?_ (by assumption)) | (refine bw_set ?_ (by simp only [go_sem]; omega) _)))
    · have E1 : Hid (polySlope xs = tab (slopeF xs) (xs.length - 1)) := by simp [Hid, polySlope, hv, h1]
      have hq : ((xs.length : Int) == 1) = false := by simp; omega
      go_enter Try.func18, Try.ntmps18
      go_wp2_with (go_at_call 12; refine (specPolyValid_any _ _ _ xs _ rfl h hlen).mono ?_; rintro e w' ⟨rfl, rfl⟩)
      go_loopw [3, 4] (fun v i wr => ∃ k : Nat, k + 1 ≤ xs.length ∧ i = .int .i64 (k + 1) ∧ App wr w.heap.size v (tab (slopeF xs) k) ∧ Below w.heap.size w wr) (fun _ i _ => xs.length - (intOf i).toNat)
      case atStart => exact ⟨0, by omega, rfl, App.empty w _ (Nat.le_refl _), (by repeat (first | exact bw_refl _ | assumption | apply bw_alloc | apply bw_drew | apply bw_drewN | (refine bw_trans ?_ (by assumption)) | (refine bw_set ?_ (by simp only [go_sem]; omega) _)))⟩
      case round =>
        obtain ⟨k, hk, rfl, hP, hb⟩ := hrel
        by_cases hlt : k + 1 < xs.length
        · obtain ⟨b, off, rfl, hbl, hc⟩ := h (by omega)
          have hc1 : wr.cell? ⟨b, off + (k + 1), none⟩ = some (.int .i64 (xs.getD (k + 1) 0)) := (hb.cell (p := ⟨b, off + (k + 1), none⟩) hbl).trans (hc (k + 1) hlt)
          clear hc
          obtain ⟨a0, a1⟩ := HA.out (k + 1) hlt
          have HF : Hid (slopeF xs k = ((k : Int) + 1) * xs.getD (k + 1) 0) := by simp [Hid, slopeF]
          obtain ⟨x, hx⟩ : ∃ x, xs.getD (k + 1) 0 = x := ⟨_, rfl⟩
          rw [hx] at hc1 a0 a1
          have HX := Lib.hid hx
          clear hx
          obtain ⟨p0, p1⟩ := mul_bd ((k : Int) + 1) x 6 1000 (by omega) (by omega) (by omega) (by omega) a0 a1
          have hB : w.heap.size ≤ wr.heap.size := hb.size
          go_wp2_with (at_builtin; refine wpList_append_int rfl (.tmp 20) (.tmp 27) rfl w.heap.size _ _ (((k : Int) + 1) * x) w wr rfl rfl hP (by rw [tab_length]; omega) hb hB ?_; rintro v' w' hP2 hb2)
          go_roundw
          case rel => exact ⟨k + 1, by omega, by go_num, by rw [tab_succ, HF.out, HX.out]; exact hP2, hb2⟩
          case measure => simp [intOf] <;> omega
        · have hkk : k = xs.length - 1 := by omega
          go_wp2
          go_ret
          rw [E1.out, ← hkk]
          exact IsNew.app hP hb
theorem implPolySlope_any (A : Option Addr) (n c : Nat) (xs : List Int) (w : World) (hn : xs.length = n) (h : Ints w w.heap.size A xs) (hlen : n ≤ 4294967296) :
    Calls Try.prog 19 #[.slice A n c] w fun e w' => IsNew w (polySlope xs) e w' := by
  subst hn
  cases hv : polyB xs
  · have E1 : Hid (polySlope xs = []) := by simp [Hid, polySlope, hv]
    go_enter Try.func19, Try.ntmps19
    go_wp2_with (go_at_call 14; refine (implPolyValid_any _ _ _ xs _ rfl h hlen).mono ?_; rintro e w' ⟨rfl, rfl⟩)
    go_ret
    rw [E1.out]
    exact IsNew.nil (by repeat (first | exact bw_refl _ | assumption | apply bw_alloc | apply bw_drew | apply bw_drewN | (refine bw_trans ?_ (by assumption)) | (refine bw_set ?_ (by simp only [go_sem]; omega) _)))
  · obtain ⟨l0, l1, hall⟩ := polyB_at xs hv
    have HA := Lib.hid hall
    clear hall
    by_cases h1 : xs.length = 1
    · have E1 : Hid (polySlope xs = [0]) := by simp [Hid, polySlope, hv, h1]
      have hq : ((xs.length : Int) == 1) = true := by simp [h1]
      clear h1
      go_enter Try.func19, Try.ntmps19
      go_wp2_with (go_at_call 14; refine (implPolyValid_any _ _ _ xs _ rfl h hlen).mono ?_; rintro e w' ⟨rfl, rfl⟩)
      go_ret
      rw [E1.out]
      exact IsNew.row rfl (by simp) (Nat.le_refl _) (Row.lit w 0) (by repeat (first | exact bw_refl _ | assumption | apply bw_alloc | apply bw_drew | apply bw_drewN | (refine bw_trans ?_ (by assumption)) | (refine bw_set ?_ (by simp only [go_sem]; omega) _)))
    · have E1 : Hid (polySlope xs = tab (slopeF xs) (xs.length - 1)) := by simp [Hid, polySlope, hv, h1]
      have hq : ((xs.length : Int) == 1) = false := by simp; omega
      obtain ⟨m, hm⟩ : ∃ m, xs.length = m + 1 := ⟨xs.length - 1, by omega⟩
      have hms : (xs.length : Int) - 1 = m := by omega
      have hmk := run_make_row' (P := Try.prog) 22 3 (.int .i64 0) 8 Try.underlying22 info_int rfl .i64 .i64 m (by omega) (by omega)
      have HM := Lib.hid hm
      clear hm
      go_enter Try.func19, Try.ntmps19
      go_wp2_with (go_at_call 14; refine (implPolyValid_any _ _ _ xs _ rfl h hlen).mono ?_; rintro e w' ⟨rfl, rfl⟩)
      go_loopw [18] (fun i wr => ∃ (k : Nat) (ys : List Int), k ≤ m ∧ i = .int .i64 k ∧ ys.length = m ∧ (∀ j, j < k → ys.getD j 0 = slopeF xs j) ∧ Row wr w.heap.size ys ∧ Below w.heap.size w wr) (fun i _ => m - (intOf i).toNat)
      case atStart => exact ⟨0, List.replicate m 0, Nat.zero_le _, rfl, by simp, fun j hj => by omega, Row.made w _, (by repeat (first | exact bw_refl _ | assumption | apply bw_alloc | apply bw_drew | apply bw_drewN | (refine bw_trans ?_ (by assumption)) | (refine bw_set ?_ (by simp only [go_sem]; omega) _)))⟩
      case round =>
        obtain ⟨k, ys, hk, rfl, hy, he, hR, hb⟩ := hrel
        have HE := Lib.hid he
        have HY := Lib.hid hy
        clear he hy
        by_cases hlt : k < m
        · have hlt2 : k + 1 < xs.length := by have := HM.out; omega
          obtain ⟨b, off, rfl, hbl, hc⟩ := h (by omega)
          have hc1 : wr.cell? ⟨b, off + (k + 1), none⟩ = some (.int .i64 (xs.getD (k + 1) 0)) := (hb.cell (p := ⟨b, off + (k + 1), none⟩) hbl).trans (hc (k + 1) (by omega))
          have hc2 := hR.cell (j := k) (by rw [HY.out]; exact hlt)
          have hf2 := hR.frozen k
          clear hc
          obtain ⟨a0, a1⟩ := HA.out (k + 1) (by omega)
          have HF : Hid (slopeF xs k = ((k : Int) + 1) * xs.getD (k + 1) 0) := by simp [Hid, slopeF]
          obtain ⟨x, hx⟩ : ∃ x, xs.getD (k + 1) 0 = x := ⟨_, rfl⟩
          obtain ⟨y, hyy⟩ : ∃ y, ys.getD k 0 = y := ⟨_, rfl⟩
          rw [hx] at hc1 a0 a1
          rw [hyy] at hc2
          have HX := Lib.hid hx
          clear hx hyy
          obtain ⟨p0, p1⟩ := mul_bd ((k : Int) + 1) x 6 1000 (by omega) (by omega) (by omega) (by omega) a0 a1
          have hcm : x * ((k : Int) + 1) = ((k : Int) + 1) * x := Int.mul_comm _ _
          have q0 : -6000 ≤ x * ((k : Int) + 1) := by omega
          have q1 : x * ((k : Int) + 1) ≤ 6000 := by omega
          have HC := Lib.hid hcm
          clear hcm
          go_wp2
          go_roundw
          case rel =>
            refine ⟨k + 1, ys.set k (x * ((k : Int) + 1)), by omega, by go_num, by simp [HY.out], fun j hj => ?_, hR.set_ k _, hb.setCell (p := ⟨w.heap.size, k, none⟩) (Nat.le_refl _) _⟩
            by_cases hjk : j = k
            · subst hjk; rw [HF.out, HX.out, ← HC.out]; exact getD_set_eq _ _ _ (by rw [HY.out]; exact hlt)
            · rw [getD_set_ne _ _ _ _ hjk]; exact HE.out j (by omega)
          case measure => simp [intOf] <;> omega
        · have hkk : k = m := by omega
          go_wp2
          go_ret
          rw [E1.out]
          have := HM.out
          refine IsNew.row (by rw [tab_length]; omega) (Nat.le_refl _) (Nat.le_refl _) (hR.congr (by rw [tab_length, HY.out]; omega) fun j hj => ?_) hb
          rw [HY.out] at hj
          rw [tab_getD _ _ _ (by omega), HE.out j (by omega)]
theorem polySlope_len (xs : List Int) (h : xs.length ≤ 1048576) : (polySlope xs).length ≤ 4294967296 := by
  unfold polySlope
  split
  · split
    · simp
    · rw [tab_length]; omega
  · simp
theorem walk_FnExactPolySlope (A : Option Addr) (n c : Nat) (xs : List Int) (w : World) (h : Ints w w.heap.size A xs) (hn : xs.length = n) (_ : n ≤ c) (_ : c ≤ maxLen) :
    Calls Try.prog 5 #[.slice A n c] w fun e w' => e = .returned (.bool true) ∧ Below w.heap.size w w' := by
  subst hn
  by_cases hbig : 1048576 < xs.length
  · go_enter Try.func5, Try.ntmps5
    go_wp2
    go_ret
    exact ⟨rfl, (by repeat (first | exact bw_refl _ | assumption | apply bw_alloc | apply bw_drew | apply bw_drewN | (refine bw_trans ?_ (by assumption)) | (refine bw_set ?_ (by simp only [go_sem]; omega) _)))⟩
  · have hsame := eqIs_same xs
    have hS := fun (A : Option Addr) (c : Nat) (w : World) h' => specPolySlope_any A xs.length c xs w rfl h' (by omega)
    have hI := fun (A : Option Addr) (c : Nat) (w : World) h' => implPolySlope_any A xs.length c xs w rfl h' (by omega)
    have hL : (polySlope xs).length ≤ 4294967296 := polySlope_len xs (by omega)
    generalize polySlope xs = R at hS hI hL
    have hsr := eqIs_same R
    go_enter Try.func5, Try.ntmps5
    go_wp2_with fail
    refine (toIntS_any A _ _ xs _ rfl h (by omega)).mono ?_
    rintro e w1 ⟨rfl, r1, b1⟩
    go_wp2_with fail
    refine (hS _ _ _ r1.is).mono ?_
    rintro e w2 ⟨⟨A2, c2, rfl, o2⟩, b2⟩
    go_wp2_with fail
    refine (toIntS_any A _ _ xs _ rfl (h.up (by repeat (first | exact bw_refl _ | assumption | apply bw_alloc | apply bw_drew | apply bw_drewN | (refine bw_trans ?_ (by assumption)) | (refine bw_set ?_ (by simp only [go_sem]; omega) _)))) (by omega)).mono ?_
    rintro e w3 ⟨rfl, r3, b3⟩
    go_wp2_with fail
    refine (hI _ _ _ r3.is).mono ?_
    rintro e w4 ⟨⟨A4, c4, rfl, o4⟩, b4⟩
    go_wp2_with fail
    refine (eqIntS_any _ _ _ _ _ _ R R _ rfl rfl o4.ints (o2.up (by repeat (first | exact bw_refl _ | assumption | apply bw_alloc | apply bw_drew | apply bw_drewN | (refine bw_trans ?_ (by assumption)) | (refine bw_set ?_ (by simp only [go_sem]; omega) _)))).ints hL hL).mono ?_
    rintro e w5 ⟨rfl, b5⟩
    go_wp2_with fail
    refine (toIntS_any A _ _ xs _ rfl (h.up (by repeat (first | exact bw_refl _ | assumption | apply bw_alloc | apply bw_drew | apply bw_drewN | (refine bw_trans ?_ (by assumption)) | (refine bw_set ?_ (by simp only [go_sem]; omega) _)))) (by omega)).mono ?_
    rintro e w6 ⟨rfl, r6, b6⟩
    go_wp2_with fail
    refine (eqIntS_any _ _ _ _ _ _ xs xs _ rfl rfl (r3.up (by repeat (first | exact bw_refl _ | assumption | apply bw_alloc | apply bw_drew | apply bw_drewN | (refine bw_trans ?_ (by assumption)) | (refine bw_set ?_ (by simp only [go_sem]; omega) _)))).is r6.is (by omega) (by omega)).mono ?_
    rintro e w7 ⟨rfl, b7⟩
    have z1 := b1.size
    have z2 := b2.size
    have z3 := r3.lt
    have x7 : Own w.heap.size w7 (some ⟨w2.heap.size, 0, none⟩) xs.length xs.length xs := ⟨rfl, Nat.le_refl _, fun _ => ⟨_, rfl, by omega, r3.up (by repeat (first | exact bw_refl _ | assumption | apply bw_alloc | apply bw_drew | apply bw_drewN | (refine bw_trans ?_ (by assumption)) | (refine bw_set ?_ (by simp only [go_sem]; omega) _)))⟩⟩
    have o27 : Own w1.heap.size w7 A2 R.length c2 R := o2.up (by repeat (first | exact bw_refl _ | assumption | apply bw_alloc | apply bw_drew | apply bw_drewN | (refine bw_trans ?_ (by assumption)) | (refine bw_set ?_ (by simp only [go_sem]; omega) _)))
    have o47 : Own w3.heap.size w7 A4 R.length c4 R := o4.up (by repeat (first | exact bw_refl _ | assumption | apply bw_alloc | apply bw_drew | apply bw_drewN | (refine bw_trans ?_ (by assumption)) | (refine bw_set ?_ (by simp only [go_sem]; omega) _)))
    have c7 : Below w.heap.size w w7 := (by repeat (first | exact bw_refl _ | assumption | apply bw_alloc | apply bw_drew | apply bw_drewN | (refine bw_trans ?_ (by assumption)) | (refine bw_set ?_ (by simp only [go_sem]; omega) _)))
    go_wp2_with fail
    refine (markIntS_any _ _ _ _ _ _ _ x7 (by omega) (by omega) (by omega)).mono ?_
    rintro e w8 ⟨rfl, x8, t8⟩
    have o28 := o27.tch t8 fun g e e' => by
      have := blk_eq (ite_blk e).2
      rcases Nat.eq_zero_or_pos R.length with h0 | h0
      · exact h0
      · have := o2.lt e' h0
        omega
    have o48 := o47.tch t8 fun g e e' => by
      have := blk_eq (ite_blk e).2
      rcases Nat.eq_zero_or_pos R.length with h0 | h0
      · exact h0
      · have := o4.ge e' h0
        omega
    have c8 : Below w.heap.size w w8 := c7.trans (t8.below fun g e => by have := blk_eq (ite_blk e).2; omega)
    clear x8
    go_wp2_with fail
    refine (eqIntS_any _ _ _ _ _ _ R R _ rfl rfl o48.ints o28.ints hL hL).mono ?_
    rintro e w9 ⟨rfl, b9⟩
    have o49 := o48.up b9
    go_wp2_with fail
    refine (markIntS_any _ _ _ _ _ _ _ o49 (by omega) (by omega) (by omega)).mono ?_
    rintro e w10 ⟨rfl, g10, t10⟩
    have o210 := (o28.up b9).tch t10 fun g e e' => by
      have h0 := ite_blk e
      have := o2.lt e' h0.1
      have := o4.ge h0.2 h0.1
      omega
    have c10 : Below w.heap.size w w10 := Below.trans ((by repeat (first | exact bw_refl _ | assumption | apply bw_alloc | apply bw_drew | apply bw_drewN | (refine bw_trans ?_ (by assumption)) | (refine bw_set ?_ (by simp only [go_sem]; omega) _))) : Below w.heap.size w w9) (t10.below fun g e => by have h0 := ite_blk e; have := o4.ge h0.2 h0.1; omega)
    go_wp2_with fail
    refine (heldIntS_any _ _ _ _ _ g10.ints (by omega) (by omega) (by omega)).mono ?_
    rintro e w11 ⟨rfl, rfl⟩
    go_wp2_with fail
    refine (toIntS_any A _ _ xs _ rfl (h.up (by repeat (first | exact bw_refl _ | assumption | apply bw_alloc | apply bw_drew | apply bw_drewN | (refine bw_trans ?_ (by assumption)) | (refine bw_set ?_ (by simp only [go_sem]; omega) _)))) (by omega)).mono ?_
    rintro e w12 ⟨rfl, r12, b12⟩
    go_wp2_with fail
    refine (hI _ _ _ r12.is).mono ?_
    rintro e w13 ⟨⟨A13, c13, rfl, o13⟩, b13⟩
    go_wp2_with fail
    refine (eqIntS_any _ _ _ _ _ _ R R _ rfl rfl o13.ints (o210.up (by repeat (first | exact bw_refl _ | assumption | apply bw_alloc | apply bw_drew | apply bw_drewN | (refine bw_trans ?_ (by assumption)) | (refine bw_set ?_ (by simp only [go_sem]; omega) _)))).ints hL hL).mono ?_
    rintro e w14 ⟨rfl, b14⟩
    go_wp2_with fail
    refine (heldIntS_any _ _ _ _ _ (g10.up (by repeat (first | exact bw_refl _ | assumption | apply bw_alloc | apply bw_drew | apply bw_drewN | (refine bw_trans ?_ (by assumption)) | (refine bw_set ?_ (by simp only [go_sem]; omega) _)))).ints (by omega) (by omega) (by omega)).mono ?_
    rintro e w15 ⟨rfl, rfl⟩
    go_wp2
    go_ret
    exact ⟨rfl, (by repeat (first | exact bw_refl _ | assumption | apply bw_alloc | apply bw_drew | apply bw_drewN | (refine bw_trans ?_ (by assumption)) | (refine bw_set ?_ (by simp only [go_sem]; omega) _)))⟩
end Go.Proofs.Ytdnklndemoinaaa
