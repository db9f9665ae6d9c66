/- Contracts of MiddleFilter, of the program's and the reference's, and the walk of its exact law; no condition. -/
import Derived.Test.YtpmojbdoiahodaaLimit
namespace Go.Proofs.Ytpmojbdoiahodaa
open Go.RowKit
set_option linter.unusedVariables false
set_option maxHeartbeats 4000000

def mid3 (a b c : Int) : Int := max (min a b) (min (max a b) c)
def midF (xs : List Int) (k : Nat) : Int := if k = 0 ∨ k + 1 = xs.length then xs.getD k 0 else mid3 (xs.getD (k - 1) 0) (xs.getD k 0) (xs.getD (k + 1) 0)
def middleFilter (xs : List Int) : List Int := if seriesB xs then tab (midF xs) xs.length else []
theorem specMiddleFilter_any (A : Option Addr) (n c : Nat) (xs : List Int) (w : World) (hn : xs.length = n) (h : Ints w w.heap.size A xs) (hlen : n ≤ 4294967296) :
    Calls Try.prog 22 #[.slice A n c] w fun e w' => IsNew w (middleFilter xs) e w' := by
  subst hn
  by_cases hs : seriesB xs = true
  · have E1 : Hid (middleFilter xs = tab (midF xs) xs.length) := by simp only [Hid, middleFilter, hs, if_true]
    obtain ⟨l1, hall⟩ := seriesB_at xs hs
    have HA := Lib.hid hall
    clear hall
    go_enter Try.func22, Try.ntmps22
    go_wp2
    go_loopw [3, 4] (fun v i wr => ∃ k : Nat, k ≤ xs.length ∧ i = .int .i64 k ∧ App wr w.heap.size v (tab (midF xs) k) ∧ Below w.heap.size w wr) (fun _ i _ => xs.length - (intOf i).toNat)
    case atStart => exact ⟨0, by omega, rfl, App.empty w _ (Nat.le_refl _), (by repeat (first | exact bw_refl _ | assumption | apply bw_alloc | apply bw_drew | apply bw_drewN | (refine bw_trans ?_ (by assumption)) | (refine bw_set ?_ (by simp only [go_sem]; omega) _)))⟩
    case round =>
      obtain ⟨k, hk, rfl, hP, hb⟩ := hrel
      have hB : w.heap.size ≤ wr.heap.size := hb.size
      by_cases hlt : k < xs.length
      · obtain ⟨b, off, rfl, hbl, hc⟩ := h (by omega)
        have hI : Ints wr wr.heap.size (some ⟨b, off, none⟩) xs := h.up hb
        match k, hk, hlt, hP with
        | 0, hk, hlt, hP =>
          have hc1 : wr.cell? ⟨b, off, none⟩ = some (.int .i64 (xs.getD 0 0)) := (hb.cell (p := ⟨b, off, none⟩) hbl).trans (hc 0 hlt)
          clear hc
          have HF : Hid (midF xs 0 = xs.getD 0 0) := by simp [Hid, midF]
          obtain ⟨x, hx⟩ : ∃ x, xs.getD 0 0 = x := ⟨_, rfl⟩
          rw [hx] at hc1
          have HX := Lib.hid hx
          clear hx
          go_wp2_with (first
            | (go_at_call 14; refine (specSeriesValid_any _ _ _ xs _ rfl hI (by omega)).mono ?_; rintro e w' ⟨rfl, rfl⟩)
            | (at_builtin; refine wpList_append_int rfl (.tmp 28) (.tmp 33) rfl w.heap.size _ _ x w wr rfl rfl hP (by rw [tab_length]; omega) hb hB ?_; rintro v' w' hP2 hb2))
          go_roundw
          case rel => exact ⟨1, by omega, by go_num, by rw [tab_succ, HF.out, HX.out]; exact hP2, hb2⟩
          case measure => simp [intOf] <;> omega
        | j + 1, hk, hlt, hP =>
          have hc1 : wr.cell? ⟨b, off + (j + 1), none⟩ = some (.int .i64 (xs.getD (j + 1) 0)) := (hb.cell (p := ⟨b, off + (j + 1), none⟩) hbl).trans (hc (j + 1) hlt)
          have ek : ((j + 1 : Nat) : Int) = (j : Int) + 1 := rfl
          rw [ek]
          clear ek
          have i3 : (0 : Int) ≤ (j : Int) + 1 := by omega
          have q0 : (((j : Int) + 1) == 0) = false := by simp; omega
          by_cases hl : j + 2 = xs.length
          · have HF : Hid (midF xs (j + 1) = xs.getD (j + 1) 0) := by simp [Hid, midF, hl]
            clear hc
            obtain ⟨x, hx⟩ : ∃ x, xs.getD (j + 1) 0 = x := ⟨_, rfl⟩
            rw [hx] at hc1
            have HX := Lib.hid hx
            clear hx
            have q1 : (((j : Int) + 1) == (xs.length : Int) - 1) = true := by simp; omega
            clear hl
            go_wp2_with (first
              | (go_at_call 14; refine (specSeriesValid_any _ _ _ xs _ rfl hI (by omega)).mono ?_; rintro e w' ⟨rfl, rfl⟩)
              | (at_builtin; refine wpList_append_int rfl (.tmp 28) (.tmp 33) rfl w.heap.size _ _ x w wr rfl rfl hP (by rw [tab_length]; omega) hb hB ?_; rintro v' w' hP2 hb2))
            go_roundw
            case rel => exact ⟨j + 1 + 1, by omega, by go_num, by rw [tab_succ, HF.out, HX.out]; exact hP2, hb2⟩
            case measure => simp [intOf] <;> omega
          · have HF : Hid (midF xs (j + 1) = mid3 (xs.getD j 0) (xs.getD (j + 1) 0) (xs.getD (j + 1 + 1) 0)) := by simp [Hid, midF, hl]
            have hc0 : wr.cell? ⟨b, off + j, none⟩ = some (.int .i64 (xs.getD j 0)) := (hb.cell (p := ⟨b, off + j, none⟩) hbl).trans (hc j (by omega))
            have hc2 : wr.cell? ⟨b, off + (j + 1 + 1), none⟩ = some (.int .i64 (xs.getD (j + 1 + 1) 0)) := (hb.cell (p := ⟨b, off + (j + 1 + 1), none⟩) hbl).trans (hc (j + 1 + 1) (by omega))
            clear hc
            obtain ⟨x0, hx0⟩ : ∃ x, xs.getD j 0 = x := ⟨_, rfl⟩
            obtain ⟨x, hx⟩ : ∃ x, xs.getD (j + 1) 0 = x := ⟨_, rfl⟩
            obtain ⟨x2, hx2⟩ : ∃ x, xs.getD (j + 1 + 1) 0 = x := ⟨_, rfl⟩
            rw [hx] at hc1
            rw [hx0] at hc0
            rw [hx2] at hc2
            have HX := Lib.hid hx
            have HX0 := Lib.hid hx0
            have HX2 := Lib.hid hx2
            clear hx hx0 hx2
            have q1 : (((j : Int) + 1) == (xs.length : Int) - 1) = false := by simp; omega
            have hlt2 : j + 1 + 1 < xs.length := by omega
            clear hl
            go_wp2_with (first
              | (go_at_call 14; refine (specSeriesValid_any _ _ _ xs _ rfl hI (by omega)).mono ?_; rintro e w' ⟨rfl, rfl⟩)
              | (at_builtin; refine wpList_append_int rfl (.tmp 49) (.tmp 59) rfl w.heap.size _ _ _ w wr rfl rfl hP (by rw [tab_length]; omega) hb hB ?_; rintro v' w' hP2 hb2))
            go_roundw
            case rel =>
              refine ⟨j + 1 + 1, by omega, by go_num, ?_, hb2⟩
              rw [tab_succ, HF.out, HX.out, HX0.out, HX2.out]
              refine cast (congrArg (fun z => App _ _ _ (_ ++ [z])) ?_) hP2
              unfold mid3
              (repeat' split) <;> omega
            case measure => simp [intOf] <;> omega
      · have hkk : k = xs.length := by omega
        go_wp2
        go_ret
        rw [E1.out, ← hkk]
        exact IsNew.app hP hb
  · have hs : seriesB xs = false := by simpa using hs
    have E1 : Hid (middleFilter xs = []) := by simp only [Hid, middleFilter, hs]; rfl
    go_enter Try.func22, Try.ntmps22
    go_wp2
    go_loopw [3, 4] (fun v i wr => i = .int .i64 0 ∧ App wr w.heap.size v [] ∧ Below w.heap.size w wr) (fun _ i _ => 0)
    case atStart => exact ⟨rfl, App.empty w _ (Nat.le_refl _), (by repeat (first | exact bw_refl _ | assumption | apply bw_alloc | apply bw_drew | apply bw_drewN | (refine bw_trans ?_ (by assumption)) | (refine bw_set ?_ (by simp only [go_sem]; omega) _)))⟩
    case round =>
      obtain ⟨rfl, hP, hb⟩ := hrel
      have hI : Ints wr wr.heap.size A xs := h.up hb
      by_cases hlt : 0 < xs.length
      · go_wp2_with (go_at_call 14; refine (specSeriesValid_any _ _ _ xs _ rfl hI (by omega)).mono ?_; rintro e w' ⟨rfl, rfl⟩)
        go_ret
        rw [E1.out]
        exact IsNew.app hP hb
      · have h0 : ((xs.length : Int)) = 0 := by omega
        go_wp2
        go_ret
        rw [E1.out]
        exact IsNew.app hP hb
theorem implMiddleFilter_any (A : Option Addr) (n c : Nat) (xs : List Int) (w : World) (hn : xs.length = n) (h : Ints w w.heap.size A xs) (hlen : n ≤ 4294967296) :
    Calls Try.prog 23 #[.slice A n c] w fun e w' => IsNew w (middleFilter xs) e w' := by
  subst hn
  by_cases hs : seriesB xs = true
  · have E1 : Hid (middleFilter xs = tab (midF xs) xs.length) := by simp only [Hid, middleFilter, hs, if_true]
    obtain ⟨l1, hall⟩ := seriesB_at xs hs
    have HA := Lib.hid hall
    clear hall
    have hmk := run_make_row' (P := Try.prog) 22 3 (.int .i64 0) 8 Try.underlying22 info_int rfl .i64 .i64 xs.length (by omega) (by omega)
    go_enter Try.func23, Try.ntmps23
    go_wp2_with (first
      | (go_at_call 16; refine (implSeriesValid_any _ _ _ xs _ rfl h (by omega)).mono ?_; rintro e w' ⟨rfl, rfl⟩)
      | (refine wpList_copy_ints (w := w.alloc (.cells (madeCells #[.int .i64 0] xs.length) 3)) rfl (.tmp 13) (.tmp 14) 22 rfl Try.underlying22 (by kernel_rfl) w.heap.size _ _ _ _ rfl rfl xs (List.replicate xs.length 0) rfl (by simp) (h.up (bw_alloc (bw_refl _) _)) (Row.made w _) w.heap.size w (bw_alloc (bw_refl _) _) (Nat.le_refl _) ?_; intro w1 hR1 hb1))
    go_loopw [4] (fun i wr => ∃ (k : Nat) (ys : List Int), (k = 0 ∨ k + 1 < xs.length) ∧ i = .int .i64 ((k : Int) + 1) ∧ ys.length = xs.length ∧ (∀ j, j ≤ k → j < xs.length → ys.getD j 0 = midF xs j) ∧ (∀ j, k < j → ys.getD j 0 = xs.getD j 0) ∧ Row wr w.heap.size ys ∧ Below w.heap.size w wr) (fun i _ => xs.length - (intOf i).toNat)
    case atStart => exact ⟨0, xs, .inl rfl, rfl, rfl, fun j hj hl => by obtain rfl : j = 0 := by omega
                                                                        simp [midF], fun j hj => rfl, hR1, hb1⟩
    case round =>
      obtain ⟨k, ys, hk, rfl, hy, he, he2, hR, hb⟩ := hrel
      have HE := Lib.hid he
      have HE2 := Lib.hid he2
      have HY := Lib.hid hy
      have HK := Lib.hid hk
      clear he he2 hy hk
      have hk60 : k ≤ 60 := by have := HK.out; omega
      by_cases hlt : k + 1 + 1 < xs.length
      · obtain ⟨b, off, rfl, hbl, hc⟩ := h (by omega)
        have hc0 : wr.cell? ⟨b, off + k, none⟩ = some (.int .i64 (xs.getD k 0)) := (hb.cell (p := ⟨b, off + k, none⟩) hbl).trans (hc k (by omega))
        have hc1 : wr.cell? ⟨b, off + (k + 1), none⟩ = some (.int .i64 (xs.getD (k + 1) 0)) := (hb.cell (p := ⟨b, off + (k + 1), none⟩) hbl).trans (hc (k + 1) (by omega))
        have hc2 : wr.cell? ⟨b, off + (k + 1 + 1), none⟩ = some (.int .i64 (xs.getD (k + 1 + 1) 0)) := (hb.cell (p := ⟨b, off + (k + 1 + 1), none⟩) hbl).trans (hc (k + 1 + 1) hlt)
        have hc3 := hR.cell (j := k + 1) (by rw [HY.out]; omega)
        have hf3 := hR.frozen (k + 1)
        clear hc
        rw [HE2.out (k + 1) (by omega)] at hc3
        have hkn : ¬ (k + 1 + 1 = xs.length) := by omega
        have HF : Hid (midF xs (k + 1) = mid3 (xs.getD k 0) (xs.getD (k + 1) 0) (xs.getD (k + 1 + 1) 0)) := by simp [Hid, midF, hkn]
        clear hkn
        obtain ⟨x0, hx0⟩ : ∃ x, xs.getD k 0 = x := ⟨_, rfl⟩
        obtain ⟨x, hx⟩ : ∃ x, xs.getD (k + 1) 0 = x := ⟨_, rfl⟩
        obtain ⟨x2, hx2⟩ : ∃ x, xs.getD (k + 1 + 1) 0 = x := ⟨_, rfl⟩
        rw [hx] at hc1 hc3
        rw [hx0] at hc0
        rw [hx2] at hc2
        have HX := Lib.hid hx
        have HX0 := Lib.hid hx0
        have HX2 := Lib.hid hx2
        clear hx hx0 hx2
        have i0 : (k : Int) < xs.length := by omega
        have i2 : (k : Int) + 1 + 1 < xs.length := by omega
        have i3 : (0 : Int) ≤ (k : Int) + 1 + 1 := by omega
        have i4 : (0 : Int) ≤ (k : Int) + 1 := by omega
        have e1 : IntKind.i64.wrap (k : Int) = k := IntWalk.i64_in _ (by omega)
        have e2 : IntKind.i64.wrap ((k : Int) + 1 + 1) = (k : Int) + 1 + 1 := IntWalk.i64_in _ (by omega)
        go_wp2
        go_quiet (fail)
        go_wp2
        go_roundw
        case rel =>
          refine ⟨k + 1, ys.set (k + 1) _, .inr (by omega), by go_num, by simp [HY.out], fun j hj hl => ?_, fun j hj => ?_, hR.set_ (k + 1) _, (bw_drewN hb _).setCell (p := ⟨w.heap.size, k + 1, none⟩) (Nat.le_refl _) _⟩
          · by_cases hjk : j = k + 1
            · subst hjk
              rw [HF.out, HX0.out, HX.out, HX2.out, getD_set_eq _ _ _ (by rw [HY.out]; exact hl)]
              unfold mid3
              (repeat' split) <;> omega
            · rw [getD_set_ne _ _ _ _ hjk]; exact HE.out j (by omega) hl
          · rw [getD_set_ne _ _ _ _ (by omega)]; exact HE2.out j (by omega)
        case measure => simp [intOf] <;> omega
      · go_wp2
        go_ret
        rw [E1.out]
        have := HK.out
        refine IsNew.row (by rw [tab_length]) (Nat.le_refl _) (Nat.le_refl _) (hR.congr (by rw [tab_length, HY.out]) fun j hj => ?_) hb
        rw [HY.out] at hj
        rw [tab_getD _ _ _ hj]
        by_cases hjk : j ≤ k
        · rw [HE.out j hjk hj]
        · rw [HE2.out j (by omega)]
          have : j + 1 = xs.length := by omega
          simp [midF, this]
  · have hs : seriesB xs = false := by simpa using hs
    have E1 : Hid (middleFilter xs = []) := by simp only [Hid, middleFilter, hs]; rfl
    go_enter Try.func23, Try.ntmps23
    go_wp2_with (go_at_call 16; refine (implSeriesValid_any _ _ _ xs _ rfl h (by omega)).mono ?_; rintro e w' ⟨rfl, rfl⟩)
    go_ret
    rw [E1.out]
    exact IsNew.nil (by repeat (first | exact bw_refl _ | assumption | apply bw_alloc | apply bw_drew | apply bw_drewN | (refine bw_trans ?_ (by assumption)) | (refine bw_set ?_ (by simp only [go_sem]; omega) _)))
theorem middleFilter_len (xs : List Int) (h : xs.length ≤ 1048576) : (middleFilter xs).length ≤ 4294967296 := by
  unfold middleFilter
  split
  · rw [tab_length]; omega
  · simp
theorem walk_FnExactMiddleFilter (A : Option Addr) (n c : Nat) (xs : List Int) (w : World) (h : Ints w w.heap.size A xs) (hn : xs.length = n) (_ : n ≤ c) (_ : c ≤ maxLen) :
    Calls Try.prog 5 #[.slice A n c] w fun e w' => e = .returned (.bool true) ∧ Below w.heap.size w w' := by
  subst hn
  by_cases hbig : 1048576 < xs.length
  · go_enter Try.func5, Try.ntmps5
    go_wp2
    go_ret
    exact ⟨rfl, (by repeat (first | exact bw_refl _ | assumption | apply bw_alloc | apply bw_drew | apply bw_drewN | (refine bw_trans ?_ (by assumption)) | (refine bw_set ?_ (by simp only [go_sem]; omega) _)))⟩
  · have hsame := eqIs_same xs
    have hS := fun (A : Option Addr) (c : Nat) (w : World) h' => specMiddleFilter_any A xs.length c xs w rfl h' (by omega)
    have hI := fun (A : Option Addr) (c : Nat) (w : World) h' => implMiddleFilter_any A xs.length c xs w rfl h' (by omega)
    have hL : (middleFilter xs).length ≤ 4294967296 := middleFilter_len xs (by omega)
    generalize middleFilter xs = R at hS hI hL
    have hsr := eqIs_same R
    go_enter Try.func5, Try.ntmps5
    go_wp2_with fail
    refine (toIntS_any A _ _ xs _ rfl h (by omega)).mono ?_
    rintro e w1 ⟨rfl, r1, b1⟩
    go_wp2_with fail
    refine (hS _ _ _ r1.is).mono ?_
    rintro e w2 ⟨⟨A2, c2, rfl, o2⟩, b2⟩
    go_wp2_with fail
    refine (toIntS_any A _ _ xs _ rfl (h.up (by repeat (first | exact bw_refl _ | assumption | apply bw_alloc | apply bw_drew | apply bw_drewN | (refine bw_trans ?_ (by assumption)) | (refine bw_set ?_ (by simp only [go_sem]; omega) _)))) (by omega)).mono ?_
    rintro e w3 ⟨rfl, r3, b3⟩
    go_wp2_with fail
    refine (hI _ _ _ r3.is).mono ?_
    rintro e w4 ⟨⟨A4, c4, rfl, o4⟩, b4⟩
    go_wp2_with fail
    refine (eqIntS_any _ _ _ _ _ _ R R _ rfl rfl o4.ints (o2.up (by repeat (first | exact bw_refl _ | assumption | apply bw_alloc | apply bw_drew | apply bw_drewN | (refine bw_trans ?_ (by assumption)) | (refine bw_set ?_ (by simp only [go_sem]; omega) _)))).ints hL hL).mono ?_
    rintro e w5 ⟨rfl, b5⟩
    go_wp2_with fail
    refine (toIntS_any A _ _ xs _ rfl (h.up (by repeat (first | exact bw_refl _ | assumption | apply bw_alloc | apply bw_drew | apply bw_drewN | (refine bw_trans ?_ (by assumption)) | (refine bw_set ?_ (by simp only [go_sem]; omega) _)))) (by omega)).mono ?_
    rintro e w6 ⟨rfl, r6, b6⟩
    go_wp2_with fail
    refine (eqIntS_any _ _ _ _ _ _ xs xs _ rfl rfl (r3.up (by repeat (first | exact bw_refl _ | assumption | apply bw_alloc | apply bw_drew | apply bw_drewN | (refine bw_trans ?_ (by assumption)) | (refine bw_set ?_ (by simp only [go_sem]; omega) _)))).is r6.is (by omega) (by omega)).mono ?_
    rintro e w7 ⟨rfl, b7⟩
    have z1 := b1.size
    have z2 := b2.size
    have z3 := r3.lt
    have x7 : Own w.heap.size w7 (some ⟨w2.heap.size, 0, none⟩) xs.length xs.length xs := ⟨rfl, Nat.le_refl _, fun _ => ⟨_, rfl, by omega, r3.up (by repeat (first | exact bw_refl _ | assumption | apply bw_alloc | apply bw_drew | apply bw_drewN | (refine bw_trans ?_ (by assumption)) | (refine bw_set ?_ (by simp only [go_sem]; omega) _)))⟩⟩
    have o27 : Own w1.heap.size w7 A2 R.length c2 R := o2.up (by repeat (first | exact bw_refl _ | assumption | apply bw_alloc | apply bw_drew | apply bw_drewN | (refine bw_trans ?_ (by assumption)) | (refine bw_set ?_ (by simp only [go_sem]; omega) _)))
    have o47 : Own w3.heap.size w7 A4 R.length c4 R := o4.up (by repeat (first | exact bw_refl _ | assumption | apply bw_alloc | apply bw_drew | apply bw_drewN | (refine bw_trans ?_ (by assumption)) | (refine bw_set ?_ (by simp only [go_sem]; omega) _)))
    have c7 : Below w.heap.size w w7 := (by repeat (first | exact bw_refl _ | assumption | apply bw_alloc | apply bw_drew | apply bw_drewN | (refine bw_trans ?_ (by assumption)) | (refine bw_set ?_ (by simp only [go_sem]; omega) _)))
    go_wp2_with fail
    refine (markIntS_any _ _ _ _ _ _ _ x7 (by omega) (by omega) (by omega)).mono ?_
    rintro e w8 ⟨rfl, x8, t8⟩
    have o28 := o27.tch t8 fun g e e' => by
      have := blk_eq (ite_blk e).2
      rcases Nat.eq_zero_or_pos R.length with h0 | h0
      · exact h0
      · have := o2.lt e' h0
        omega
    have o48 := o47.tch t8 fun g e e' => by
      have := blk_eq (ite_blk e).2
      rcases Nat.eq_zero_or_pos R.length with h0 | h0
      · exact h0
      · have := o4.ge e' h0
        omega
    have c8 : Below w.heap.size w w8 := c7.trans (t8.below fun g e => by have := blk_eq (ite_blk e).2; omega)
    clear x8
    go_wp2_with fail
    refine (eqIntS_any _ _ _ _ _ _ R R _ rfl rfl o48.ints o28.ints hL hL).mono ?_
    rintro e w9 ⟨rfl, b9⟩
    have o49 := o48.up b9
    go_wp2_with fail
    refine (markIntS_any _ _ _ _ _ _ _ o49 (by omega) (by omega) (by omega)).mono ?_
    rintro e w10 ⟨rfl, g10, t10⟩
    have o210 := (o28.up b9).tch t10 fun g e e' => by
      have h0 := ite_blk e
      have := o2.lt e' h0.1
      have := o4.ge h0.2 h0.1
      omega
    have c10 : Below w.heap.size w w10 := Below.trans ((by repeat (first | exact bw_refl _ | assumption | apply bw_alloc | apply bw_drew | apply bw_drewN | (refine bw_trans ?_ (by assumption)) | (refine bw_set ?_ (by simp only [go_sem]; omega) _))) : Below w.heap.size w w9) (t10.below fun g e => by have h0 := ite_blk e; have := o4.ge h0.2 h0.1; omega)
    go_wp2_with fail
    refine (heldIntS_any _ _ _ _ _ g10.ints (by omega) (by omega) (by omega)).mono ?_
    rintro e w11 ⟨rfl, rfl⟩
    go_wp2_with fail
    refine (toIntS_any A _ _ xs _ rfl (h.up (by repeat (first | exact bw_refl _ | assumption | apply bw_alloc | apply bw_drew | apply bw_drewN | (refine bw_trans ?_ (by assumption)) | (refine bw_set ?_ (by simp only [go_sem]; omega) _)))) (by omega)).mono ?_
    rintro e w12 ⟨rfl, r12, b12⟩
    go_wp2_with fail
    refine (hI _ _ _ r12.is).mono ?_
    rintro e w13 ⟨⟨A13, c13, rfl, o13⟩, b13⟩
    go_wp2_with fail
    refine (eqIntS_any _ _ _ _ _ _ R R _ rfl rfl o13.ints (o210.up (by repeat (first | exact bw_refl _ | assumption | apply bw_alloc | apply bw_drew | apply bw_drewN | (refine bw_trans ?_ (by assumption)) | (refine bw_set ?_ (by simp only [go_sem]; omega) _)))).ints hL hL).mono ?_
    rintro e w14 ⟨rfl, b14⟩
    go_wp2_with fail
    refine (heldIntS_any _ _ _ _ _ (g10.up (by repeat (first | exact bw_refl _ | assumption | apply bw_alloc | apply bw_drew | apply bw_drewN | (refine bw_trans ?_ (by assumption)) | (refine bw_set ?_ (by simp only [go_sem]; omega) _)))).ints (by omega) (by omega) (by omega)).mono ?_
    rintro e w15 ⟨rfl, rfl⟩
    go_wp2
    go_ret
    exact ⟨rfl, (by repeat (first | exact bw_refl _ | assumption | apply bw_alloc | apply bw_drew | apply bw_drewN | (refine bw_trans ?_ (by assumption)) | (refine bw_set ?_ (by simp only [go_sem]; omega) _)))⟩
end Go.Proofs.Ytpmojbdoiahodaa
