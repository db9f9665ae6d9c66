/- Contracts of PolyAt, of the program's and the reference's, and the walk of its exact law; no condition. -/
import Derived.Test.YtdnklndemoinaaaPoly
namespace Go.Proofs.Ytdnklndemoinaaa
open Go.RowKit
set_option linter.unusedVariables false

def evalP (x : Int) : List Int → Int
  | [] => 0
  | a :: l => evalP x l * x + a
def polyAt (xs : List Int) (x : Int) : Int := if polyB xs && inB x (-100) 100 then evalP x xs else 0
def kb : Nat → Int
  | 0 => 0
  | n + 1 => kb n * 100 + 1000
theorem kb_le (t : Nat) (h : t ≤ 6) : 0 ≤ kb t ∧ kb t ≤ 10101010101000 := by
  match t, h with
  | 0, _ => decide
  | 1, _ => decide
  | 2, _ => decide
  | 3, _ => decide
  | 4, _ => decide
  | 5, _ => decide
  | 6, _ => decide
  | n + 7, h => omega
theorem polyB_spec (xs : List Int) (h : polyB xs = true) : 1 ≤ xs.length ∧ xs.length ≤ 7 ∧ ∀ j, j < xs.length → -1000 ≤ xs.getD j 0 ∧ xs.getD j 0 ≤ 1000 := by
  unfold polyB at h
  simp only [Bool.and_eq_true, decide_eq_true_eq] at h
  exact ⟨h.1.1, h.1.2, fun j hj => allIn_at 1000 xs h.2 j hj⟩
theorem specPolyAt_any (A : Option Addr) (n c : Nat) (xs : List Int) (x : Int) (w : World) (hn : xs.length = n) (h : Ints w w.heap.size A xs) (hlen : n ≤ 4294967296) :
    Calls Try.prog 16 #[.slice A n c, .int .i64 x] w fun e w' => e = .returned (.int .i64 (polyAt xs x)) ∧ w = w' := by
  subst hn
  cases hv : polyB xs
  · have E1 : Hid (polyAt xs x = 0) := by simp [Hid, polyAt, hv]
    go_enter Try.func16, Try.ntmps16
    go_wp2_with (go_at_call 12; refine (specPolyValid_any _ _ _ xs _ rfl h hlen).mono ?_; rintro e w' ⟨rfl, rfl⟩)
    go_ret
    exact ⟨ret_int E1.out.symm, rfl⟩
  · rcases inB_cases x (-100) 100 with ⟨hx, x0, x1⟩ | ⟨hx, -⟩
    · have E1 : Hid (polyAt xs x = evalP x xs) := by simp [Hid, polyAt, hv, hx]
      obtain ⟨l0, l1, hall⟩ := polyB_spec xs hv
      have HA := Lib.hid hall
      clear hall
      go_enter Try.func16, Try.ntmps16
      go_wp2_with (first
        | (go_at_call 12; refine (specPolyValid_any _ _ _ xs _ rfl h hlen).mono ?_; rintro e w' ⟨rfl, rfl⟩)
        | (go_at_call 32; refine (l1In_any _ _ _ _).mono ?_; rintro e w' ⟨rfl, rfl⟩))
      go_loop [5, 6] (fun v i => ∃ (j : Nat) (y : Int), j ≤ xs.length ∧ i = .int .i64 ((j : Int) - 1) ∧ v = .int .i64 y ∧ y = evalP x (xs.drop j) ∧ -(kb (xs.length - j)) ≤ y ∧ y ≤ kb (xs.length - j)) (fun _ i => (intOf i + 1).toNat)
      case atStart => exact ⟨xs.length, 0, Nat.le_refl _, by first | rfl | go_num, rfl, by rw [List.drop_length]; rfl, by simp [kb], by simp [kb]⟩
      case round =>
        obtain ⟨j, y, hj, rfl, rfl, hy, y0, y1⟩ := hrel
        have HY := Lib.hid hy
        clear hy
        rcases Nat.eq_zero_or_pos j with h0 | h0
        · have HJ := Lib.hid h0
          have hneg : (j : Int) - 1 < 0 := by omega
          go_wp2
          go_ret
          refine ⟨ret_int ?_, rfl⟩
          rw [E1.out, HY.out, HJ.out]
          rfl
        · obtain ⟨m, rfl⟩ : ∃ m, j = m + 1 := ⟨j - 1, by omega⟩
          have ej : (((m + 1 : Nat) : Int) - 1) = m := by omega
          rw [ej]
          have hm : m < xs.length := by omega
          obtain ⟨b, off, rfl, hbl, hc⟩ := h (by omega)
          have hc1 := hc m hm
          clear hc
          obtain ⟨a0, a1⟩ := HA.out m hm
          obtain ⟨a, ha⟩ : ∃ a, xs.getD m 0 = a := ⟨_, rfl⟩
          rw [ha] at hc1 a0 a1
          have HV := Lib.hid ha
          clear ha ej
          obtain ⟨k0, k1⟩ := kb_le (xs.length - (m + 1)) (by omega)
          obtain ⟨p0, p1⟩ := mul_bd y x (kb (xs.length - (m + 1))) 100 (by omega) (by omega) y0 y1 x0 x1
          have r0 : -1010101010101000 ≤ y * x := by omega
          have r1 : y * x ≤ 1010101010101000 := by omega
          have hs : kb (xs.length - m) = kb (xs.length - (m + 1)) * 100 + 1000 := by
            have e : xs.length - m = (xs.length - (m + 1)) + 1 := by omega
            rw [e, kb]
          have HS := Lib.hid hs
          clear hs
          have hev : evalP x (xs.drop m) = evalP x (xs.drop (m + 1)) * x + xs.getD m 0 := by
            rw [List.drop_eq_getElem_cons hm, evalP]
            simp [List.getD, hm]
          have HE := Lib.hid hev
          clear hev
          go_wp2
          go_round
          case rel => exact ⟨m, y * x + a, by omega, by go_num, rfl, by rw [HE.out, HY.out, HV.out], by rw [HS.out]; omega, by rw [HS.out]; omega⟩
          case measure => simp [intOf] <;> omega
    · have E1 : Hid (polyAt xs x = 0) := by simp [Hid, polyAt, hx]
      go_enter Try.func16, Try.ntmps16
      go_wp2_with (first
        | (go_at_call 12; refine (specPolyValid_any _ _ _ xs _ rfl h hlen).mono ?_; rintro e w' ⟨rfl, rfl⟩)
        | (go_at_call 32; refine (l1In_any _ _ _ _).mono ?_; rintro e w' ⟨rfl, rfl⟩))
      go_ret
      exact ⟨ret_int E1.out.symm, rfl⟩
theorem implPolyAt_any (A : Option Addr) (n c : Nat) (xs : List Int) (x : Int) (w : World) (hn : xs.length = n) (h : Ints w w.heap.size A xs) (hlen : n ≤ 4294967296) :
    Calls Try.prog 17 #[.slice A n c, .int .i64 x] w fun e w' => e = .returned (.int .i64 (polyAt xs x)) ∧ w = w' := by
  subst hn
  cases hv : polyB xs
  · have E1 : Hid (polyAt xs x = 0) := by simp [Hid, polyAt, hv]
    go_enter Try.func17, Try.ntmps17
    go_wp2_with (go_at_call 14; refine (implPolyValid_any _ _ _ xs _ rfl h hlen).mono ?_; rintro e w' ⟨rfl, rfl⟩)
    go_ret
    exact ⟨ret_int E1.out.symm, rfl⟩
  · rcases inB_cases x (-100) 100 with ⟨hx, x0, x1⟩ | ⟨hx, -⟩
    · have E1 : Hid (polyAt xs x = evalP x xs) := by simp [Hid, polyAt, hv, hx]
      obtain ⟨l0, l1, hall⟩ := polyB_spec xs hv
      have HA := Lib.hid hall
      clear hall
      go_enter Try.func17, Try.ntmps17
      go_wp2_with (first
        | (go_at_call 14; refine (implPolyValid_any _ _ _ xs _ rfl h hlen).mono ?_; rintro e w' ⟨rfl, rfl⟩)
        | (go_at_call 33; refine (within_any _ _ (by omega) (by omega) _).mono ?_; rintro e w' ⟨rfl, rfl⟩))
      go_loop [5, 6] (fun v i => ∃ (j : Nat) (y : Int), j ≤ xs.length ∧ i = .int .i64 ((j : Int) - 1) ∧ v = .int .i64 y ∧ y = evalP x (xs.drop j) ∧ -(kb (xs.length - j)) ≤ y ∧ y ≤ kb (xs.length - j)) (fun _ i => (intOf i + 1).toNat)
      case atStart => exact ⟨xs.length, 0, Nat.le_refl _, by first | rfl | go_num, rfl, by rw [List.drop_length]; rfl, by simp [kb], by simp [kb]⟩
      case round =>
        obtain ⟨j, y, hj, rfl, rfl, hy, y0, y1⟩ := hrel
        have HY := Lib.hid hy
        clear hy
        rcases Nat.eq_zero_or_pos j with h0 | h0
        · have HJ := Lib.hid h0
          have hneg : (j : Int) - 1 < 0 := by omega
          go_wp2
          go_ret
          refine ⟨ret_int ?_, rfl⟩
          rw [E1.out, HY.out, HJ.out]
          rfl
        · obtain ⟨m, rfl⟩ : ∃ m, j = m + 1 := ⟨j - 1, by omega⟩
          have ej : (((m + 1 : Nat) : Int) - 1) = m := by omega
          rw [ej]
          have hm : m < xs.length := by omega
          obtain ⟨b, off, rfl, hbl, hc⟩ := h (by omega)
          have hc1 := hc m hm
          clear hc
          obtain ⟨a0, a1⟩ := HA.out m hm
          obtain ⟨a, ha⟩ : ∃ a, xs.getD m 0 = a := ⟨_, rfl⟩
          rw [ha] at hc1 a0 a1
          have HV := Lib.hid ha
          clear ha ej
          obtain ⟨k0, k1⟩ := kb_le (xs.length - (m + 1)) (by omega)
          obtain ⟨p0, p1⟩ := mul_bd y x (kb (xs.length - (m + 1))) 100 (by omega) (by omega) y0 y1 x0 x1
          have r0 : -1010101010101000 ≤ y * x := by omega
          have r1 : y * x ≤ 1010101010101000 := by omega
          have hs : kb (xs.length - m) = kb (xs.length - (m + 1)) * 100 + 1000 := by
            have e : xs.length - m = (xs.length - (m + 1)) + 1 := by omega
            rw [e, kb]
          have HS := Lib.hid hs
          clear hs
          have hev : evalP x (xs.drop m) = evalP x (xs.drop (m + 1)) * x + xs.getD m 0 := by
            rw [List.drop_eq_getElem_cons hm, evalP]
            simp [List.getD, hm]
          have HE := Lib.hid hev
          clear hev
          go_wp2
          go_round
          case rel => exact ⟨m, y * x + a, by omega, by go_num, rfl, by rw [HE.out, HY.out, HV.out], by rw [HS.out]; omega, by rw [HS.out]; omega⟩
          case measure => simp [intOf] <;> omega
    · have E1 : Hid (polyAt xs x = 0) := by simp [Hid, polyAt, hx]
      go_enter Try.func17, Try.ntmps17
      go_wp2_with (first
        | (go_at_call 14; refine (implPolyValid_any _ _ _ xs _ rfl h hlen).mono ?_; rintro e w' ⟨rfl, rfl⟩)
        | (go_at_call 33; refine (within_any _ _ (by omega) (by omega) _).mono ?_; rintro e w' ⟨rfl, rfl⟩))
      go_ret
      exact ⟨ret_int E1.out.symm, rfl⟩
theorem walk_FnExactPolyAt (A : Option Addr) (n c : Nat) (xs : List Int) (x : Int) (w : World) (h : Ints w w.heap.size A xs) (hn : xs.length = n) (_ : n ≤ c) (_ : c ≤ maxLen) (_ : (Lit.int .i64 x).wf = true) :
    Calls Try.prog 4 #[.slice A n c, .int .i64 x] w fun e w' => e = .returned (.bool true) ∧ Below w.heap.size w w' := by
  subst hn
  by_cases hbig : 1048576 < xs.length
  · go_enter Try.func4, Try.ntmps4
    go_wp2
    go_ret
    exact ⟨rfl, (by repeat (first | exact bw_refl _ | assumption | apply bw_alloc | apply bw_drew | apply bw_drewN | (refine bw_trans ?_ (by assumption)) | (refine bw_set ?_ (by simp only [go_sem]; omega) _)))⟩
  · have hsame := eqIs_same xs
    go_enter Try.func4, Try.ntmps4
    go_wp2_with fail
    refine (toIntS_any A _ _ xs _ rfl h (by omega)).mono ?_
    rintro e w1 ⟨rfl, r1, b1⟩
    go_wp2_with fail
    refine (specPolyAt_any _ _ _ xs _ _ rfl r1.is (by omega)).mono ?_
    rintro e w2 ⟨rfl, rfl⟩
    go_wp2_with fail
    refine (toIntS_any A _ _ xs _ rfl (h.up (by repeat (first | exact bw_refl _ | assumption | apply bw_alloc | apply bw_drew | apply bw_drewN | (refine bw_trans ?_ (by assumption)) | (refine bw_set ?_ (by simp only [go_sem]; omega) _)))) (by omega)).mono ?_
    rintro e w3 ⟨rfl, r3, b3⟩
    go_wp2_with fail
    refine (implPolyAt_any _ _ _ xs _ _ rfl r3.is (by omega)).mono ?_
    rintro e w4 ⟨rfl, rfl⟩
    go_wp2_with fail
    refine (toIntS_any A _ _ xs _ rfl (h.up (by repeat (first | exact bw_refl _ | assumption | apply bw_alloc | apply bw_drew | apply bw_drewN | (refine bw_trans ?_ (by assumption)) | (refine bw_set ?_ (by simp only [go_sem]; omega) _)))) (by omega)).mono ?_
    rintro e w5 ⟨rfl, r5, b5⟩
    go_wp2_with fail
    refine (eqIntS_any _ _ _ _ _ _ xs xs _ rfl rfl (r3.up b5).is r5.is (by omega) (by omega)).mono ?_
    rintro e w6 ⟨rfl, b6⟩
    go_wp2
    go_ret
    exact ⟨rfl, (by repeat (first | exact bw_refl _ | assumption | apply bw_alloc | apply bw_drew | apply bw_drewN | (refine bw_trans ?_ (by assumption)) | (refine bw_set ?_ (by simp only [go_sem]; omega) _)))⟩
end Go.Proofs.Ytdnklndemoinaaa
