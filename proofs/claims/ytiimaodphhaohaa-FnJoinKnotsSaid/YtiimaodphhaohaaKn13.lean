/- The program's TurnKnots; condition: lengths of at most 2^32. -/
import Derived.Test.YtiimaodphhaohaaKn12
namespace Go.Proofs.Ytiimaodphhaohaa
open Go.RowKit
set_option linter.unusedVariables false
set_option linter.unusedSimpArgs false
set_option maxHeartbeats 1000000

theorem turnN_le (xs : List Int) (n : Nat) (h : n ≤ 4294967296) : turnN xs n ≤ 4294967296 := by unfold turnN; split <;> omega
theorem implTurnKnots_any (A : Option Addr) (n c : Nat) (xs : List Int) (w : World) (hn : xs.length = n * 2) (h : Ints w w.heap.size A xs) (hlen : n ≤ 4294967296) :
    Calls Try.prog 21 #[.slice A n c] w (IsNewK w (turnN xs n) (turnL xs n) (turnB xs n)) := by
  have HN := Lib.hid hn
  clear hn
  cases hv : riseB xs n
  · have E1 : Hid (turnN xs n = 0 ∧ turnL xs n = [] ∧ turnB xs n = false) := by unfold Hid turnN turnL turnB; rw [hv]; exact ⟨rfl, rfl, rfl⟩
    go_enter Try.func21, Try.ntmps21
    go_wp2_with (go_at_call 19; refine (implKnotsRise_any A n c xs _ HN.out h hlen).mono ?_; rintro e w1 ⟨he, b1⟩; rw [hv] at he; subst he)
    go_ret2
    rw [E1.out.1, E1.out.2.1, E1.out.2.2]
    exact IsNewK.none_ (by repeat (first | exact bw_refl _ | assumption | apply bw_alloc | apply bw_drew | apply bw_drewN | (refine bw_trans ?_ (by assumption)) | (refine bw_set ?_ (by simp only [go_sem]; omega) _)))
  · have E1 : Hid (turnN xs n = n ∧ turnL xs n = swapL xs n ∧ turnB xs n = true) := by unfold Hid turnN turnL turnB; rw [hv]; exact ⟨rfl, rfl, rfl⟩
    go_enter Try.func21, Try.ntmps21
    go_wp2_with fail
    refine (implKnotsRise_any A n c xs _ HN.out h hlen).mono ?_
    rintro e w1 ⟨he, b1⟩
    rw [hv] at he
    subst he
    have hmk := run_make_knots n hlen w1
    have hsz := b1.size
    go_wp2
    clear hmk
    go_loopw [15] (fun i wr => ∃ (k : Nat) (ys : List Int), k ≤ n ∧ i = .int .i64 k ∧ ys.length = n * 2 ∧ (∀ j, j < k * 2 → ys.getD j 0 = swapF xs j) ∧ RowK wr w1.heap.size ys ∧ Below w.heap.size w wr)
      (fun i _ => n - (intOf i).toNat)
    case atStart => exact ⟨0, List.replicate (n * 2) 0, Nat.zero_le _, rfl, by simp, fun j hj => by omega, RowK.made w1 _, (by repeat (first | exact bw_refl _ | assumption | apply bw_alloc | apply bw_drew | apply bw_drewN | (refine bw_trans ?_ (by assumption)) | (refine bw_set ?_ (by simp only [go_sem]; omega) _)))⟩
    case round =>
      obtain ⟨k, ys, hk, rfl, hy, he, hR, hb⟩ := hrel
      have HE := Lib.hid he
      have HY := Lib.hid hy
      clear he hy
      by_cases hlt : k < n
      · obtain ⟨b1', f1, rfl, hbl, hc⟩ := h (by rw [HN.out]; omega)
        have hc1 : wr.cell? ⟨b1', f1 + k * 2, none⟩ = some (.int .i64 (xs.getD (k * 2) 0)) := (hb.cell (p := ⟨b1', f1 + k * 2, none⟩) hbl).trans (hc (k * 2) (by rw [HN.out]; omega))
        have hc2 : wr.cell? ⟨b1', f1 + k * 2 + 1, none⟩ = some (.int .i64 (xs.getD (k * 2 + 1) 0)) := (hb.cell (p := ⟨b1', f1 + k * 2 + 1, none⟩) hbl).trans (hc (k * 2 + 1) (by rw [HN.out]; omega))
        have hd1 := hR.cell (j := k * 2) (by rw [HY.out]; omega)
        have hd2 := hR.cell (j := k * 2 + 1) (by rw [HY.out]; omega)
        have hf1 := hR.frozen (k * 2)
        have hf2 := hR.frozen (k * 2 + 1)
        have z0 := hR.lt
        have z1 := lt_keep hb hbl
        clear hc
        obtain ⟨x, hx⟩ : ∃ x, xs.getD (k * 2) 0 = x := ⟨_, rfl⟩
        obtain ⟨y, hy⟩ : ∃ x, xs.getD (k * 2 + 1) 0 = x := ⟨_, rfl⟩
        rw [hx] at hc1
        rw [hy] at hc2
        have HX := Lib.hid hx
        have HY2 := Lib.hid hy
        clear hx hy
        go_wp2
        go_roundw
        case rel =>
          have R4 := RowK.alloc ((hR.set_ (k * 2) y).set_ (k * 2 + 1) x) (.cells #[.int .i64 x, .int .i64 y] 41)
          have b4 := bw_set (p := ⟨w1.heap.size, k * 2, none⟩) hb hsz (.int .i64 y)
          have b5 := bw_alloc (bw_set (p := ⟨w1.heap.size, k * 2 + 1, none⟩) b4 hsz (.int .i64 x)) (.cells #[.int .i64 x, .int .i64 y] 41)
          clear b4
          refine ⟨k + 1, (ys.set (k * 2) y).set (k * 2 + 1) x, by omega, by go_num, by simp [HY.out], fun j hj => ?_, R4, b5⟩
          have hl1 : k * 2 + 1 < ys.length := by rw [HY.out]; omega
          by_cases hj1 : j = k * 2 + 1
          · subst hj1; rw [swapF_odd, HX.out]; exact getD_set_eq _ _ _ (by simpa using hl1)
          · rw [getD_set_ne _ _ _ _ hj1]
            by_cases hj0 : j = k * 2
            · subst hj0; rw [swapF_even, HY2.out]; exact getD_set_eq _ _ _ (by omega)
            · rw [getD_set_ne _ _ _ _ hj0]; exact HE.out j (by omega)
        case measure => simp [intOf]; omega
      · have hkk : k = n := by omega
        go_wp2
        go_ret2
        rw [E1.out.1, E1.out.2.1, E1.out.2.2]
        refine IsNewK.row (swapL_length _ _) (Nat.le_refl _) hsz (hR.congr (by rw [swapL_length, HY.out]) fun j hj => ?_) hb
        rw [HY.out] at hj
        rw [swapL_getD _ _ _ hj, HE.out j (by omega)]
end Go.Proofs.Ytiimaodphhaohaa
