/- TurnKnots, both sides; condition: lengths of at most 2^32. -/
import Derived.Test.YtiimaodphhaohaaKn11
namespace Go.Proofs.Ytiimaodphhaohaa
open Go.RowKit
set_option linter.unusedVariables false
set_option linter.unusedSimpArgs false
set_option maxHeartbeats 1000000

theorem specTurnKnots_any (A : Option Addr) (n c : Nat) (xs : List Int) (w : World) (hn : xs.length = n * 2) (h : Ints w w.heap.size A xs) (hlen : n ≤ 4294967296) :
    Calls Try.prog 20 #[.slice A n c] w (IsNewK w (turnN xs n) (turnL xs n) (turnB xs n)) := by
  have HN := Lib.hid hn
  clear hn
  have hA := AppK.empty w w.heap.size (Nat.le_refl _)
  have i2 := h.up (bw_alloc (bw_refl w) (.cells #[] 41))
  cases hv : riseB xs n
  · have E1 : Hid (turnN xs n = 0 ∧ turnL xs n = [] ∧ turnB xs n = false) := by unfold Hid turnN turnL turnB; rw [hv]; exact ⟨rfl, rfl, rfl⟩
    go_enter Try.func20, Try.ntmps20
    go_wp2_with (go_at_call 18; refine (specKnotsRise_any A n c xs _ HN.out i2 hlen).mono ?_; rintro e w1 ⟨he, b1⟩; rw [hv] at he; subst he)
    go_ret2
    rw [E1.out.1, E1.out.2.1, E1.out.2.2]
    exact IsNewK.none_ (by repeat (first | exact bw_refl _ | assumption | apply bw_alloc | apply bw_drew | apply bw_drewN | (refine bw_trans ?_ (by assumption)) | (refine bw_set ?_ (by simp only [go_sem]; omega) _)))
  · have E1 : Hid (turnN xs n = n ∧ turnL xs n = swapL xs n ∧ turnB xs n = true) := by unfold Hid turnN turnL turnB; rw [hv]; exact ⟨rfl, rfl, rfl⟩
    go_enter Try.func20, Try.ntmps20
    go_wp2_with fail
    refine (specKnotsRise_any A n c xs _ HN.out i2 hlen).mono ?_
    rintro e w1 ⟨he, b1⟩
    rw [hv] at he
    subst he
    have hA1 := hA.keep b1
    have c1 : Below w.heap.size w w1 := (by repeat (first | exact bw_refl _ | assumption | apply bw_alloc | apply bw_drew | apply bw_drewN | (refine bw_trans ?_ (by assumption)) | (refine bw_set ?_ (by simp only [go_sem]; omega) _)))
    clear i2 hA b1
    go_wp2
    go_loopw [4, 5] (fun v i wr => ∃ (k : Nat) (x : Value), x = v ∧ k ≤ n ∧ i = .int .i64 k ∧ AppK wr w.heap.size x k (swapL xs k) ∧ Below w.heap.size w wr) (fun _ i _ => n - (intOf i).toNat)
    case atStart => exact ⟨0, _, rfl, Nat.zero_le _, rfl, hA1, c1⟩
    case round =>
      obtain ⟨k, x, rfl, hk, rfl, hP, hb⟩ := hrel
      have hB : w.heap.size ≤ wr.heap.size := hb.size
      by_cases hlt : k < n
      · obtain ⟨b1, f1, rfl, hb1, hc1⟩ := h (by rw [HN.out]; omega)
        have k1 := (hb.cell (p := ⟨b1, f1 + k * 2, none⟩) hb1).trans (hc1 (k * 2) (by rw [HN.out]; omega))
        have k2 : wr.cell? ⟨b1, f1 + k * 2 + 1, none⟩ = _ := (hb.cell (p := ⟨b1, f1 + k * 2 + 1, none⟩) hb1).trans (hc1 (k * 2 + 1) (by rw [HN.out]; omega))
        have HS := Lib.hid (swapL_succ xs k)
        clear hc1
        have z1 := lt_keep hb hb1
        obtain ⟨x, hx⟩ : ∃ x, xs.getD (k * 2) 0 = x := ⟨_, rfl⟩
        obtain ⟨y, hy⟩ : ∃ x, xs.getD (k * 2 + 1) 0 = x := ⟨_, rfl⟩
        rw [hx] at k1; rw [hy] at k2
        have HX := Lib.hid hx
        have HY := Lib.hid hy
        clear hx hy
        have i0 : (0 : Int) ≤ (k : Int) := by omega
        have i1 : (k : Int) < (n : Int) := by omega
        go_wp2
        go_region_law (refine step_append_knot rfl (.tmp 17) (.tmp 29) rfl w.heap.size _ _ _ _ _ w wr.drew (by simp [Act.eval]) (by simp [Act.eval]) hP (by omega) (by repeat (first | exact bw_refl _ | assumption | apply bw_alloc | apply bw_drew | apply bw_drewN | (refine bw_trans ?_ (by assumption)) | (refine bw_set ?_ (by simp only [go_sem]; omega) _))) hB ?_; intro v' w' hP2 hb2)
        all_goals
          go_wp2
          go_roundw
          case rel => exact ⟨k + 1, _, rfl, by omega, by go_num, by rw [HS.out, HX.out, HY.out]; exact hP2, hb2⟩
          case measure => simp [intOf] <;> omega
      · have hkk : k = n := by omega
        subst hkk
        go_wp2
        go_ret2
        rw [E1.out.1, E1.out.2.1, E1.out.2.2]
        exact IsNewK.app hP hb
end Go.Proofs.Ytiimaodphhaohaa
