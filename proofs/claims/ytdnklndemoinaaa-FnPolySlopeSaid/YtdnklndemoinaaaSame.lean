/- Contracts of the helpers of the laws of series: sameInts, inside; no condition. -/
import Derived.Test.YtdnklndemoinaaaLDraw
namespace Go.Proofs.Ytdnklndemoinaaa
open Go.RowKit
set_option linter.unusedVariables false
set_option maxHeartbeats 1000000

theorem sameInts_any (A C : Option Addr) (n m c d : Nat) (xs ys : List Int) (w : World) (hn : xs.length = n) (hm : ys.length = m) (h : Ints w w.heap.size A xs) (h' : Ints w w.heap.size C ys) (hlen : n ≤ 4294967296) (hlen' : m ≤ 4294967296) :
    Calls Try.prog 29 #[.slice A n c, .slice C m d] w fun e w' => e = .returned (.bool (eqIs xs ys)) ∧ Below w.heap.size w w' := by
  subst hn hm
  by_cases hl : xs.length = ys.length
  · have hl1 : ((xs.length : Int) != (ys.length : Int)) = false := by simp [hl]
    have HL := Lib.hid hl
    clear hl
    go_enter Try.func29, Try.ntmps29
    go_wp2
    go_loopw [5] (fun i wr => ∃ k : Nat, k ≤ xs.length ∧ i = .int .i64 k ∧ (∀ j, j < k → xs.getD j 0 = ys.getD j 0) ∧ Below w.heap.size w wr)
      (fun i _ => xs.length - (intOf i).toNat)
    case atStart => exact ⟨0, Nat.zero_le _, rfl, fun j hj => by omega, (by repeat (first | exact bw_refl _ | assumption | apply bw_alloc | apply bw_drew | apply bw_drewN | (refine bw_trans ?_ (by assumption)) | (refine bw_set ?_ (by simp only [go_sem]; omega) _)))⟩
    case round =>
      obtain ⟨k, hk, rfl, he, hb⟩ := hrel
      have HE := Lib.hid he
      clear he
      by_cases hlt : k < xs.length
      · have hlt' : k < ys.length := by have := HL.out; omega
        obtain ⟨b, off, rfl, hbl, hc⟩ := h (by omega)
        obtain ⟨b', off', rfl, hbl', hc'⟩ := h' (by omega)
        have hc1 : wr.cell? ⟨b, off + k, none⟩ = some (.int .i64 (xs.getD k 0)) := (hb.cell (p := ⟨b, off + k, none⟩) hbl).trans (hc k hlt)
        have hc2 : wr.cell? ⟨b', off' + k, none⟩ = some (.int .i64 (ys.getD k 0)) := (hb.cell (p := ⟨b', off' + k, none⟩) hbl').trans (hc' k hlt')
        clear hc hc'
        by_cases hq : xs.getD k 0 = ys.getD k 0
        · have hq1 : (xs.getD k 0 != ys.getD k 0) = false := bne_eq_false_iff_eq.2 hq
          have HQ := Lib.hid hq
          clear hq
          obtain ⟨x, hx⟩ : ∃ x, xs.getD k 0 = x := ⟨_, rfl⟩
          obtain ⟨y, hy⟩ : ∃ y, ys.getD k 0 = y := ⟨_, rfl⟩
          rw [hx] at hc1
          rw [hy] at hc2
          rw [hx, hy] at hq1
          have HX := Lib.hid hx
          have HY := Lib.hid hy
          clear hx hy
          go_wp2
          go_quiet (fail)
          go_wp2
          go_roundw
          case rel =>
            refine ⟨k + 1, by omega, by go_num, fun j hj => ?_, (by repeat (first | exact bw_refl _ | assumption | apply bw_alloc | apply bw_drew | apply bw_drewN | (refine bw_trans ?_ (by assumption)) | (refine bw_set ?_ (by simp only [go_sem]; omega) _)))⟩
            by_cases hjk : j = k
            · subst hjk; exact HQ.out
            · exact HE.out j (by omega)
          case measure => simp [intOf]; omega
        · have hq1 : (xs.getD k 0 != ys.getD k 0) = true := bne_iff_ne.2 hq
          have HF := Lib.hid (eqIs_at k hq)
          clear hq
          obtain ⟨x, hx⟩ : ∃ x, xs.getD k 0 = x := ⟨_, rfl⟩
          obtain ⟨y, hy⟩ : ∃ y, ys.getD k 0 = y := ⟨_, rfl⟩
          rw [hx] at hc1
          rw [hy] at hc2
          rw [hx, hy] at hq1
          have HX := Lib.hid hx
          have HY := Lib.hid hy
          clear hx hy
          go_wp2
          go_quiet (fail)
          go_wp2
          go_ret
          exact ⟨ret_bool HF.out.symm, (by repeat (first | exact bw_refl _ | assumption | apply bw_alloc | apply bw_drew | apply bw_drewN | (refine bw_trans ?_ (by assumption)) | (refine bw_set ?_ (by simp only [go_sem]; omega) _)))⟩
      · have hkk : k = xs.length := by omega
        go_wp2
        go_ret
        exact ⟨ret_bool (eqIs_all HL.out (fun j hj => HE.out j (by omega))).symm, hb⟩
  · have hl1 : ((xs.length : Int) != (ys.length : Int)) = true := by simp; omega
    have HF := Lib.hid (eqIs_len hl)
    clear hl
    go_enter Try.func29, Try.ntmps29
    go_wp2
    go_ret
    exact ⟨ret_bool HF.out.symm, (by repeat (first | exact bw_refl _ | assumption | apply bw_alloc | apply bw_drew | apply bw_drewN | (refine bw_trans ?_ (by assumption)) | (refine bw_set ?_ (by simp only [go_sem]; omega) _)))⟩
end Go.Proofs.Ytdnklndemoinaaa
