/- Contracts of arcs of angles, of divided powers, and of the reference's spans of sines and cosines; condition: an angle of an eighth. -/
import Derived.Test.YtdojgkjgjfclaaaKeep
namespace Go.Proofs.Ytdojgkjgjfclaaa
open Go.RowKit
set_option linter.unusedVariables false
set_option linter.unusedSimpArgs false
set_option maxHeartbeats 2000000

theorem mul_bd28 {p q L H : Int} (p0 : 0 ≤ p) (pq : p ≤ q) (q1 : q ≤ 268435456) (L0 : 0 ≤ L) (LH : L ≤ H) (H1 : H ≤ 268435456) :
    mulL p q L H = p * L / 268435456 ∧ mulH p q L H = cdiv (q * H) 268435456 ∧ 0 ≤ p * L / 268435456 ∧ p * L / 268435456 ≤ cdiv (q * H) 268435456 ∧ cdiv (q * H) 268435456 ≤ 268435456 := by
  have a1 : p * L ≤ p * H := Int.mul_le_mul_of_nonneg_left LH p0
  have a2 : p * L ≤ q * L := Int.mul_le_mul_of_nonneg_right pq L0
  have a3 : p * H ≤ q * H := Int.mul_le_mul_of_nonneg_right pq (by omega)
  have a4 : q * L ≤ q * H := Int.mul_le_mul_of_nonneg_left LH (by omega)
  have a5 : 0 ≤ p * L := Int.mul_nonneg p0 L0
  have a6 : q * H ≤ 268435456 * 268435456 := Int.mul_le_mul q1 H1 (by omega) (by omega)
  have e1 : mn4 (p * L) (p * H) (q * L) (q * H) = p * L := by unfold mn4; omega
  have e2 : mx4 (p * L) (p * H) (q * L) (q * H) = q * H := by unfold mx4; omega
  unfold mulL mulH
  rw [e1, e2]
  unfold cdiv
  exact ⟨rfl, rfl, by omega, by omega, by omega⟩
theorem pow_bd28 {L H : Int} (L0 : 0 ≤ L) (LH : L ≤ H) (H1 : H ≤ 268435456) : ∀ k, 0 ≤ (powP L H k).1 ∧ (powP L H k).1 ≤ (powP L H k).2 ∧ (powP L H k).2 ≤ 268435456
  | 0 => by unfold powP; decide
  | k + 1 => by
    obtain ⟨h1, h2, h3⟩ := pow_bd28 L0 LH H1 k
    obtain ⟨e1, e2, b1, b2, b3⟩ := mul_bd28 h1 h2 h3 L0 LH H1
    unfold powP
    simp only
    rw [e1, e2]
    exact ⟨b1, b2, b3⟩
theorem pow_ok28 {L H : Int} (L0 : 0 ≤ L) (LH : L ≤ H) (H1 : H ≤ 268435456) (n : Nat) : powOk L H n = true := by
  unfold powOk
  rw [List.all_eq_true]
  intro k _
  obtain ⟨h1, h2, h3⟩ := pow_bd28 L0 LH H1 k
  rw [spOk_iff]
  omega
theorem arc_bd {a : Int} (h0 : 0 ≤ a) (h1 : a ≤ 8192) : 0 ≤ arcLow a ∧ arcLow a ≤ arcHigh a ∧ arcHigh a ≤ 268435456 := by
  unfold arcLow arcHigh cdiv; omega
theorem part_bd {L H : Int} (L0 : 0 ≤ L) (LH : L ≤ H) (H1 : H ≤ 268435456) (k : Nat) (d : Int) (hd : 1 ≤ d) : (0 ≤ partL L H k d ∧ partL L H k d ≤ 268435456) ∧ (0 ≤ partH L H k d ∧ partH L H k d ≤ 268435456) := by
  obtain ⟨h1, h2, h3⟩ := pow_bd28 L0 LH H1 k
  unfold partL partH cdiv
  have a1 : 0 ≤ (powP L H k).1 / d := Int.ediv_nonneg h1 (by omega)
  have a2 : (powP L H k).1 / d ≤ (powP L H k).1 := Int.ediv_le_self _ h1
  have a3 : -(powP L H k).2 / d ≤ 0 := by
    have := Int.ediv_le_ediv (show 0 < d by omega) (show -(powP L H k).2 ≤ 0 by omega)
    rw [Int.zero_ediv] at this
    exact this
  have a4 : -(powP L H k).2 ≤ -(powP L H k).2 / d := by
    rw [Int.le_ediv_iff_mul_le (by omega)]
    have : (powP L H k).2 * 1 ≤ (powP L H k).2 * d := Int.mul_le_mul_of_nonneg_left hd (by omega)
    rw [Int.neg_mul]; omega
  omega

def specRadPost (a : Int) (w : World) (x : Ending) (w' : World) : Prop := x = .returned (.agg #[.int .i64 (arcLow a), .int .i64 (arcHigh a)]) ∧ Below w.heap.size w w'
theorem specRad_ok (a : Int) (h0 : 0 ≤ a) (h1 : a ≤ 8192) (w : World) : Calls Try.prog 32 #[.int .i64 a] w (specRadPost a w) := by
  have l0 := Blk.new w 29 #[.int .i64 0, .int .i64 0]
  have x1 : IntKind.i64.wrap (843314816 * a) = 843314816 * a := IntWalk.i64_in _ (by omega)
  have x2 : IntKind.i64.wrap (843314944 * a) = 843314944 * a := IntWalk.i64_in _ (by omega)
  have y1 : 0 ≤ 843314816 * a ∧ 843314816 * a ≤ 1152921504606846976 := by omega
  have y2 : 0 ≤ 843314944 * a ∧ 843314944 * a ≤ 1152921504606846976 := by omega
  unfold specRadPost arcLow arcHigh
  obtain ⟨u, hu⟩ : ∃ u, 843314816 * a = u := ⟨_, rfl⟩
  obtain ⟨v, hv⟩ : ∃ v, 843314944 * a = v := ⟨_, rfl⟩
  rw [hu] at x1 y1 ⊢
  rw [hv] at x2 y2 ⊢
  have Y1 := Lib.hid y1
  have Y2 := Lib.hid y2
  clear y1 y2 h0 h1
  go_enter Try.func32, Try.ntmps32
  go_wp2_with fail
  refine (specPiSpan_any _).mono ?_
  rintro e w1 ⟨rfl, hb⟩
  replace l0 := l0.up hb
  have b1 : Below w.heap.size w w1 := (by repeat (first | exact bw_refl _ | assumption | apply bw_alloc | apply bw_drew | apply bw_drewN | (refine bw_trans ?_ (by assumption)) | (refine bw_set ?_ (by simp only [go_sem]; omega) _)))
  clear hb
  have z0 := l0.lt
  have l1 := Blk.new w1 29 #[.int .i64 843314816, .int .i64 843314944]
  replace l0 := l0.alloc (.cells #[.int .i64 843314816, .int .i64 843314944] 29)
  have b2 : Below w.heap.size w (w1.alloc (.cells #[.int .i64 843314816, .int .i64 843314944] 29)) := (by repeat (first | exact bw_refl _ | assumption | apply bw_alloc | apply bw_drew | apply bw_drewN | (refine bw_trans ?_ (by assumption)) | (refine bw_set ?_ (by simp only [go_sem]; omega) _)))
  have z1 := l1.lt
  have z2 := l0.lt
  go_wp2_with fail
  clear b1
  generalize w1.alloc (.cells #[.int .i64 843314816, .int .i64 843314944] 29) = W at *
  obtain ⟨g4, g5, -, -⟩ := l1.rd2
  have ne1 : w.heap.size ≠ w1.heap.size := by omega
  have ne2 : w1.heap.size ≠ w.heap.size := by omega
  refine wp_region_keep _ _ l0 (by kernel_rfl) (fun wD hHeld => ?_)
  refine wpAnyH_take (i := 0) (v := ?_) (by (simp only [List.getElem?_toArray, List.getElem?_cons_zero]; rfl)) (by kernel_rfl) (by kernel_rfl) (by kernel_rfl) (by exact fun _ _ _ h => h) (Or.inl ⟨by rfl, ?_⟩) (by assumption) ?_
  rotate_left
  · (intro wS hS; clear hS; go_simp; try with_reducible rfl)
  try simp only [Act.put, List.setIfInBounds_toArray, List.set_cons_zero, List.set_cons_succ]
  refine wpAnyH_take (i := 1) (v := ?_) (by (simp only [List.getElem?_toArray, List.getElem?_cons_succ, List.getElem?_cons_zero]; rfl)) (by kernel_rfl) (by kernel_rfl) (by kernel_rfl) (by exact fun _ _ _ h => h) (Or.inl ⟨by rfl, ?_⟩) (by assumption) ?_
  rotate_left
  · (intro wS hS; have hSc := hS.cells; clear hS; go_simp; try with_reducible rfl)
  try simp only [Act.put, List.setIfInBounds_toArray, List.set_cons_zero, List.set_cons_succ]
  refine wpAnyH_take (i := 2) (v := ?_) (by (simp only [List.getElem?_toArray, List.getElem?_cons_succ, List.getElem?_cons_zero]; rfl)) (by kernel_rfl) (by kernel_rfl) (by kernel_rfl) (by exact fun _ _ _ h => h) (Or.inl ⟨by rfl, ?_⟩) (by assumption) ?_
  rotate_left
  · (intro wS hS; clear hS; go_simp; try with_reducible rfl)
  try simp only [Act.put, List.setIfInBounds_toArray, List.set_cons_zero, List.set_cons_succ]
  refine wpAnyH_take (i := 3) (v := ?_) (by (simp only [List.getElem?_toArray, List.getElem?_cons_succ, List.getElem?_cons_zero]; rfl)) (by kernel_rfl) (by kernel_rfl) (by kernel_rfl) (by exact fun _ _ _ h => h) (Or.inl ⟨by rfl, ?_⟩) (by assumption) ?_
  rotate_left
  · (intro wS hS; clear hS; go_simp; try with_reducible rfl)
  try simp only [Act.put, List.setIfInBounds_toArray, List.set_cons_zero, List.set_cons_succ]
  refine wpAnyH_take (i := 5) (v := ?_) (by (simp only [List.getElem?_toArray, List.getElem?_cons_succ, List.getElem?_cons_zero]; rfl)) (by kernel_rfl) (by kernel_rfl) (by kernel_rfl) (by exact fun _ _ _ h => h) (Or.inl ⟨by rfl, ?_⟩) (by assumption) ?_
  rotate_left
  · (intro wS hS; clear hS; go_simp; try with_reducible rfl)
  try simp only [Act.put, List.setIfInBounds_toArray, List.set_cons_zero, List.set_cons_succ]
  refine wpAnyH_take (i := 6) (v := ?_) (by (simp only [List.getElem?_toArray, List.getElem?_cons_succ, List.getElem?_cons_zero]; rfl)) (by kernel_rfl) (by kernel_rfl) (by kernel_rfl) (by exact fun _ _ _ h => h) (Or.inl ⟨by rfl, ?_⟩) (by assumption) ?_
  rotate_left
  · (intro wS hS; have hSc := hS.cells; clear hS; go_simp; try with_reducible rfl)
  try simp only [Act.put, List.setIfInBounds_toArray, List.set_cons_zero, List.set_cons_succ]
  refine wpAnyH_take (i := 7) (v := ?_) (by (simp only [List.getElem?_toArray, List.getElem?_cons_succ, List.getElem?_cons_zero]; rfl)) (by kernel_rfl) (by kernel_rfl) (by kernel_rfl) (by exact fun _ _ _ h => h) (Or.inl ⟨by rfl, ?_⟩) (by assumption) ?_
  rotate_left
  · (intro wS hS; clear hS; go_simp; try with_reducible rfl)
  try simp only [Act.put, List.setIfInBounds_toArray, List.set_cons_zero, List.set_cons_succ]
  refine wpAnyH_take (i := 8) (v := ?_) (by (simp only [List.getElem?_toArray, List.getElem?_cons_succ, List.getElem?_cons_zero]; rfl)) (by kernel_rfl) (by kernel_rfl) (by kernel_rfl) (by exact fun _ _ _ h => h) (Or.inl ⟨by rfl, ?_⟩) (by assumption) ?_
  rotate_left
  · (intro wS hS; clear hS; go_simp; try with_reducible rfl)
  try simp only [Act.put, List.setIfInBounds_toArray, List.set_cons_zero, List.set_cons_succ]
  refine wpAnyH_ready (rs := [4]) (by kernel_rfl) (by simp) ?_
  refine AllReadyH.cons (by (simp only [List.getElem?_toArray, List.getElem?_cons_succ, List.getElem?_cons_zero]; rfl)) (fun K hK => ?_) AllReadyH.nil
  go_simp
  (first | (go_at_call 41; (with_reducible refine (l1Floor_any u 32768 (by decide) (by decide) (by have := Y1.out; omega) (by have := Y1.out; omega) _).mono ?_); rintro e w2 ⟨rfl, rfl⟩) | (go_at_call 26; (with_reducible refine (l7Ceil_ok v 32768 (by decide) (by decide) (by have := Y2.out; omega) (by have := Y2.out; omega) _).mono ?_); rintro e w2 ⟨rfl, rfl⟩))
  (try go_wp2_with fail)
  refine hK.out _ _ (by first | exact hHeld | exact hHeld.up hb) (fun hHeld => ?_)
  clear hK K
  try simp only [Act.put, List.setIfInBounds_toArray, List.set_cons_zero, List.set_cons_succ]
  refine wpAnyH_ready (rs := [9]) (by kernel_rfl) (by simp) ?_
  refine AllReadyH.cons (by (simp only [List.getElem?_toArray, List.getElem?_cons_succ, List.getElem?_cons_zero]; rfl)) (fun K hK => ?_) AllReadyH.nil
  go_simp
  (first | (go_at_call 41; (with_reducible refine (l1Floor_any u 32768 (by decide) (by decide) (by have := Y1.out; omega) (by have := Y1.out; omega) _).mono ?_); rintro e w2 ⟨rfl, rfl⟩) | (go_at_call 26; (with_reducible refine (l7Ceil_ok v 32768 (by decide) (by decide) (by have := Y2.out; omega) (by have := Y2.out; omega) _).mono ?_); rintro e w2 ⟨rfl, rfl⟩))
  (try go_wp2_with fail)
  refine hK.out _ _ (by first | exact hHeld | exact hHeld.up hb) (fun hHeld => ?_)
  clear hK K
  try simp only [Act.put, List.setIfInBounds_toArray, List.set_cons_zero, List.set_cons_succ]
  refine wpAnyH_take (i := 10) (v := ?_) (by (simp only [List.getElem?_toArray, List.getElem?_cons_succ, List.getElem?_cons_zero]; rfl)) (by kernel_rfl) (by kernel_rfl) (by kernel_rfl) (by exact fun _ _ _ h => h) (Or.inl ⟨by rfl, ?_⟩) (by assumption) ?_
  rotate_left
  · (intro wS hS; clear hS; go_simp; try with_reducible rfl)
  try simp only [Act.put, List.setIfInBounds_toArray, List.set_cons_zero, List.set_cons_succ]
  refine wpAnyH_ready (rs := [11]) (by kernel_rfl) (by simp) ?_
  refine AllReadyH.cons (by (simp only [List.getElem?_toArray, List.getElem?_cons_succ, List.getElem?_cons_zero]; rfl)) (fun K hK => ?_) AllReadyH.nil
  obtain ⟨ra, rb, hRB⟩ := hHeld.res
  obtain ⟨rn0, rn1, rn2, rn3⟩ := hRB.rd2
  clear hRB
  go_simp
  refine hK.out _ _ (hHeld.two _ _) (fun hHeld => ?_)
  clear hK K
  try simp only [Act.put, List.setIfInBounds_toArray, List.set_cons_zero, List.set_cons_succ]
  refine wpAnyH_done (by kernel_rfl) ?_ _
  go_wp2
  refine bodyPost_ret (by simp only [results, Try.results32]; go_simp; all_goals (first | exact rfl | exact ⟨rfl, rfl⟩ | skip)) rfl ⟨rfl, hHeld.bw b2 (Nat.le_refl _)⟩
def implRadPost (a : Int) (w : World) (x : Ending) (w' : World) : Prop := x = .returned (.agg #[.int .i64 (arcLow a), .int .i64 (arcHigh a)]) ∧ Below w.heap.size w w'
theorem implRad_ok (a : Int) (h0 : 0 ≤ a) (h1 : a ≤ 8192) (w : World) : Calls Try.prog 34 #[.int .i64 a] w (implRadPost a w) := by
  have l0 := Blk.new w 29 #[.int .i64 0, .int .i64 0]
  have x1 : IntKind.i64.wrap (843314816 * a) = 843314816 * a := IntWalk.i64_in _ (by omega)
  have x2 : IntKind.i64.wrap (843314944 * a) = 843314944 * a := IntWalk.i64_in _ (by omega)
  have y1 : 0 ≤ 843314816 * a ∧ 843314816 * a ≤ 1152921504606846976 := by omega
  have y2 : 0 ≤ 843314944 * a ∧ 843314944 * a ≤ 1152921504606846976 := by omega
  unfold implRadPost arcLow arcHigh
  obtain ⟨u, hu⟩ : ∃ u, 843314816 * a = u := ⟨_, rfl⟩
  obtain ⟨v, hv⟩ : ∃ v, 843314944 * a = v := ⟨_, rfl⟩
  rw [hu] at x1 y1 ⊢
  rw [hv] at x2 y2 ⊢
  have Y1 := Lib.hid y1
  have Y2 := Lib.hid y2
  clear y1 y2 h0 h1
  go_enter Try.func34, Try.ntmps34
  go_wp2_with fail
  refine (implPiSpan_any _).mono ?_
  rintro e w1 ⟨rfl, hb⟩
  replace l0 := l0.up hb
  have b1 : Below w.heap.size w w1 := (by repeat (first | exact bw_refl _ | assumption | apply bw_alloc | apply bw_drew | apply bw_drewN | (refine bw_trans ?_ (by assumption)) | (refine bw_set ?_ (by simp only [go_sem]; omega) _)))
  clear hb
  have z0 := l0.lt
  have l1 := Blk.new w1 29 #[.int .i64 843314816, .int .i64 843314944]
  replace l0 := l0.alloc (.cells #[.int .i64 843314816, .int .i64 843314944] 29)
  have b2 : Below w.heap.size w (w1.alloc (.cells #[.int .i64 843314816, .int .i64 843314944] 29)) := (by repeat (first | exact bw_refl _ | assumption | apply bw_alloc | apply bw_drew | apply bw_drewN | (refine bw_trans ?_ (by assumption)) | (refine bw_set ?_ (by simp only [go_sem]; omega) _)))
  have z1 := l1.lt
  have z2 := l0.lt
  go_wp2_with fail
  clear b1
  generalize w1.alloc (.cells #[.int .i64 843314816, .int .i64 843314944] 29) = W at *
  obtain ⟨g4, g5, -, -⟩ := l1.rd2
  have ne1 : w.heap.size ≠ w1.heap.size := by omega
  have ne2 : w1.heap.size ≠ w.heap.size := by omega
  refine wp_region_keep _ _ l0 (by kernel_rfl) (fun wD hHeld => ?_)
  refine wpAnyH_take (i := 0) (v := ?_) (by (simp only [List.getElem?_toArray, List.getElem?_cons_zero]; rfl)) (by kernel_rfl) (by kernel_rfl) (by kernel_rfl) (by exact fun _ _ _ h => h) (Or.inl ⟨by rfl, ?_⟩) (by assumption) ?_
  rotate_left
  · (intro wS hS; clear hS; go_simp; try with_reducible rfl)
  try simp only [Act.put, List.setIfInBounds_toArray, List.set_cons_zero, List.set_cons_succ]
  refine wpAnyH_take (i := 1) (v := ?_) (by (simp only [List.getElem?_toArray, List.getElem?_cons_succ, List.getElem?_cons_zero]; rfl)) (by kernel_rfl) (by kernel_rfl) (by kernel_rfl) (by exact fun _ _ _ h => h) (Or.inl ⟨by rfl, ?_⟩) (by assumption) ?_
  rotate_left
  · (intro wS hS; have hSc := hS.cells; clear hS; go_simp; try with_reducible rfl)
  try simp only [Act.put, List.setIfInBounds_toArray, List.set_cons_zero, List.set_cons_succ]
  refine wpAnyH_take (i := 2) (v := ?_) (by (simp only [List.getElem?_toArray, List.getElem?_cons_succ, List.getElem?_cons_zero]; rfl)) (by kernel_rfl) (by kernel_rfl) (by kernel_rfl) (by exact fun _ _ _ h => h) (Or.inl ⟨by rfl, ?_⟩) (by assumption) ?_
  rotate_left
  · (intro wS hS; clear hS; go_simp; try with_reducible rfl)
  try simp only [Act.put, List.setIfInBounds_toArray, List.set_cons_zero, List.set_cons_succ]
  refine wpAnyH_take (i := 3) (v := ?_) (by (simp only [List.getElem?_toArray, List.getElem?_cons_succ, List.getElem?_cons_zero]; rfl)) (by kernel_rfl) (by kernel_rfl) (by kernel_rfl) (by exact fun _ _ _ h => h) (Or.inl ⟨by rfl, ?_⟩) (by assumption) ?_
  rotate_left
  · (intro wS hS; clear hS; go_simp; try with_reducible rfl)
  try simp only [Act.put, List.setIfInBounds_toArray, List.set_cons_zero, List.set_cons_succ]
  refine wpAnyH_take (i := 5) (v := ?_) (by (simp only [List.getElem?_toArray, List.getElem?_cons_succ, List.getElem?_cons_zero]; rfl)) (by kernel_rfl) (by kernel_rfl) (by kernel_rfl) (by exact fun _ _ _ h => h) (Or.inl ⟨by rfl, ?_⟩) (by assumption) ?_
  rotate_left
  · (intro wS hS; clear hS; go_simp; try with_reducible rfl)
  try simp only [Act.put, List.setIfInBounds_toArray, List.set_cons_zero, List.set_cons_succ]
  refine wpAnyH_take (i := 6) (v := ?_) (by (simp only [List.getElem?_toArray, List.getElem?_cons_succ, List.getElem?_cons_zero]; rfl)) (by kernel_rfl) (by kernel_rfl) (by kernel_rfl) (by exact fun _ _ _ h => h) (Or.inl ⟨by rfl, ?_⟩) (by assumption) ?_
  rotate_left
  · (intro wS hS; have hSc := hS.cells; clear hS; go_simp; try with_reducible rfl)
  try simp only [Act.put, List.setIfInBounds_toArray, List.set_cons_zero, List.set_cons_succ]
  refine wpAnyH_take (i := 7) (v := ?_) (by (simp only [List.getElem?_toArray, List.getElem?_cons_succ, List.getElem?_cons_zero]; rfl)) (by kernel_rfl) (by kernel_rfl) (by kernel_rfl) (by exact fun _ _ _ h => h) (Or.inl ⟨by rfl, ?_⟩) (by assumption) ?_
  rotate_left
  · (intro wS hS; clear hS; go_simp; try with_reducible rfl)
  try simp only [Act.put, List.setIfInBounds_toArray, List.set_cons_zero, List.set_cons_succ]
  refine wpAnyH_take (i := 8) (v := ?_) (by (simp only [List.getElem?_toArray, List.getElem?_cons_succ, List.getElem?_cons_zero]; rfl)) (by kernel_rfl) (by kernel_rfl) (by kernel_rfl) (by exact fun _ _ _ h => h) (Or.inl ⟨by rfl, ?_⟩) (by assumption) ?_
  rotate_left
  · (intro wS hS; clear hS; go_simp; try with_reducible rfl)
  try simp only [Act.put, List.setIfInBounds_toArray, List.set_cons_zero, List.set_cons_succ]
  refine wpAnyH_ready (rs := [4]) (by kernel_rfl) (by simp) ?_
  refine AllReadyH.cons (by (simp only [List.getElem?_toArray, List.getElem?_cons_succ, List.getElem?_cons_zero]; rfl)) (fun K hK => ?_) AllReadyH.nil
  go_simp
  (first | (go_at_call 43; (with_reducible refine (implFloorDiv_ok u 32768 (by decide) (by decide) (by have := Y1.out; omega) (by have := Y1.out; omega) _).mono ?_); rintro e w2 ⟨rfl, rfl⟩) | (go_at_call 28; (with_reducible refine (implCeilDiv_ok v 32768 (by decide) (by decide) (by have := Y2.out; omega) (by have := Y2.out; omega) _).mono ?_); rintro e w2 ⟨rfl, rfl⟩))
  (try go_wp2_with fail)
  refine hK.out _ _ (by first | exact hHeld | exact hHeld.up hb) (fun hHeld => ?_)
  clear hK K
  try simp only [Act.put, List.setIfInBounds_toArray, List.set_cons_zero, List.set_cons_succ]
  refine wpAnyH_ready (rs := [9]) (by kernel_rfl) (by simp) ?_
  refine AllReadyH.cons (by (simp only [List.getElem?_toArray, List.getElem?_cons_succ, List.getElem?_cons_zero]; rfl)) (fun K hK => ?_) AllReadyH.nil
  go_simp
  (first | (go_at_call 43; (with_reducible refine (implFloorDiv_ok u 32768 (by decide) (by decide) (by have := Y1.out; omega) (by have := Y1.out; omega) _).mono ?_); rintro e w2 ⟨rfl, rfl⟩) | (go_at_call 28; (with_reducible refine (implCeilDiv_ok v 32768 (by decide) (by decide) (by have := Y2.out; omega) (by have := Y2.out; omega) _).mono ?_); rintro e w2 ⟨rfl, rfl⟩))
  (try go_wp2_with fail)
  refine hK.out _ _ (by first | exact hHeld | exact hHeld.up hb) (fun hHeld => ?_)
  clear hK K
  try simp only [Act.put, List.setIfInBounds_toArray, List.set_cons_zero, List.set_cons_succ]
  refine wpAnyH_take (i := 10) (v := ?_) (by (simp only [List.getElem?_toArray, List.getElem?_cons_succ, List.getElem?_cons_zero]; rfl)) (by kernel_rfl) (by kernel_rfl) (by kernel_rfl) (by exact fun _ _ _ h => h) (Or.inl ⟨by rfl, ?_⟩) (by assumption) ?_
  rotate_left
  · (intro wS hS; clear hS; go_simp; try with_reducible rfl)
  try simp only [Act.put, List.setIfInBounds_toArray, List.set_cons_zero, List.set_cons_succ]
  refine wpAnyH_ready (rs := [11]) (by kernel_rfl) (by simp) ?_
  refine AllReadyH.cons (by (simp only [List.getElem?_toArray, List.getElem?_cons_succ, List.getElem?_cons_zero]; rfl)) (fun K hK => ?_) AllReadyH.nil
  obtain ⟨ra, rb, hRB⟩ := hHeld.res
  obtain ⟨rn0, rn1, rn2, rn3⟩ := hRB.rd2
  clear hRB
  go_simp
  refine hK.out _ _ (hHeld.two _ _) (fun hHeld => ?_)
  clear hK K
  try simp only [Act.put, List.setIfInBounds_toArray, List.set_cons_zero, List.set_cons_succ]
  refine wpAnyH_done (by kernel_rfl) ?_ _
  go_wp2
  refine bodyPost_ret (by simp only [results, Try.results34]; go_simp; all_goals (first | exact rfl | exact ⟨rfl, rfl⟩ | skip)) rfl ⟨rfl, hHeld.bw b2 (Nat.le_refl _)⟩
def specPartPost (L H : Int) (n : Nat) (d : Int) (w : World) (x : Ending) (w' : World) : Prop := x = .returned (.agg #[.int .i64 (partL L H n d), .int .i64 (partH L H n d)]) ∧ Below w.heap.size w w'
theorem specPart_ok (L H : Int) (n : Nat) (d : Int) (L0 : 0 ≤ L) (LH : L ≤ H) (H1 : H ≤ 268435456) (hn : n ≤ 20) (d0 : 1 ≤ d) (d1 : d ≤ 1000000) (w : World) : Calls Try.prog 33 #[.agg #[.int .i64 L, .int .i64 H], .int .i64 n, .int .i64 d] w (specPartPost L H n d w) := by
  have l0 := Blk.new (w.alloc (.cells #[.int .i64 L, .int .i64 H] 29)) 29 #[.int .i64 0, .int .i64 0]
  rw [World.size_alloc] at l0
  have M := specSpanPower_ok L H n hn (by rw [spOk_iff]; omega) (pow_ok28 L0 LH H1 n)
  have B := Lib.hid (pow_bd28 L0 LH H1 n)
  unfold specPartPost partL partH
  unfold powPost at M
  generalize (powP L H n).1 = u at *
  generalize (powP L H n).2 = v at *
  clear L0 LH H1
  go_enter Try.func33, Try.ntmps33
  go_wp2_with fail
  refine (M _).mono ?_
  rintro e w1 ⟨rfl, hb⟩
  replace l0 := l0.up hb
  have b1 : Below w.heap.size w w1 := (by repeat (first | exact bw_refl _ | assumption | apply bw_alloc | apply bw_drew | apply bw_drewN | (refine bw_trans ?_ (by assumption)) | (refine bw_set ?_ (by simp only [go_sem]; omega) _)))
  clear hb M
  have z0 := l0.lt
  have l1 := Blk.new w1 29 #[.int .i64 u, .int .i64 v]
  replace l0 := l0.alloc (.cells #[.int .i64 u, .int .i64 v] 29)
  have b2 : Below w.heap.size w (w1.alloc (.cells #[.int .i64 u, .int .i64 v] 29)) := (by repeat (first | exact bw_refl _ | assumption | apply bw_alloc | apply bw_drew | apply bw_drewN | (refine bw_trans ?_ (by assumption)) | (refine bw_set ?_ (by simp only [go_sem]; omega) _)))
  have z1 := l1.lt
  have z2 := l0.lt
  go_wp2_with fail
  clear b1
  generalize w1.alloc (.cells #[.int .i64 u, .int .i64 v] 29) = W at *
  obtain ⟨g4, g5, -, -⟩ := l1.rd2
  have ne1 : w.heap.size + 1 ≠ w1.heap.size := by omega
  have ne2 : w1.heap.size ≠ w.heap.size + 1 := by omega
  refine wp_region_keep _ _ l0 (by kernel_rfl) (fun wD hHeld => ?_)
  refine wpAnyH_take (i := 0) (v := ?_) (by (simp only [List.getElem?_toArray, List.getElem?_cons_zero]; rfl)) (by kernel_rfl) (by kernel_rfl) (by kernel_rfl) (by exact fun _ _ _ h => h) (Or.inl ⟨by rfl, ?_⟩) (by assumption) ?_
  rotate_left
  · (intro wS hS; clear hS; go_simp; try with_reducible rfl)
  try simp only [Act.put, List.setIfInBounds_toArray, List.set_cons_zero, List.set_cons_succ]
  refine wpAnyH_take (i := 1) (v := ?_) (by (simp only [List.getElem?_toArray, List.getElem?_cons_succ, List.getElem?_cons_zero]; rfl)) (by kernel_rfl) (by kernel_rfl) (by kernel_rfl) (by exact fun _ _ _ h => h) (Or.inl ⟨by rfl, ?_⟩) (by assumption) ?_
  rotate_left
  · (intro wS hS; have hSc := hS.cells; clear hS; go_simp; try with_reducible rfl)
  try simp only [Act.put, List.setIfInBounds_toArray, List.set_cons_zero, List.set_cons_succ]
  refine wpAnyH_take (i := 2) (v := ?_) (by (simp only [List.getElem?_toArray, List.getElem?_cons_succ, List.getElem?_cons_zero]; rfl)) (by kernel_rfl) (by kernel_rfl) (by kernel_rfl) (by exact fun _ _ _ h => h) (Or.inl ⟨by rfl, ?_⟩) (by assumption) ?_
  rotate_left
  · (intro wS hS; clear hS; go_simp; try with_reducible rfl)
  try simp only [Act.put, List.setIfInBounds_toArray, List.set_cons_zero, List.set_cons_succ]
  refine wpAnyH_take (i := 4) (v := ?_) (by (simp only [List.getElem?_toArray, List.getElem?_cons_succ, List.getElem?_cons_zero]; rfl)) (by kernel_rfl) (by kernel_rfl) (by kernel_rfl) (by exact fun _ _ _ h => h) (Or.inl ⟨by rfl, ?_⟩) (by assumption) ?_
  rotate_left
  · (intro wS hS; clear hS; go_simp; try with_reducible rfl)
  try simp only [Act.put, List.setIfInBounds_toArray, List.set_cons_zero, List.set_cons_succ]
  refine wpAnyH_take (i := 5) (v := ?_) (by (simp only [List.getElem?_toArray, List.getElem?_cons_succ, List.getElem?_cons_zero]; rfl)) (by kernel_rfl) (by kernel_rfl) (by kernel_rfl) (by exact fun _ _ _ h => h) (Or.inl ⟨by rfl, ?_⟩) (by assumption) ?_
  rotate_left
  · (intro wS hS; have hSc := hS.cells; clear hS; go_simp; try with_reducible rfl)
  try simp only [Act.put, List.setIfInBounds_toArray, List.set_cons_zero, List.set_cons_succ]
  refine wpAnyH_take (i := 6) (v := ?_) (by (simp only [List.getElem?_toArray, List.getElem?_cons_succ, List.getElem?_cons_zero]; rfl)) (by kernel_rfl) (by kernel_rfl) (by kernel_rfl) (by exact fun _ _ _ h => h) (Or.inl ⟨by rfl, ?_⟩) (by assumption) ?_
  rotate_left
  · (intro wS hS; clear hS; go_simp; try with_reducible rfl)
  try simp only [Act.put, List.setIfInBounds_toArray, List.set_cons_zero, List.set_cons_succ]
  refine wpAnyH_ready (rs := [3]) (by kernel_rfl) (by simp) ?_
  refine AllReadyH.cons (by (simp only [List.getElem?_toArray, List.getElem?_cons_succ, List.getElem?_cons_zero]; rfl)) (fun K hK => ?_) AllReadyH.nil
  go_simp
  (first | (go_at_call 41; (with_reducible refine (l1Floor_any u d (by omega) (by omega) (by have := B.out; omega) (by have := B.out; omega) _).mono ?_); rintro e w2 ⟨rfl, rfl⟩) | (go_at_call 26; (with_reducible refine (l7Ceil_ok v d (by omega) (by omega) (by have := B.out; omega) (by have := B.out; omega) _).mono ?_); rintro e w2 ⟨rfl, rfl⟩))
  (try go_wp2_with fail)
  refine hK.out _ _ (by first | exact hHeld | exact hHeld.up hb) (fun hHeld => ?_)
  clear hK K
  try simp only [Act.put, List.setIfInBounds_toArray, List.set_cons_zero, List.set_cons_succ]
  refine wpAnyH_ready (rs := [7]) (by kernel_rfl) (by simp) ?_
  refine AllReadyH.cons (by (simp only [List.getElem?_toArray, List.getElem?_cons_succ, List.getElem?_cons_zero]; rfl)) (fun K hK => ?_) AllReadyH.nil
  go_simp
  (first | (go_at_call 41; (with_reducible refine (l1Floor_any u d (by omega) (by omega) (by have := B.out; omega) (by have := B.out; omega) _).mono ?_); rintro e w2 ⟨rfl, rfl⟩) | (go_at_call 26; (with_reducible refine (l7Ceil_ok v d (by omega) (by omega) (by have := B.out; omega) (by have := B.out; omega) _).mono ?_); rintro e w2 ⟨rfl, rfl⟩))
  (try go_wp2_with fail)
  refine hK.out _ _ (by first | exact hHeld | exact hHeld.up hb) (fun hHeld => ?_)
  clear hK K
  try simp only [Act.put, List.setIfInBounds_toArray, List.set_cons_zero, List.set_cons_succ]
  refine wpAnyH_take (i := 8) (v := ?_) (by (simp only [List.getElem?_toArray, List.getElem?_cons_succ, List.getElem?_cons_zero]; rfl)) (by kernel_rfl) (by kernel_rfl) (by kernel_rfl) (by exact fun _ _ _ h => h) (Or.inl ⟨by rfl, ?_⟩) (by assumption) ?_
  rotate_left
  · (intro wS hS; clear hS; go_simp; try with_reducible rfl)
  try simp only [Act.put, List.setIfInBounds_toArray, List.set_cons_zero, List.set_cons_succ]
  refine wpAnyH_ready (rs := [9]) (by kernel_rfl) (by simp) ?_
  refine AllReadyH.cons (by (simp only [List.getElem?_toArray, List.getElem?_cons_succ, List.getElem?_cons_zero]; rfl)) (fun K hK => ?_) AllReadyH.nil
  obtain ⟨ra, rb, hRB⟩ := hHeld.res
  obtain ⟨rn0, rn1, rn2, rn3⟩ := hRB.rd2
  clear hRB
  go_simp
  refine hK.out _ _ (hHeld.two _ _) (fun hHeld => ?_)
  clear hK K
  try simp only [Act.put, List.setIfInBounds_toArray, List.set_cons_zero, List.set_cons_succ]
  refine wpAnyH_done (by kernel_rfl) ?_ _
  go_wp2
  refine bodyPost_ret (by simp only [results, Try.results33]; go_simp; all_goals (first | exact rfl | exact ⟨rfl, rfl⟩ | skip)) rfl ⟨rfl, hHeld.bw b2 (Nat.le_succ _)⟩
def implPartPost (L H : Int) (n : Nat) (d : Int) (w : World) (x : Ending) (w' : World) : Prop := x = .returned (.agg #[.int .i64 (partL L H n d), .int .i64 (partH L H n d)]) ∧ Below w.heap.size w w'
theorem implPart_ok (L H : Int) (n : Nat) (d : Int) (L0 : 0 ≤ L) (LH : L ≤ H) (H1 : H ≤ 268435456) (hn : n ≤ 20) (d0 : 1 ≤ d) (d1 : d ≤ 1000000) (w : World) : Calls Try.prog 35 #[.agg #[.int .i64 L, .int .i64 H], .int .i64 n, .int .i64 d] w (implPartPost L H n d w) := by
  have l0 := Blk.new (w.alloc (.cells #[.int .i64 L, .int .i64 H] 29)) 29 #[.int .i64 0, .int .i64 0]
  rw [World.size_alloc] at l0
  have M := implSpanPower_ok L H n hn (by rw [spOk_iff]; omega) (pow_ok28 L0 LH H1 n)
  have B := Lib.hid (pow_bd28 L0 LH H1 n)
  unfold implPartPost partL partH
  unfold powPost at M
  generalize (powP L H n).1 = u at *
  generalize (powP L H n).2 = v at *
  clear L0 LH H1
  go_enter Try.func35, Try.ntmps35
  go_wp2_with fail
  refine (M _).mono ?_
  rintro e w1 ⟨rfl, hb⟩
  replace l0 := l0.up hb
  have b1 : Below w.heap.size w w1 := (by repeat (first | exact bw_refl _ | assumption | apply bw_alloc | apply bw_drew | apply bw_drewN | (refine bw_trans ?_ (by assumption)) | (refine bw_set ?_ (by simp only [go_sem]; omega) _)))
  clear hb M
  have z0 := l0.lt
  have l1 := Blk.new w1 29 #[.int .i64 u, .int .i64 v]
  replace l0 := l0.alloc (.cells #[.int .i64 u, .int .i64 v] 29)
  have b2 : Below w.heap.size w (w1.alloc (.cells #[.int .i64 u, .int .i64 v] 29)) := (by repeat (first | exact bw_refl _ | assumption | apply bw_alloc | apply bw_drew | apply bw_drewN | (refine bw_trans ?_ (by assumption)) | (refine bw_set ?_ (by simp only [go_sem]; omega) _)))
  have z1 := l1.lt
  have z2 := l0.lt
  go_wp2_with fail
  clear b1
  generalize w1.alloc (.cells #[.int .i64 u, .int .i64 v] 29) = W at *
  obtain ⟨g4, g5, -, -⟩ := l1.rd2
  have ne1 : w.heap.size + 1 ≠ w1.heap.size := by omega
  have ne2 : w1.heap.size ≠ w.heap.size + 1 := by omega
  refine wp_region_keep _ _ l0 (by kernel_rfl) (fun wD hHeld => ?_)
  refine wpAnyH_take (i := 0) (v := ?_) (by (simp only [List.getElem?_toArray, List.getElem?_cons_zero]; rfl)) (by kernel_rfl) (by kernel_rfl) (by kernel_rfl) (by exact fun _ _ _ h => h) (Or.inl ⟨by rfl, ?_⟩) (by assumption) ?_
  rotate_left
  · (intro wS hS; clear hS; go_simp; try with_reducible rfl)
  try simp only [Act.put, List.setIfInBounds_toArray, List.set_cons_zero, List.set_cons_succ]
  refine wpAnyH_take (i := 1) (v := ?_) (by (simp only [List.getElem?_toArray, List.getElem?_cons_succ, List.getElem?_cons_zero]; rfl)) (by kernel_rfl) (by kernel_rfl) (by kernel_rfl) (by exact fun _ _ _ h => h) (Or.inl ⟨by rfl, ?_⟩) (by assumption) ?_
  rotate_left
  · (intro wS hS; have hSc := hS.cells; clear hS; go_simp; try with_reducible rfl)
  try simp only [Act.put, List.setIfInBounds_toArray, List.set_cons_zero, List.set_cons_succ]
  refine wpAnyH_take (i := 2) (v := ?_) (by (simp only [List.getElem?_toArray, List.getElem?_cons_succ, List.getElem?_cons_zero]; rfl)) (by kernel_rfl) (by kernel_rfl) (by kernel_rfl) (by exact fun _ _ _ h => h) (Or.inl ⟨by rfl, ?_⟩) (by assumption) ?_
  rotate_left
  · (intro wS hS; clear hS; go_simp; try with_reducible rfl)
  try simp only [Act.put, List.setIfInBounds_toArray, List.set_cons_zero, List.set_cons_succ]
  refine wpAnyH_take (i := 4) (v := ?_) (by (simp only [List.getElem?_toArray, List.getElem?_cons_succ, List.getElem?_cons_zero]; rfl)) (by kernel_rfl) (by kernel_rfl) (by kernel_rfl) (by exact fun _ _ _ h => h) (Or.inl ⟨by rfl, ?_⟩) (by assumption) ?_
  rotate_left
  · (intro wS hS; clear hS; go_simp; try with_reducible rfl)
  try simp only [Act.put, List.setIfInBounds_toArray, List.set_cons_zero, List.set_cons_succ]
  refine wpAnyH_take (i := 5) (v := ?_) (by (simp only [List.getElem?_toArray, List.getElem?_cons_succ, List.getElem?_cons_zero]; rfl)) (by kernel_rfl) (by kernel_rfl) (by kernel_rfl) (by exact fun _ _ _ h => h) (Or.inl ⟨by rfl, ?_⟩) (by assumption) ?_
  rotate_left
  · (intro wS hS; have hSc := hS.cells; clear hS; go_simp; try with_reducible rfl)
  try simp only [Act.put, List.setIfInBounds_toArray, List.set_cons_zero, List.set_cons_succ]
  refine wpAnyH_take (i := 6) (v := ?_) (by (simp only [List.getElem?_toArray, List.getElem?_cons_succ, List.getElem?_cons_zero]; rfl)) (by kernel_rfl) (by kernel_rfl) (by kernel_rfl) (by exact fun _ _ _ h => h) (Or.inl ⟨by rfl, ?_⟩) (by assumption) ?_
  rotate_left
  · (intro wS hS; clear hS; go_simp; try with_reducible rfl)
  try simp only [Act.put, List.setIfInBounds_toArray, List.set_cons_zero, List.set_cons_succ]
  refine wpAnyH_ready (rs := [3]) (by kernel_rfl) (by simp) ?_
  refine AllReadyH.cons (by (simp only [List.getElem?_toArray, List.getElem?_cons_succ, List.getElem?_cons_zero]; rfl)) (fun K hK => ?_) AllReadyH.nil
  go_simp
  (first | (go_at_call 43; (with_reducible refine (implFloorDiv_ok u d (by omega) (by omega) (by have := B.out; omega) (by have := B.out; omega) _).mono ?_); rintro e w2 ⟨rfl, rfl⟩) | (go_at_call 28; (with_reducible refine (implCeilDiv_ok v d (by omega) (by omega) (by have := B.out; omega) (by have := B.out; omega) _).mono ?_); rintro e w2 ⟨rfl, rfl⟩))
  (try go_wp2_with fail)
  refine hK.out _ _ (by first | exact hHeld | exact hHeld.up hb) (fun hHeld => ?_)
  clear hK K
  try simp only [Act.put, List.setIfInBounds_toArray, List.set_cons_zero, List.set_cons_succ]
  refine wpAnyH_ready (rs := [7]) (by kernel_rfl) (by simp) ?_
  refine AllReadyH.cons (by (simp only [List.getElem?_toArray, List.getElem?_cons_succ, List.getElem?_cons_zero]; rfl)) (fun K hK => ?_) AllReadyH.nil
  go_simp
  (first | (go_at_call 43; (with_reducible refine (implFloorDiv_ok u d (by omega) (by omega) (by have := B.out; omega) (by have := B.out; omega) _).mono ?_); rintro e w2 ⟨rfl, rfl⟩) | (go_at_call 28; (with_reducible refine (implCeilDiv_ok v d (by omega) (by omega) (by have := B.out; omega) (by have := B.out; omega) _).mono ?_); rintro e w2 ⟨rfl, rfl⟩))
  (try go_wp2_with fail)
  refine hK.out _ _ (by first | exact hHeld | exact hHeld.up hb) (fun hHeld => ?_)
  clear hK K
  try simp only [Act.put, List.setIfInBounds_toArray, List.set_cons_zero, List.set_cons_succ]
  refine wpAnyH_take (i := 8) (v := ?_) (by (simp only [List.getElem?_toArray, List.getElem?_cons_succ, List.getElem?_cons_zero]; rfl)) (by kernel_rfl) (by kernel_rfl) (by kernel_rfl) (by exact fun _ _ _ h => h) (Or.inl ⟨by rfl, ?_⟩) (by assumption) ?_
  rotate_left
  · (intro wS hS; clear hS; go_simp; try with_reducible rfl)
  try simp only [Act.put, List.setIfInBounds_toArray, List.set_cons_zero, List.set_cons_succ]
  refine wpAnyH_ready (rs := [9]) (by kernel_rfl) (by simp) ?_
  refine AllReadyH.cons (by (simp only [List.getElem?_toArray, List.getElem?_cons_succ, List.getElem?_cons_zero]; rfl)) (fun K hK => ?_) AllReadyH.nil
  obtain ⟨ra, rb, hRB⟩ := hHeld.res
  obtain ⟨rn0, rn1, rn2, rn3⟩ := hRB.rd2
  clear hRB
  go_simp
  refine hK.out _ _ (hHeld.two _ _) (fun hHeld => ?_)
  clear hK K
  try simp only [Act.put, List.setIfInBounds_toArray, List.set_cons_zero, List.set_cons_succ]
  refine wpAnyH_done (by kernel_rfl) ?_ _
  go_wp2
  refine bodyPost_ret (by simp only [results, Try.results35]; go_simp; all_goals (first | exact rfl | exact ⟨rfl, rfl⟩ | skip)) rfl ⟨rfl, hHeld.bw b2 (Nat.le_succ _)⟩
def SineSpanPost (a : Int) (w : World) (x : Ending) (w' : World) : Prop := x = .returned (.agg #[.int .i64 (sinLow a), .int .i64 (sinHigh a)]) ∧ Below w.heap.size w w'
theorem specSineSpan_ok (a : Int) (h0 : 0 ≤ a) (h1 : a ≤ 8192) (w : World) : Calls Try.prog 16 #[.int .i64 a] w (SineSpanPost a w) := by
  have l0 := Blk.new w 29 #[.int .i64 0, .int .i64 0]
  have hin : inB a 0 8192 = true := by rw [inB_iff]; omega
  obtain ⟨A0, A1, A2⟩ := arc_bd h0 h1
  have M0 := specRad_ok a h0 h1
  unfold specRadPost at M0
  unfold SineSpanPost sinLow sinHigh
  generalize arcLow a = L at *
  generalize arcHigh a = H at *
  have M1 := specPart_ok L H 3 6 A0 A1 A2 (by decide) (by decide) (by decide)
  obtain ⟨⟨p10, p11⟩, q10, q11⟩ := part_bd A0 A1 A2 3 6 (by decide)
  unfold specPartPost at M1
  generalize partL L H 3 6 = P1 at *
  generalize partH L H 3 6 = Q1 at *
  have M2 := specPart_ok L H 5 120 A0 A1 A2 (by decide) (by decide) (by decide)
  obtain ⟨⟨p20, p21⟩, q20, q21⟩ := part_bd A0 A1 A2 5 120 (by decide)
  unfold specPartPost at M2
  generalize partL L H 5 120 = P2 at *
  generalize partH L H 5 120 = Q2 at *
  have M3 := specPart_ok L H 7 5040 A0 A1 A2 (by decide) (by decide) (by decide)
  obtain ⟨⟨p30, p31⟩, q30, q31⟩ := part_bd A0 A1 A2 7 5040 (by decide)
  unfold specPartPost at M3
  generalize partL L H 7 5040 = P3 at *
  generalize partH L H 7 5040 = Q3 at *
  go_enter Try.func16, Try.ntmps16
  go_wp2_with (go_at_call 24; refine (l1In_any _ _ _ _).mono ?_; rintro e w' ⟨he, rfl⟩; rw [hin] at he; subst he)
  refine (M0 _).mono ?_
  rintro e w1 ⟨rfl, hb⟩
  replace l0 := l0.up hb
  have b1 : Below w.heap.size w w1 := (by repeat (first | exact bw_refl _ | assumption | apply bw_alloc | apply bw_drew | apply bw_drewN | (refine bw_trans ?_ (by assumption)) | (refine bw_set ?_ (by simp only [go_sem]; omega) _)))
  clear hb M0
  replace l0 := l0.alloc (.cells #[.int .i64 L, .int .i64 H] 29)
  have l1 := Blk.new w1 29 #[.int .i64 L, .int .i64 H]
  obtain ⟨g10, g11, -, -⟩ := l1.rd2
  go_wp2_with fail
  refine (M1 _).mono ?_
  rintro e w2 ⟨rfl, hb⟩
  replace l0 := l0.up hb
  replace l1 := l1.up hb
  have b2 : Below w.heap.size w w2 := (by repeat (first | exact bw_refl _ | assumption | apply bw_alloc | apply bw_drew | apply bw_drewN | (refine bw_trans ?_ (by assumption)) | (refine bw_set ?_ (by simp only [go_sem]; omega) _)))
  clear hb M1 b1 g10 g11
  replace l0 := l0.alloc (.cells #[.int .i64 P1, .int .i64 Q1] 29)
  replace l1 := l1.alloc (.cells #[.int .i64 P1, .int .i64 Q1] 29)
  have l2 := Blk.new w2 29 #[.int .i64 P1, .int .i64 Q1]
  obtain ⟨g10, g11, -, -⟩ := l1.rd2
  obtain ⟨g20, g21, -, -⟩ := l2.rd2
  go_wp2_with fail
  refine (M2 _).mono ?_
  rintro e w3 ⟨rfl, hb⟩
  replace l0 := l0.up hb
  replace l1 := l1.up hb
  replace l2 := l2.up hb
  have b3 : Below w.heap.size w w3 := (by repeat (first | exact bw_refl _ | assumption | apply bw_alloc | apply bw_drew | apply bw_drewN | (refine bw_trans ?_ (by assumption)) | (refine bw_set ?_ (by simp only [go_sem]; omega) _)))
  clear hb M2 b2 g10 g11 g20 g21
  replace l0 := l0.alloc (.cells #[.int .i64 P2, .int .i64 Q2] 29)
  replace l1 := l1.alloc (.cells #[.int .i64 P2, .int .i64 Q2] 29)
  replace l2 := l2.alloc (.cells #[.int .i64 P2, .int .i64 Q2] 29)
  have l3 := Blk.new w3 29 #[.int .i64 P2, .int .i64 Q2]
  obtain ⟨g10, g11, -, -⟩ := l1.rd2
  obtain ⟨g20, g21, -, -⟩ := l2.rd2
  obtain ⟨g30, g31, -, -⟩ := l3.rd2
  go_wp2_with fail
  refine (M3 _).mono ?_
  rintro e w4 ⟨rfl, hb⟩
  replace l0 := l0.up hb
  replace l1 := l1.up hb
  replace l2 := l2.up hb
  replace l3 := l3.up hb
  have b4 : Below w.heap.size w w4 := (by repeat (first | exact bw_refl _ | assumption | apply bw_alloc | apply bw_drew | apply bw_drewN | (refine bw_trans ?_ (by assumption)) | (refine bw_set ?_ (by simp only [go_sem]; omega) _)))
  clear hb M3 b3 g10 g11 g20 g21 g30 g31
  replace l0 := l0.alloc (.cells #[.int .i64 P3, .int .i64 Q3] 29)
  replace l1 := l1.alloc (.cells #[.int .i64 P3, .int .i64 Q3] 29)
  replace l2 := l2.alloc (.cells #[.int .i64 P3, .int .i64 Q3] 29)
  replace l3 := l3.alloc (.cells #[.int .i64 P3, .int .i64 Q3] 29)
  have l4 := Blk.new w4 29 #[.int .i64 P3, .int .i64 Q3]
  obtain ⟨g10, g11, -, -⟩ := l1.rd2
  obtain ⟨g20, g21, -, -⟩ := l2.rd2
  obtain ⟨g30, g31, -, -⟩ := l3.rd2
  obtain ⟨g40, g41, -, -⟩ := l4.rd2
  obtain ⟨g00, g01, f00, f01⟩ := l0.rd2
  have z0 := l0.lt
  have z1 := l1.lt
  have z2 := l2.lt
  have z3 := l3.lt
  go_wp2
  refine bodyPost_ret (by simp only [results, Try.results16]; go_simp; all_goals (first | exact rfl | exact ⟨rfl, rfl⟩ | skip)) rfl ⟨rfl, (by repeat (first | exact bw_refl _ | assumption | apply bw_alloc | apply bw_drew | apply bw_drewN | (refine bw_trans ?_ (by assumption)) | (refine bw_set ?_ (by simp only [go_sem]; omega) _)))⟩
def CosineSpanPost (a : Int) (w : World) (x : Ending) (w' : World) : Prop := x = .returned (.agg #[.int .i64 (cosLow a), .int .i64 (cosHigh a)]) ∧ Below w.heap.size w w'
theorem specCosineSpan_ok (a : Int) (h0 : 0 ≤ a) (h1 : a ≤ 8192) (w : World) : Calls Try.prog 13 #[.int .i64 a] w (CosineSpanPost a w) := by
  have l0 := Blk.new w 29 #[.int .i64 0, .int .i64 0]
  have hin : inB a 0 8192 = true := by rw [inB_iff]; omega
  obtain ⟨A0, A1, A2⟩ := arc_bd h0 h1
  have M0 := specRad_ok a h0 h1
  unfold specRadPost at M0
  unfold CosineSpanPost cosLow cosHigh
  generalize arcLow a = L at *
  generalize arcHigh a = H at *
  have M1 := specPart_ok L H 2 2 A0 A1 A2 (by decide) (by decide) (by decide)
  obtain ⟨⟨p10, p11⟩, q10, q11⟩ := part_bd A0 A1 A2 2 2 (by decide)
  unfold specPartPost at M1
  generalize partL L H 2 2 = P1 at *
  generalize partH L H 2 2 = Q1 at *
  have M2 := specPart_ok L H 4 24 A0 A1 A2 (by decide) (by decide) (by decide)
  obtain ⟨⟨p20, p21⟩, q20, q21⟩ := part_bd A0 A1 A2 4 24 (by decide)
  unfold specPartPost at M2
  generalize partL L H 4 24 = P2 at *
  generalize partH L H 4 24 = Q2 at *
  have M3 := specPart_ok L H 6 720 A0 A1 A2 (by decide) (by decide) (by decide)
  obtain ⟨⟨p30, p31⟩, q30, q31⟩ := part_bd A0 A1 A2 6 720 (by decide)
  unfold specPartPost at M3
  generalize partL L H 6 720 = P3 at *
  generalize partH L H 6 720 = Q3 at *
  go_enter Try.func13, Try.ntmps13
  go_wp2_with (go_at_call 24; refine (l1In_any _ _ _ _).mono ?_; rintro e w' ⟨he, rfl⟩; rw [hin] at he; subst he)
  refine (M0 _).mono ?_
  rintro e w1 ⟨rfl, hb⟩
  replace l0 := l0.up hb
  have b1 : Below w.heap.size w w1 := (by repeat (first | exact bw_refl _ | assumption | apply bw_alloc | apply bw_drew | apply bw_drewN | (refine bw_trans ?_ (by assumption)) | (refine bw_set ?_ (by simp only [go_sem]; omega) _)))
  clear hb M0
  replace l0 := l0.alloc (.cells #[.int .i64 L, .int .i64 H] 29)
  have l1 := Blk.new w1 29 #[.int .i64 L, .int .i64 H]
  obtain ⟨g10, g11, -, -⟩ := l1.rd2
  go_wp2_with fail
  refine (M1 _).mono ?_
  rintro e w2 ⟨rfl, hb⟩
  replace l0 := l0.up hb
  replace l1 := l1.up hb
  have b2 : Below w.heap.size w w2 := (by repeat (first | exact bw_refl _ | assumption | apply bw_alloc | apply bw_drew | apply bw_drewN | (refine bw_trans ?_ (by assumption)) | (refine bw_set ?_ (by simp only [go_sem]; omega) _)))
  clear hb M1 b1 g10 g11
  replace l0 := l0.alloc (.cells #[.int .i64 P1, .int .i64 Q1] 29)
  replace l1 := l1.alloc (.cells #[.int .i64 P1, .int .i64 Q1] 29)
  have l2 := Blk.new w2 29 #[.int .i64 P1, .int .i64 Q1]
  obtain ⟨g10, g11, -, -⟩ := l1.rd2
  obtain ⟨g20, g21, -, -⟩ := l2.rd2
  go_wp2_with fail
  refine (M2 _).mono ?_
  rintro e w3 ⟨rfl, hb⟩
  replace l0 := l0.up hb
  replace l1 := l1.up hb
  replace l2 := l2.up hb
  have b3 : Below w.heap.size w w3 := (by repeat (first | exact bw_refl _ | assumption | apply bw_alloc | apply bw_drew | apply bw_drewN | (refine bw_trans ?_ (by assumption)) | (refine bw_set ?_ (by simp only [go_sem]; omega) _)))
  clear hb M2 b2 g10 g11 g20 g21
  replace l0 := l0.alloc (.cells #[.int .i64 P2, .int .i64 Q2] 29)
  replace l1 := l1.alloc (.cells #[.int .i64 P2, .int .i64 Q2] 29)
  replace l2 := l2.alloc (.cells #[.int .i64 P2, .int .i64 Q2] 29)
  have l3 := Blk.new w3 29 #[.int .i64 P2, .int .i64 Q2]
  obtain ⟨g10, g11, -, -⟩ := l1.rd2
  obtain ⟨g20, g21, -, -⟩ := l2.rd2
  obtain ⟨g30, g31, -, -⟩ := l3.rd2
  go_wp2_with fail
  refine (M3 _).mono ?_
  rintro e w4 ⟨rfl, hb⟩
  replace l0 := l0.up hb
  replace l1 := l1.up hb
  replace l2 := l2.up hb
  replace l3 := l3.up hb
  have b4 : Below w.heap.size w w4 := (by repeat (first | exact bw_refl _ | assumption | apply bw_alloc | apply bw_drew | apply bw_drewN | (refine bw_trans ?_ (by assumption)) | (refine bw_set ?_ (by simp only [go_sem]; omega) _)))
  clear hb M3 b3 g10 g11 g20 g21 g30 g31
  replace l0 := l0.alloc (.cells #[.int .i64 P3, .int .i64 Q3] 29)
  replace l1 := l1.alloc (.cells #[.int .i64 P3, .int .i64 Q3] 29)
  replace l2 := l2.alloc (.cells #[.int .i64 P3, .int .i64 Q3] 29)
  replace l3 := l3.alloc (.cells #[.int .i64 P3, .int .i64 Q3] 29)
  have l4 := Blk.new w4 29 #[.int .i64 P3, .int .i64 Q3]
  obtain ⟨g10, g11, -, -⟩ := l1.rd2
  obtain ⟨g20, g21, -, -⟩ := l2.rd2
  obtain ⟨g30, g31, -, -⟩ := l3.rd2
  obtain ⟨g40, g41, -, -⟩ := l4.rd2
  obtain ⟨g00, g01, f00, f01⟩ := l0.rd2
  have z0 := l0.lt
  have z1 := l1.lt
  have z2 := l2.lt
  have z3 := l3.lt
  go_wp2
  refine bodyPost_ret (by simp only [results, Try.results13]; go_simp; all_goals (first | exact rfl | exact ⟨rfl, rfl⟩ | skip)) rfl ⟨rfl, (by repeat (first | exact bw_refl _ | assumption | apply bw_alloc | apply bw_drew | apply bw_drewN | (refine bw_trans ?_ (by assumption)) | (refine bw_set ?_ (by simp only [go_sem]; omega) _)))⟩
end Go.Proofs.Ytdojgkjgjfclaaa
