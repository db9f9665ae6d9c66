/- Contracts of one step of a rotation, both sides; conditions: a step of 0 to 20, numbers of at most 2^60. -/
import Derived.Test.YtndpmcegealhiaaSteps2
namespace Go.Proofs.Ytndpmcegealhiaa
open Go.RowKit
set_option linter.unusedVariables false
set_option linter.unusedSimpArgs false
set_option maxHeartbeats 2000000

theorem implFloorShift_ok (n : Int) (k : Nat) (k1 : k ≤ 60) (h0 : -1152921504606846976 ≤ n) (h1 : n ≤ 1152921504606846976) (w : World) :
    Calls Try.prog 63 #[.int .i64 n, .int .i64 k] w fun e w' => e = .returned (.int .i64 (n / 2 ^ k)) ∧ w = w' := by
  have hi : inB n (-1152921504606846976) 1152921504606846976 = true := (inB_iff _ _ _).2 ⟨h0, h1⟩
  have hp := (pow2_bd k k (Nat.le_refl _)).1
  obtain ⟨q0, q1⟩ := ediv_bd n (2 ^ k) 1152921504606846976 (by omega) h0 h1 (by omega)
  clear hp
  go_enter Try.func63, Try.ntmps63
  go_wp2_with (go_at_call 24; refine (workable_any _ _).mono ?_; rintro e w' ⟨rfl, rfl⟩)
  go_ret
  exact ⟨ret_int (by simp), rfl⟩
theorem xor_zero (n : Int) (h0 : -1152921504606846976 ≤ n) (h1 : n ≤ 1152921504606846976) : bits .xor .i64 n 0 = n := by
  show IntKind.i64.wrap ((BitVec.ofInt 64 n ^^^ BitVec.ofInt 64 0).toNat : Int) = _
  have e : BitVec.ofInt 64 0 = 0#64 := rfl
  rw [e, BitVec.xor_zero, BitVec.toNat_ofInt, IntKind.wrap_i64]
  omega
theorem xor_ones (n : Int) (h0 : -1152921504606846976 ≤ n) (h1 : n ≤ 1152921504606846976) : bits .xor .i64 n (-1) = -n - 1 := by
  show IntKind.i64.wrap ((BitVec.ofInt 64 n ^^^ BitVec.ofInt 64 (-1)).toNat : Int) = _
  have e : BitVec.ofInt 64 (-1) = BitVec.allOnes 64 := by decide
  rw [e, BitVec.xor_allOnes, BitVec.toNat_not, BitVec.toNat_ofInt, IntKind.wrap_i64]
  omega
theorem signed_left (n : Int) (h0 : -1152921504606846976 ≤ n) (h1 : n ≤ 1152921504606846976) (w : World) : Calls Try.prog 51 #[.int .i64 n, .int .i64 0] w fun e w' => e = .returned (.int .i64 n) ∧ w = w' := by
  have hx := xor_zero n h0 h1
  go_enter Try.func51, Try.ntmps51
  go_wp2
  go_ret
  exact ⟨ret_int (by simp), rfl⟩
theorem signed_right (n : Int) (h0 : -1152921504606846976 ≤ n) (h1 : n ≤ 1152921504606846976) (w : World) : Calls Try.prog 51 #[.int .i64 n, .int .i64 (-1)] w fun e w' => e = .returned (.int .i64 (-n)) ∧ w = w' := by
  have hx := xor_ones n h0 h1
  go_enter Try.func51, Try.ntmps51
  go_wp2
  go_ret
  exact ⟨ret_int (by omega), rfl⟩
theorem step_left (x y : Int) (k : Nat) (k1 : k ≤ 60) (x0 : -1152921504606846976 ≤ x) (x1 : x ≤ 1152921504606846976) (y0 : -1152921504606846976 ≤ y) (y1 : y ≤ 1152921504606846976) (w : World) :
    Calls Try.prog 50 #[.agg #[.int .i64 x, .int .i64 y], .int .i64 k, .int .i64 0] w fun e w' => e = .returned (.agg #[.int .i64 (x - y / 2 ^ k), .int .i64 (y + x / 2 ^ k)]) ∧ Below w.heap.size w w' := by
  obtain ⟨u0, u1⟩ := half_bd x 1152921504606846976 k (by omega) x0 x1
  obtain ⟨v0, v1⟩ := half_bd y 1152921504606846976 k (by omega) y0 y1
  have F1 := implFloorShift_ok x k k1 x0 x1
  have F2 := implFloorShift_ok y k k1 y0 y1
  generalize x / 2 ^ k = u at *
  generalize y / 2 ^ k = v at *
  have S1 := signed_left u u0 u1
  have S2 := signed_left v v0 v1
  have e1 : IntKind.i64.wrap (x - v) = x - v := IntWalk.i64_in _ (by omega)
  have e2 : IntKind.i64.wrap (y + u) = y + u := IntWalk.i64_in _ (by omega)
  clear u0 u1 v0 v1 x0 x1 y0 y1
  have l0 := Blk.new (w.alloc (.cells #[.int .i64 x, .int .i64 y] 24)) 24 #[.int .i64 0, .int .i64 0]
  have l1 := Blk.alloc (Blk.new w 24 #[.int .i64 x, .int .i64 y]) (.cells #[.int .i64 0, .int .i64 0] 24)
  rw [World.size_alloc] at l0
  have b1 : Below w.heap.size w ((w.alloc (.cells #[.int .i64 x, .int .i64 y] 24)).alloc (.cells #[.int .i64 0, .int .i64 0] 24)) := (by repeat (first | exact bw_refl _ | assumption | apply bw_alloc | apply bw_drew | apply bw_drewN | (refine bw_trans ?_ (by assumption)) | (refine bw_set ?_ (by simp only [go_sem]; omega) _)))
  go_enter Try.func50, Try.ntmps50
  go_wp2_with fail
  generalize (w.alloc (.cells #[.int .i64 x, .int .i64 y] 24)).alloc (.cells #[.int .i64 0, .int .i64 0] 24) = W at *
  have z0 := l0.lt
  have z1 := l1.lt
  obtain ⟨g4, g5, -, -⟩ := l1.rd2
  have ne1 : w.heap.size + 1 ≠ w.heap.size := by omega
  have ne2 : w.heap.size ≠ w.heap.size + 1 := by omega
  refine wp_region_keep _ _ l0 (by kernel_rfl) (fun wD hHeld => ?_)
  refine wpAnyH_take (i := 0) (v := ?_) (by (simp only [List.getElem?_toArray, List.getElem?_cons_zero]; rfl)) (by kernel_rfl) (by kernel_rfl) (by kernel_rfl) (by exact fun _ _ _ h => h) (Or.inl ⟨by rfl, ?_⟩) (by assumption) ?_
  rotate_left
  · (intro wS hS; clear hS; go_simp; try with_reducible rfl)
  try simp only [Act.put, List.setIfInBounds_toArray, List.set_cons_zero, List.set_cons_succ]
  refine wpAnyH_take (i := 1) (v := ?_) (by (simp only [List.getElem?_toArray, List.getElem?_cons_succ, List.getElem?_cons_zero]; rfl)) (by kernel_rfl) (by kernel_rfl) (by kernel_rfl) (by exact fun _ _ _ h => h) (Or.inl ⟨by rfl, ?_⟩) (by assumption) ?_
  rotate_left
  · (intro wS hS; have hSc := hS.cells; clear hS; go_simp; try with_reducible rfl)
  try simp only [Act.put, List.setIfInBounds_toArray, List.set_cons_zero, List.set_cons_succ]
  refine wpAnyH_take (i := 2) (v := ?_) (by (simp only [List.getElem?_toArray, List.getElem?_cons_succ, List.getElem?_cons_zero]; rfl)) (by kernel_rfl) (by kernel_rfl) (by kernel_rfl) (by exact fun _ _ _ h => h) (Or.inl ⟨by rfl, ?_⟩) (by assumption) ?_
  rotate_left
  · (intro wS hS; clear hS; go_simp; try with_reducible rfl)
  try simp only [Act.put, List.setIfInBounds_toArray, List.set_cons_zero, List.set_cons_succ]
  refine wpAnyH_take (i := 3) (v := ?_) (by (simp only [List.getElem?_toArray, List.getElem?_cons_succ, List.getElem?_cons_zero]; rfl)) (by kernel_rfl) (by kernel_rfl) (by kernel_rfl) (by exact fun _ _ _ h => h) (Or.inl ⟨by rfl, ?_⟩) (by assumption) ?_
  rotate_left
  · (intro wS hS; have hSc := hS.cells; clear hS; go_simp; try with_reducible rfl)
  try simp only [Act.put, List.setIfInBounds_toArray, List.set_cons_zero, List.set_cons_succ]
  refine wpAnyH_take (i := 4) (v := ?_) (by (simp only [List.getElem?_toArray, List.getElem?_cons_succ, List.getElem?_cons_zero]; rfl)) (by kernel_rfl) (by kernel_rfl) (by kernel_rfl) (by exact fun _ _ _ h => h) (Or.inl ⟨by rfl, ?_⟩) (by assumption) ?_
  rotate_left
  · (intro wS hS; clear hS; go_simp; try with_reducible rfl)
  try simp only [Act.put, List.setIfInBounds_toArray, List.set_cons_zero, List.set_cons_succ]
  refine wpAnyH_take (i := 6) (v := ?_) (by (simp only [List.getElem?_toArray, List.getElem?_cons_succ, List.getElem?_cons_zero]; rfl)) (by kernel_rfl) (by kernel_rfl) (by kernel_rfl) (by exact fun _ _ _ h => h) (Or.inl ⟨by rfl, ?_⟩) (by assumption) ?_
  rotate_left
  · (intro wS hS; clear hS; go_simp; try with_reducible rfl)
  try simp only [Act.put, List.setIfInBounds_toArray, List.set_cons_zero, List.set_cons_succ]
  refine wpAnyH_take (i := 9) (v := ?_) (by (simp only [List.getElem?_toArray, List.getElem?_cons_succ, List.getElem?_cons_zero]; rfl)) (by kernel_rfl) (by kernel_rfl) (by kernel_rfl) (by exact fun _ _ _ h => h) (Or.inl ⟨by rfl, ?_⟩) (by assumption) ?_
  rotate_left
  · (intro wS hS; clear hS; go_simp; try with_reducible rfl)
  try simp only [Act.put, List.setIfInBounds_toArray, List.set_cons_zero, List.set_cons_succ]
  refine wpAnyH_take (i := 10) (v := ?_) (by (simp only [List.getElem?_toArray, List.getElem?_cons_succ, List.getElem?_cons_zero]; rfl)) (by kernel_rfl) (by kernel_rfl) (by kernel_rfl) (by exact fun _ _ _ h => h) (Or.inl ⟨by rfl, ?_⟩) (by assumption) ?_
  rotate_left
  · (intro wS hS; have hSc := hS.cells; clear hS; go_simp; try with_reducible rfl)
  try simp only [Act.put, List.setIfInBounds_toArray, List.set_cons_zero, List.set_cons_succ]
  refine wpAnyH_take (i := 11) (v := ?_) (by (simp only [List.getElem?_toArray, List.getElem?_cons_succ, List.getElem?_cons_zero]; rfl)) (by kernel_rfl) (by kernel_rfl) (by kernel_rfl) (by exact fun _ _ _ h => h) (Or.inl ⟨by rfl, ?_⟩) (by assumption) ?_
  rotate_left
  · (intro wS hS; clear hS; go_simp; try with_reducible rfl)
  try simp only [Act.put, List.setIfInBounds_toArray, List.set_cons_zero, List.set_cons_succ]
  refine wpAnyH_take (i := 12) (v := ?_) (by (simp only [List.getElem?_toArray, List.getElem?_cons_succ, List.getElem?_cons_zero]; rfl)) (by kernel_rfl) (by kernel_rfl) (by kernel_rfl) (by exact fun _ _ _ h => h) (Or.inl ⟨by rfl, ?_⟩) (by assumption) ?_
  rotate_left
  · (intro wS hS; have hSc := hS.cells; clear hS; go_simp; try with_reducible rfl)
  try simp only [Act.put, List.setIfInBounds_toArray, List.set_cons_zero, List.set_cons_succ]
  refine wpAnyH_take (i := 13) (v := ?_) (by (simp only [List.getElem?_toArray, List.getElem?_cons_succ, List.getElem?_cons_zero]; rfl)) (by kernel_rfl) (by kernel_rfl) (by kernel_rfl) (by exact fun _ _ _ h => h) (Or.inl ⟨by rfl, ?_⟩) (by assumption) ?_
  rotate_left
  · (intro wS hS; clear hS; go_simp; try with_reducible rfl)
  try simp only [Act.put, List.setIfInBounds_toArray, List.set_cons_zero, List.set_cons_succ]
  refine wpAnyH_take (i := 15) (v := ?_) (by (simp only [List.getElem?_toArray, List.getElem?_cons_succ, List.getElem?_cons_zero]; rfl)) (by kernel_rfl) (by kernel_rfl) (by kernel_rfl) (by exact fun _ _ _ h => h) (Or.inl ⟨by rfl, ?_⟩) (by assumption) ?_
  rotate_left
  · (intro wS hS; clear hS; go_simp; try with_reducible rfl)
  try simp only [Act.put, List.setIfInBounds_toArray, List.set_cons_zero, List.set_cons_succ]
  refine wpAnyH_ready (rs := [5]) (by kernel_rfl) (by simp) ?_
  refine AllReadyH.cons (by (simp only [List.getElem?_toArray, List.getElem?_cons_succ, List.getElem?_cons_zero]; rfl)) (fun K hK => ?_) AllReadyH.nil
  go_simp
  (first | (go_at_call 63; (with_reducible refine (F1 _).mono ?_); rintro e w2 ⟨rfl, rfl⟩) | (go_at_call 63; (with_reducible refine (F2 _).mono ?_); rintro e w2 ⟨rfl, rfl⟩) | (go_at_call 51; (with_reducible refine (S1 _).mono ?_); rintro e w2 ⟨rfl, rfl⟩) | (go_at_call 51; (with_reducible refine (S2 _).mono ?_); rintro e w2 ⟨rfl, rfl⟩))
  (try go_wp2_with fail)
  refine hK.out _ _ (by first | exact hHeld | exact hHeld.up hb) (fun hHeld => ?_)
  clear hK K
  try simp only [Act.put, List.setIfInBounds_toArray, List.set_cons_zero, List.set_cons_succ]
  refine wpAnyH_ready (rs := [7]) (by kernel_rfl) (by simp) ?_
  refine AllReadyH.cons (by (simp only [List.getElem?_toArray, List.getElem?_cons_succ, List.getElem?_cons_zero]; rfl)) (fun K hK => ?_) AllReadyH.nil
  go_simp
  (first | (go_at_call 63; (with_reducible refine (F1 _).mono ?_); rintro e w2 ⟨rfl, rfl⟩) | (go_at_call 63; (with_reducible refine (F2 _).mono ?_); rintro e w2 ⟨rfl, rfl⟩) | (go_at_call 51; (with_reducible refine (S1 _).mono ?_); rintro e w2 ⟨rfl, rfl⟩) | (go_at_call 51; (with_reducible refine (S2 _).mono ?_); rintro e w2 ⟨rfl, rfl⟩))
  (try go_wp2_with fail)
  refine hK.out _ _ (by first | exact hHeld | exact hHeld.up hb) (fun hHeld => ?_)
  clear hK K
  try simp only [Act.put, List.setIfInBounds_toArray, List.set_cons_zero, List.set_cons_succ]
  refine wpAnyH_take (i := 8) (v := ?_) (by (simp only [List.getElem?_toArray, List.getElem?_cons_succ, List.getElem?_cons_zero]; rfl)) (by kernel_rfl) (by kernel_rfl) (by kernel_rfl) (by exact fun _ _ _ h => h) (Or.inl ⟨by rfl, ?_⟩) (by assumption) ?_
  rotate_left
  · (intro wS hS; clear hS; go_simp; try with_reducible rfl)
  try simp only [Act.put, List.setIfInBounds_toArray, List.set_cons_zero, List.set_cons_succ]
  refine wpAnyH_ready (rs := [14]) (by kernel_rfl) (by simp) ?_
  refine AllReadyH.cons (by (simp only [List.getElem?_toArray, List.getElem?_cons_succ, List.getElem?_cons_zero]; rfl)) (fun K hK => ?_) AllReadyH.nil
  go_simp
  (first | (go_at_call 63; (with_reducible refine (F1 _).mono ?_); rintro e w2 ⟨rfl, rfl⟩) | (go_at_call 63; (with_reducible refine (F2 _).mono ?_); rintro e w2 ⟨rfl, rfl⟩) | (go_at_call 51; (with_reducible refine (S1 _).mono ?_); rintro e w2 ⟨rfl, rfl⟩) | (go_at_call 51; (with_reducible refine (S2 _).mono ?_); rintro e w2 ⟨rfl, rfl⟩))
  (try go_wp2_with fail)
  refine hK.out _ _ (by first | exact hHeld | exact hHeld.up hb) (fun hHeld => ?_)
  clear hK K
  try simp only [Act.put, List.setIfInBounds_toArray, List.set_cons_zero, List.set_cons_succ]
  refine wpAnyH_ready (rs := [16]) (by kernel_rfl) (by simp) ?_
  refine AllReadyH.cons (by (simp only [List.getElem?_toArray, List.getElem?_cons_succ, List.getElem?_cons_zero]; rfl)) (fun K hK => ?_) AllReadyH.nil
  go_simp
  (first | (go_at_call 63; (with_reducible refine (F1 _).mono ?_); rintro e w2 ⟨rfl, rfl⟩) | (go_at_call 63; (with_reducible refine (F2 _).mono ?_); rintro e w2 ⟨rfl, rfl⟩) | (go_at_call 51; (with_reducible refine (S1 _).mono ?_); rintro e w2 ⟨rfl, rfl⟩) | (go_at_call 51; (with_reducible refine (S2 _).mono ?_); rintro e w2 ⟨rfl, rfl⟩))
  (try go_wp2_with fail)
  refine hK.out _ _ (by first | exact hHeld | exact hHeld.up hb) (fun hHeld => ?_)
  clear hK K
  try simp only [Act.put, List.setIfInBounds_toArray, List.set_cons_zero, List.set_cons_succ]
  refine wpAnyH_take (i := 17) (v := ?_) (by (simp only [List.getElem?_toArray, List.getElem?_cons_succ, List.getElem?_cons_zero]; rfl)) (by kernel_rfl) (by kernel_rfl) (by kernel_rfl) (by exact fun _ _ _ h => h) (Or.inl ⟨by rfl, ?_⟩) (by assumption) ?_
  rotate_left
  · (intro wS hS; clear hS; go_simp; try with_reducible rfl)
  try simp only [Act.put, List.setIfInBounds_toArray, List.set_cons_zero, List.set_cons_succ]
  refine wpAnyH_take (i := 18) (v := ?_) (by (simp only [List.getElem?_toArray, List.getElem?_cons_succ, List.getElem?_cons_zero]; rfl)) (by kernel_rfl) (by kernel_rfl) (by kernel_rfl) (by exact fun _ _ _ h => h) (Or.inl ⟨by rfl, ?_⟩) (by assumption) ?_
  rotate_left
  · (intro wS hS; clear hS; go_simp; try with_reducible rfl)
  try simp only [Act.put, List.setIfInBounds_toArray, List.set_cons_zero, List.set_cons_succ]
  refine wpAnyH_ready (rs := [19]) (by kernel_rfl) (by simp) ?_
  refine AllReadyH.cons (by (simp only [List.getElem?_toArray, List.getElem?_cons_succ, List.getElem?_cons_zero]; rfl)) (fun K hK => ?_) AllReadyH.nil
  obtain ⟨ra, rb, hRB⟩ := hHeld.res
  obtain ⟨rn0, rn1, rn2, rn3⟩ := hRB.rd2
  clear hRB
  go_simp
  refine hK.out _ _ (hHeld.two _ _) (fun hHeld => ?_)
  clear hK K
  try simp only [Act.put, List.setIfInBounds_toArray, List.set_cons_zero, List.set_cons_succ]
  refine wpAnyH_done (by kernel_rfl) ?_ _
  go_wp2
  refine bodyPost_ret (by simp only [results, Try.results50]; go_simp; all_goals (first | exact rfl | exact ⟨rfl, rfl⟩ | skip)) rfl ⟨rfl, hHeld.bw b1 (Nat.le_succ _)⟩
theorem step_right (x y : Int) (k : Nat) (k1 : k ≤ 60) (x0 : -1152921504606846976 ≤ x) (x1 : x ≤ 1152921504606846976) (y0 : -1152921504606846976 ≤ y) (y1 : y ≤ 1152921504606846976) (w : World) :
    Calls Try.prog 50 #[.agg #[.int .i64 x, .int .i64 y], .int .i64 k, .int .i64 (-1)] w fun e w' => e = .returned (.agg #[.int .i64 (x + y / 2 ^ k), .int .i64 (y - x / 2 ^ k)]) ∧ Below w.heap.size w w' := by
  obtain ⟨u0, u1⟩ := half_bd x 1152921504606846976 k (by omega) x0 x1
  obtain ⟨v0, v1⟩ := half_bd y 1152921504606846976 k (by omega) y0 y1
  have F1 := implFloorShift_ok x k k1 x0 x1
  have F2 := implFloorShift_ok y k k1 y0 y1
  generalize x / 2 ^ k = u at *
  generalize y / 2 ^ k = v at *
  have S1 := signed_right u u0 u1
  have S2 := signed_right v v0 v1
  have e1 : IntKind.i64.wrap (x - -v) = x + v := by rw [IntWalk.i64_in _ (by omega)]; omega
  have e2 : IntKind.i64.wrap (y + -u) = y - u := by rw [IntWalk.i64_in _ (by omega)]; omega
  have e3 : IntKind.i64.wrap (x + v) = x + v := IntWalk.i64_in _ (by omega)
  have e4 : IntKind.i64.wrap (y - u) = y - u := IntWalk.i64_in _ (by omega)
  clear u0 u1 v0 v1 x0 x1 y0 y1
  have l0 := Blk.new (w.alloc (.cells #[.int .i64 x, .int .i64 y] 24)) 24 #[.int .i64 0, .int .i64 0]
  have l1 := Blk.alloc (Blk.new w 24 #[.int .i64 x, .int .i64 y]) (.cells #[.int .i64 0, .int .i64 0] 24)
  rw [World.size_alloc] at l0
  have b1 : Below w.heap.size w ((w.alloc (.cells #[.int .i64 x, .int .i64 y] 24)).alloc (.cells #[.int .i64 0, .int .i64 0] 24)) := (by repeat (first | exact bw_refl _ | assumption | apply bw_alloc | apply bw_drew | apply bw_drewN | (refine bw_trans ?_ (by assumption)) | (refine bw_set ?_ (by simp only [go_sem]; omega) _)))
  go_enter Try.func50, Try.ntmps50
  go_wp2_with fail
  generalize (w.alloc (.cells #[.int .i64 x, .int .i64 y] 24)).alloc (.cells #[.int .i64 0, .int .i64 0] 24) = W at *
  have z0 := l0.lt
  have z1 := l1.lt
  obtain ⟨g4, g5, -, -⟩ := l1.rd2
  have ne1 : w.heap.size + 1 ≠ w.heap.size := by omega
  have ne2 : w.heap.size ≠ w.heap.size + 1 := by omega
  refine wp_region_keep _ _ l0 (by kernel_rfl) (fun wD hHeld => ?_)
  refine wpAnyH_take (i := 0) (v := ?_) (by (simp only [List.getElem?_toArray, List.getElem?_cons_zero]; rfl)) (by kernel_rfl) (by kernel_rfl) (by kernel_rfl) (by exact fun _ _ _ h => h) (Or.inl ⟨by rfl, ?_⟩) (by assumption) ?_
  rotate_left
  · (intro wS hS; clear hS; go_simp; try with_reducible rfl)
  try simp only [Act.put, List.setIfInBounds_toArray, List.set_cons_zero, List.set_cons_succ]
  refine wpAnyH_take (i := 1) (v := ?_) (by (simp only [List.getElem?_toArray, List.getElem?_cons_succ, List.getElem?_cons_zero]; rfl)) (by kernel_rfl) (by kernel_rfl) (by kernel_rfl) (by exact fun _ _ _ h => h) (Or.inl ⟨by rfl, ?_⟩) (by assumption) ?_
  rotate_left
  · (intro wS hS; have hSc := hS.cells; clear hS; go_simp; try with_reducible rfl)
  try simp only [Act.put, List.setIfInBounds_toArray, List.set_cons_zero, List.set_cons_succ]
  refine wpAnyH_take (i := 2) (v := ?_) (by (simp only [List.getElem?_toArray, List.getElem?_cons_succ, List.getElem?_cons_zero]; rfl)) (by kernel_rfl) (by kernel_rfl) (by kernel_rfl) (by exact fun _ _ _ h => h) (Or.inl ⟨by rfl, ?_⟩) (by assumption) ?_
  rotate_left
  · (intro wS hS; clear hS; go_simp; try with_reducible rfl)
  try simp only [Act.put, List.setIfInBounds_toArray, List.set_cons_zero, List.set_cons_succ]
  refine wpAnyH_take (i := 3) (v := ?_) (by (simp only [List.getElem?_toArray, List.getElem?_cons_succ, List.getElem?_cons_zero]; rfl)) (by kernel_rfl) (by kernel_rfl) (by kernel_rfl) (by exact fun _ _ _ h => h) (Or.inl ⟨by rfl, ?_⟩) (by assumption) ?_
  rotate_left
  · (intro wS hS; have hSc := hS.cells; clear hS; go_simp; try with_reducible rfl)
  try simp only [Act.put, List.setIfInBounds_toArray, List.set_cons_zero, List.set_cons_succ]
  refine wpAnyH_take (i := 4) (v := ?_) (by (simp only [List.getElem?_toArray, List.getElem?_cons_succ, List.getElem?_cons_zero]; rfl)) (by kernel_rfl) (by kernel_rfl) (by kernel_rfl) (by exact fun _ _ _ h => h) (Or.inl ⟨by rfl, ?_⟩) (by assumption) ?_
  rotate_left
  · (intro wS hS; clear hS; go_simp; try with_reducible rfl)
  try simp only [Act.put, List.setIfInBounds_toArray, List.set_cons_zero, List.set_cons_succ]
  refine wpAnyH_take (i := 6) (v := ?_) (by (simp only [List.getElem?_toArray, List.getElem?_cons_succ, List.getElem?_cons_zero]; rfl)) (by kernel_rfl) (by kernel_rfl) (by kernel_rfl) (by exact fun _ _ _ h => h) (Or.inl ⟨by rfl, ?_⟩) (by assumption) ?_
  rotate_left
  · (intro wS hS; clear hS; go_simp; try with_reducible rfl)
  try simp only [Act.put, List.setIfInBounds_toArray, List.set_cons_zero, List.set_cons_succ]
  refine wpAnyH_take (i := 9) (v := ?_) (by (simp only [List.getElem?_toArray, List.getElem?_cons_succ, List.getElem?_cons_zero]; rfl)) (by kernel_rfl) (by kernel_rfl) (by kernel_rfl) (by exact fun _ _ _ h => h) (Or.inl ⟨by rfl, ?_⟩) (by assumption) ?_
  rotate_left
  · (intro wS hS; clear hS; go_simp; try with_reducible rfl)
  try simp only [Act.put, List.setIfInBounds_toArray, List.set_cons_zero, List.set_cons_succ]
  refine wpAnyH_take (i := 10) (v := ?_) (by (simp only [List.getElem?_toArray, List.getElem?_cons_succ, List.getElem?_cons_zero]; rfl)) (by kernel_rfl) (by kernel_rfl) (by kernel_rfl) (by exact fun _ _ _ h => h) (Or.inl ⟨by rfl, ?_⟩) (by assumption) ?_
  rotate_left
  · (intro wS hS; have hSc := hS.cells; clear hS; go_simp; try with_reducible rfl)
  try simp only [Act.put, List.setIfInBounds_toArray, List.set_cons_zero, List.set_cons_succ]
  refine wpAnyH_take (i := 11) (v := ?_) (by (simp only [List.getElem?_toArray, List.getElem?_cons_succ, List.getElem?_cons_zero]; rfl)) (by kernel_rfl) (by kernel_rfl) (by kernel_rfl) (by exact fun _ _ _ h => h) (Or.inl ⟨by rfl, ?_⟩) (by assumption) ?_
  rotate_left
  · (intro wS hS; clear hS; go_simp; try with_reducible rfl)
  try simp only [Act.put, List.setIfInBounds_toArray, List.set_cons_zero, List.set_cons_succ]
  refine wpAnyH_take (i := 12) (v := ?_) (by (simp only [List.getElem?_toArray, List.getElem?_cons_succ, List.getElem?_cons_zero]; rfl)) (by kernel_rfl) (by kernel_rfl) (by kernel_rfl) (by exact fun _ _ _ h => h) (Or.inl ⟨by rfl, ?_⟩) (by assumption) ?_
  rotate_left
  · (intro wS hS; have hSc := hS.cells; clear hS; go_simp; try with_reducible rfl)
  try simp only [Act.put, List.setIfInBounds_toArray, List.set_cons_zero, List.set_cons_succ]
  refine wpAnyH_take (i := 13) (v := ?_) (by (simp only [List.getElem?_toArray, List.getElem?_cons_succ, List.getElem?_cons_zero]; rfl)) (by kernel_rfl) (by kernel_rfl) (by kernel_rfl) (by exact fun _ _ _ h => h) (Or.inl ⟨by rfl, ?_⟩) (by assumption) ?_
  rotate_left
  · (intro wS hS; clear hS; go_simp; try with_reducible rfl)
  try simp only [Act.put, List.setIfInBounds_toArray, List.set_cons_zero, List.set_cons_succ]
  refine wpAnyH_take (i := 15) (v := ?_) (by (simp only [List.getElem?_toArray, List.getElem?_cons_succ, List.getElem?_cons_zero]; rfl)) (by kernel_rfl) (by kernel_rfl) (by kernel_rfl) (by exact fun _ _ _ h => h) (Or.inl ⟨by rfl, ?_⟩) (by assumption) ?_
  rotate_left
  · (intro wS hS; clear hS; go_simp; try with_reducible rfl)
  try simp only [Act.put, List.setIfInBounds_toArray, List.set_cons_zero, List.set_cons_succ]
  refine wpAnyH_ready (rs := [5]) (by kernel_rfl) (by simp) ?_
  refine AllReadyH.cons (by (simp only [List.getElem?_toArray, List.getElem?_cons_succ, List.getElem?_cons_zero]; rfl)) (fun K hK => ?_) AllReadyH.nil
  go_simp
  (first | (go_at_call 63; (with_reducible refine (F1 _).mono ?_); rintro e w2 ⟨rfl, rfl⟩) | (go_at_call 63; (with_reducible refine (F2 _).mono ?_); rintro e w2 ⟨rfl, rfl⟩) | (go_at_call 51; (with_reducible refine (S1 _).mono ?_); rintro e w2 ⟨rfl, rfl⟩) | (go_at_call 51; (with_reducible refine (S2 _).mono ?_); rintro e w2 ⟨rfl, rfl⟩))
  (try go_wp2_with fail)
  refine hK.out _ _ (by first | exact hHeld | exact hHeld.up hb) (fun hHeld => ?_)
  clear hK K
  try simp only [Act.put, List.setIfInBounds_toArray, List.set_cons_zero, List.set_cons_succ]
  refine wpAnyH_ready (rs := [7]) (by kernel_rfl) (by simp) ?_
  refine AllReadyH.cons (by (simp only [List.getElem?_toArray, List.getElem?_cons_succ, List.getElem?_cons_zero]; rfl)) (fun K hK => ?_) AllReadyH.nil
  go_simp
  (first | (go_at_call 63; (with_reducible refine (F1 _).mono ?_); rintro e w2 ⟨rfl, rfl⟩) | (go_at_call 63; (with_reducible refine (F2 _).mono ?_); rintro e w2 ⟨rfl, rfl⟩) | (go_at_call 51; (with_reducible refine (S1 _).mono ?_); rintro e w2 ⟨rfl, rfl⟩) | (go_at_call 51; (with_reducible refine (S2 _).mono ?_); rintro e w2 ⟨rfl, rfl⟩))
  (try go_wp2_with fail)
  refine hK.out _ _ (by first | exact hHeld | exact hHeld.up hb) (fun hHeld => ?_)
  clear hK K
  try simp only [Act.put, List.setIfInBounds_toArray, List.set_cons_zero, List.set_cons_succ]
  refine wpAnyH_take (i := 8) (v := ?_) (by (simp only [List.getElem?_toArray, List.getElem?_cons_succ, List.getElem?_cons_zero]; rfl)) (by kernel_rfl) (by kernel_rfl) (by kernel_rfl) (by exact fun _ _ _ h => h) (Or.inl ⟨by rfl, ?_⟩) (by assumption) ?_
  rotate_left
  · (intro wS hS; clear hS; go_simp; try with_reducible rfl)
  try simp only [Act.put, List.setIfInBounds_toArray, List.set_cons_zero, List.set_cons_succ]
  refine wpAnyH_ready (rs := [14]) (by kernel_rfl) (by simp) ?_
  refine AllReadyH.cons (by (simp only [List.getElem?_toArray, List.getElem?_cons_succ, List.getElem?_cons_zero]; rfl)) (fun K hK => ?_) AllReadyH.nil
  go_simp
  (first | (go_at_call 63; (with_reducible refine (F1 _).mono ?_); rintro e w2 ⟨rfl, rfl⟩) | (go_at_call 63; (with_reducible refine (F2 _).mono ?_); rintro e w2 ⟨rfl, rfl⟩) | (go_at_call 51; (with_reducible refine (S1 _).mono ?_); rintro e w2 ⟨rfl, rfl⟩) | (go_at_call 51; (with_reducible refine (S2 _).mono ?_); rintro e w2 ⟨rfl, rfl⟩))
  (try go_wp2_with fail)
  refine hK.out _ _ (by first | exact hHeld | exact hHeld.up hb) (fun hHeld => ?_)
  clear hK K
  try simp only [Act.put, List.setIfInBounds_toArray, List.set_cons_zero, List.set_cons_succ]
  refine wpAnyH_ready (rs := [16]) (by kernel_rfl) (by simp) ?_
  refine AllReadyH.cons (by (simp only [List.getElem?_toArray, List.getElem?_cons_succ, List.getElem?_cons_zero]; rfl)) (fun K hK => ?_) AllReadyH.nil
  go_simp
  (first | (go_at_call 63; (with_reducible refine (F1 _).mono ?_); rintro e w2 ⟨rfl, rfl⟩) | (go_at_call 63; (with_reducible refine (F2 _).mono ?_); rintro e w2 ⟨rfl, rfl⟩) | (go_at_call 51; (with_reducible refine (S1 _).mono ?_); rintro e w2 ⟨rfl, rfl⟩) | (go_at_call 51; (with_reducible refine (S2 _).mono ?_); rintro e w2 ⟨rfl, rfl⟩))
  (try go_wp2_with fail)
  refine hK.out _ _ (by first | exact hHeld | exact hHeld.up hb) (fun hHeld => ?_)
  clear hK K
  try simp only [Act.put, List.setIfInBounds_toArray, List.set_cons_zero, List.set_cons_succ]
  refine wpAnyH_take (i := 17) (v := ?_) (by (simp only [List.getElem?_toArray, List.getElem?_cons_succ, List.getElem?_cons_zero]; rfl)) (by kernel_rfl) (by kernel_rfl) (by kernel_rfl) (by exact fun _ _ _ h => h) (Or.inl ⟨by rfl, ?_⟩) (by assumption) ?_
  rotate_left
  · (intro wS hS; clear hS; go_simp; try with_reducible rfl)
  try simp only [Act.put, List.setIfInBounds_toArray, List.set_cons_zero, List.set_cons_succ]
  refine wpAnyH_take (i := 18) (v := ?_) (by (simp only [List.getElem?_toArray, List.getElem?_cons_succ, List.getElem?_cons_zero]; rfl)) (by kernel_rfl) (by kernel_rfl) (by kernel_rfl) (by exact fun _ _ _ h => h) (Or.inl ⟨by rfl, ?_⟩) (by assumption) ?_
  rotate_left
  · (intro wS hS; clear hS; go_simp; try with_reducible rfl)
  try simp only [Act.put, List.setIfInBounds_toArray, List.set_cons_zero, List.set_cons_succ]
  refine wpAnyH_ready (rs := [19]) (by kernel_rfl) (by simp) ?_
  refine AllReadyH.cons (by (simp only [List.getElem?_toArray, List.getElem?_cons_succ, List.getElem?_cons_zero]; rfl)) (fun K hK => ?_) AllReadyH.nil
  obtain ⟨ra, rb, hRB⟩ := hHeld.res
  obtain ⟨rn0, rn1, rn2, rn3⟩ := hRB.rd2
  clear hRB
  go_simp
  refine hK.out _ _ (hHeld.two _ _) (fun hHeld => ?_)
  clear hK K
  try simp only [Act.put, List.setIfInBounds_toArray, List.set_cons_zero, List.set_cons_succ]
  refine wpAnyH_done (by kernel_rfl) ?_ _
  go_wp2
  refine bodyPost_ret (by simp only [results, Try.results50]; go_simp; all_goals (first | exact rfl | exact ⟨rfl, rfl⟩ | skip)) rfl ⟨rfl, hHeld.bw b1 (Nat.le_succ _)⟩
theorem l14Step_ok (x y : Int) (k : Nat) (b : Bool) (k1 : k ≤ 60) (x0 : -1152921504606846976 ≤ x) (x1 : x ≤ 1152921504606846976) (y0 : -1152921504606846976 ≤ y) (y1 : y ≤ 1152921504606846976) (w : World) :
    Calls Try.prog 56 #[.agg #[.int .i64 x, .int .i64 y], .int .i64 k, .bool b] w fun e w' => e = .returned (.agg #[.int .i64 (if b = true then x - y / 2 ^ k else x + y / 2 ^ k), .int .i64 (if b = true then y + x / 2 ^ k else y - x / 2 ^ k)]) ∧ Below w.heap.size w w' := by
  obtain ⟨u0, u1⟩ := half_bd x 1152921504606846976 k (by omega) x0 x1
  obtain ⟨v0, v1⟩ := half_bd y 1152921504606846976 k (by omega) y0 y1
  obtain ⟨p0, p1⟩ := pow2_bd k 60 k1
  have c60 : (2 : Int) ^ 60 = 1152921504606846976 := by decide
  rw [c60] at p1
  have F1 := l1Floor_any x (2 ^ k) (by omega) (by omega) (by omega) (by omega)
  have F2 := l1Floor_any y (2 ^ k) (by omega) (by omega) (by omega) (by omega)
  have PW : IntKind.i64.wrap (2 ^ k) = 2 ^ k := IntWalk.i64_in _ (by omega)
  generalize x / 2 ^ k = u at *
  generalize y / 2 ^ k = v at *
  have k0 : (0 : Int) ≤ (k : Int) := by omega
  have k2 : min k 64 = k := by omega
  have k3 : (k : Int).toNat = k := Int.toNat_natCast _
  clear c60
  have l0 := Blk.new (w.alloc (.cells #[.int .i64 x, .int .i64 y] 24)) 24 #[.int .i64 0, .int .i64 0]
  have l1 := Blk.alloc (Blk.new w 24 #[.int .i64 x, .int .i64 y]) (.cells #[.int .i64 0, .int .i64 0] 24)
  rw [World.size_alloc] at l0
  have b1 : Below w.heap.size w ((w.alloc (.cells #[.int .i64 x, .int .i64 y] 24)).alloc (.cells #[.int .i64 0, .int .i64 0] 24)) := (by repeat (first | exact bw_refl _ | assumption | apply bw_alloc | apply bw_drew | apply bw_drewN | (refine bw_trans ?_ (by assumption)) | (refine bw_set ?_ (by simp only [go_sem]; omega) _)))
  go_enter Try.func56, Try.ntmps56
  go_upto_region 1 with fail
  generalize (w.alloc (.cells #[.int .i64 x, .int .i64 y] 24)).alloc (.cells #[.int .i64 0, .int .i64 0] 24) = W at *
  have z0 := l0.lt
  have z1 := l1.lt
  obtain ⟨g4, g5, -, -⟩ := l1.rd2
  refine wp_region_below (by kernel_rfl) (fun wD hHeld => ?_)
  refine wpAnyH_take (i := 0) (v := ?_) (by (simp only [List.getElem?_toArray, List.getElem?_cons_zero]; rfl)) (by kernel_rfl) (by kernel_rfl) (by kernel_rfl) (by exact fun _ _ _ h => h) (Or.inl ⟨by rfl, ?_⟩) (by assumption) ?_
  rotate_left
  · (intro wS hS; clear hS; go_simp; try with_reducible rfl)
  try simp only [Act.put, List.setIfInBounds_toArray, List.set_cons_zero, List.set_cons_succ]
  refine wpAnyH_take (i := 1) (v := ?_) (by (simp only [List.getElem?_toArray, List.getElem?_cons_succ, List.getElem?_cons_zero]; rfl)) (by kernel_rfl) (by kernel_rfl) (by kernel_rfl) (by exact fun _ _ _ h => h) (Or.inl ⟨by rfl, ?_⟩) (by assumption) ?_
  rotate_left
  · (intro wS hS; have hSc := (bcell hS).1; clear hS; go_simp; try with_reducible rfl)
  try simp only [Act.put, List.setIfInBounds_toArray, List.set_cons_zero, List.set_cons_succ]
  refine wpAnyH_take (i := 2) (v := ?_) (by (simp only [List.getElem?_toArray, List.getElem?_cons_succ, List.getElem?_cons_zero]; rfl)) (by kernel_rfl) (by kernel_rfl) (by kernel_rfl) (by exact fun _ _ _ h => h) (Or.inl ⟨by rfl, ?_⟩) (by assumption) ?_
  rotate_left
  · (intro wS hS; clear hS; go_simp; try with_reducible rfl)
  try simp only [Act.put, List.setIfInBounds_toArray, List.set_cons_zero, List.set_cons_succ]
  refine wpAnyH_take (i := 3) (v := ?_) (by (simp only [List.getElem?_toArray, List.getElem?_cons_succ, List.getElem?_cons_zero]; rfl)) (by kernel_rfl) (by kernel_rfl) (by kernel_rfl) (by exact fun _ _ _ h => h) (Or.inl ⟨by rfl, ?_⟩) (by assumption) ?_
  rotate_left
  · (intro wS hS; clear hS; go_simp; try with_reducible rfl)
  try simp only [Act.put, List.setIfInBounds_toArray, List.set_cons_zero, List.set_cons_succ]
  refine wpAnyH_ready (rs := [4]) (by kernel_rfl) (by simp) ?_
  refine AllReadyH.cons (by (simp only [List.getElem?_toArray, List.getElem?_cons_succ, List.getElem?_cons_zero]; rfl)) (fun K hK => ?_) AllReadyH.nil
  go_simp
  ((go_at_call 42; (with_reducible refine (F1 _).mono ?_); rintro e w2 ⟨rfl, rfl⟩))
  (try go_wp2_with fail)
  refine hK.out _ _ (by repeat (first | exact bw_refl _ | assumption | apply bw_alloc | apply bw_drew | apply bw_drewN | (refine bw_trans ?_ (by assumption)) | (refine bw_set ?_ (by simp only [go_sem]; omega) _))) (fun hHeld => ?_)
  clear hK K
  try simp only [Act.put, List.setIfInBounds_toArray, List.set_cons_zero, List.set_cons_succ]
  refine wpAnyH_take (i := 5) (v := ?_) (by (simp only [List.getElem?_toArray, List.getElem?_cons_succ, List.getElem?_cons_zero]; rfl)) (by kernel_rfl) (by kernel_rfl) (by kernel_rfl) (by exact fun _ _ _ h => h) (Or.inl ⟨by rfl, ?_⟩) (by assumption) ?_
  rotate_left
  · (intro wS hS; clear hS; go_simp; try with_reducible rfl)
  try simp only [Act.put, List.setIfInBounds_toArray, List.set_cons_zero, List.set_cons_succ]
  refine wpAnyH_done (by kernel_rfl) ?_ _
  replace l0 := l0.up hHeld
  replace l1 := l1.up hHeld
  replace b1 := bw_trans b1 hHeld
  clear hHeld g4 g5 z0 z1
  have z0 := l0.lt
  have z1 := l1.lt
  obtain ⟨g4, g5, -, -⟩ := l1.rd2
  go_upto_region 2 with fail
  refine wp_region_below (by kernel_rfl) (fun wD hHeld => ?_)
  refine wpAnyH_take (i := 0) (v := ?_) (by (simp only [List.getElem?_toArray, List.getElem?_cons_zero]; rfl)) (by kernel_rfl) (by kernel_rfl) (by kernel_rfl) (by exact fun _ _ _ h => h) (Or.inl ⟨by rfl, ?_⟩) (by assumption) ?_
  rotate_left
  · (intro wS hS; clear hS; go_simp; try with_reducible rfl)
  try simp only [Act.put, List.setIfInBounds_toArray, List.set_cons_zero, List.set_cons_succ]
  refine wpAnyH_take (i := 1) (v := ?_) (by (simp only [List.getElem?_toArray, List.getElem?_cons_succ, List.getElem?_cons_zero]; rfl)) (by kernel_rfl) (by kernel_rfl) (by kernel_rfl) (by exact fun _ _ _ h => h) (Or.inl ⟨by rfl, ?_⟩) (by assumption) ?_
  rotate_left
  · (intro wS hS; have hSc := (bcell hS).1; clear hS; go_simp; try with_reducible rfl)
  try simp only [Act.put, List.setIfInBounds_toArray, List.set_cons_zero, List.set_cons_succ]
  refine wpAnyH_take (i := 2) (v := ?_) (by (simp only [List.getElem?_toArray, List.getElem?_cons_succ, List.getElem?_cons_zero]; rfl)) (by kernel_rfl) (by kernel_rfl) (by kernel_rfl) (by exact fun _ _ _ h => h) (Or.inl ⟨by rfl, ?_⟩) (by assumption) ?_
  rotate_left
  · (intro wS hS; clear hS; go_simp; try with_reducible rfl)
  try simp only [Act.put, List.setIfInBounds_toArray, List.set_cons_zero, List.set_cons_succ]
  refine wpAnyH_take (i := 3) (v := ?_) (by (simp only [List.getElem?_toArray, List.getElem?_cons_succ, List.getElem?_cons_zero]; rfl)) (by kernel_rfl) (by kernel_rfl) (by kernel_rfl) (by exact fun _ _ _ h => h) (Or.inl ⟨by rfl, ?_⟩) (by assumption) ?_
  rotate_left
  · (intro wS hS; clear hS; go_simp; try with_reducible rfl)
  try simp only [Act.put, List.setIfInBounds_toArray, List.set_cons_zero, List.set_cons_succ]
  refine wpAnyH_ready (rs := [4]) (by kernel_rfl) (by simp) ?_
  refine AllReadyH.cons (by (simp only [List.getElem?_toArray, List.getElem?_cons_succ, List.getElem?_cons_zero]; rfl)) (fun K hK => ?_) AllReadyH.nil
  go_simp
  ((go_at_call 42; (with_reducible refine (F2 _).mono ?_); rintro e w2 ⟨rfl, rfl⟩))
  (try go_wp2_with fail)
  refine hK.out _ _ (by repeat (first | exact bw_refl _ | assumption | apply bw_alloc | apply bw_drew | apply bw_drewN | (refine bw_trans ?_ (by assumption)) | (refine bw_set ?_ (by simp only [go_sem]; omega) _))) (fun hHeld => ?_)
  clear hK K
  try simp only [Act.put, List.setIfInBounds_toArray, List.set_cons_zero, List.set_cons_succ]
  refine wpAnyH_take (i := 5) (v := ?_) (by (simp only [List.getElem?_toArray, List.getElem?_cons_succ, List.getElem?_cons_zero]; rfl)) (by kernel_rfl) (by kernel_rfl) (by kernel_rfl) (by exact fun _ _ _ h => h) (Or.inl ⟨by rfl, ?_⟩) (by assumption) ?_
  rotate_left
  · (intro wS hS; clear hS; go_simp; try with_reducible rfl)
  try simp only [Act.put, List.setIfInBounds_toArray, List.set_cons_zero, List.set_cons_succ]
  refine wpAnyH_done (by kernel_rfl) ?_ _
  replace l0 := l0.up hHeld
  replace l1 := l1.up hHeld
  replace b1 := bw_trans b1 hHeld
  clear hHeld g4 g5 z0 z1 F1 F2
  obtain ⟨g4, g5, -, -⟩ := l1.rd2
  obtain ⟨g6, g7, g8, g9⟩ := l0.rd2
  cases b
  · go_wp2
    refine bodyPost_ret (by simp only [results, Try.results56]; go_simp; all_goals (first | exact rfl | exact ⟨rfl, rfl⟩ | skip)) rfl ⟨rfl, (by repeat (first | exact bw_refl _ | assumption | apply bw_alloc | apply bw_drew | apply bw_drewN | (refine bw_trans ?_ (by assumption)) | (refine bw_set ?_ (by simp only [go_sem]; omega) _)))⟩
  · go_wp2
    refine bodyPost_ret (by simp only [results, Try.results56]; go_simp; all_goals (first | exact rfl | exact ⟨rfl, rfl⟩ | skip)) rfl ⟨rfl, (by repeat (first | exact bw_refl _ | assumption | apply bw_alloc | apply bw_drew | apply bw_drewN | (refine bw_trans ?_ (by assumption)) | (refine bw_set ?_ (by simp only [go_sem]; omega) _)))⟩
end Go.Proofs.Ytndpmcegealhiaa
