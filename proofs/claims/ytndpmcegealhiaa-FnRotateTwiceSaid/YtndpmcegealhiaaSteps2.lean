/- The contract of the row of the angles of the steps; condition: twenty of them. -/
import Derived.Test.YtndpmcegealhiaaSteps
namespace Go.Proofs.Ytndpmcegealhiaa
open Go.RowKit
set_option linter.unusedVariables false
set_option linter.unusedSimpArgs false
set_option maxHeartbeats 2000000

/-- A row of the twenty angles of steps, of the call's own. -/
def IsSteps (w : World) (e : Ending) (w' : World) : Prop := ∃ (g : Nat) (ys : List Int), e = .returned (.slice (some ⟨g, 0, none⟩) 20 20) ∧ ys.length = 20 ∧ (∀ j, j < 20 → ys.getD j 0 = stepAt j) ∧ Row w' g ys ∧ Below w.heap.size w w' ∧ w.heap.size ≤ g
theorem implStepAngles_20 (w : World) : Calls Try.prog 49 #[.int .i64 20] w (IsSteps w) := by
  have hmk : (Instr.makeSlice 51 (.int .i64 20) (.int .i64 20)).run Try.prog w = .ok (.slice (some ⟨w.heap.size, 0, none⟩) 20 20) (w.alloc (.cells (madeCells #[.int .i64 0] 20) 3)) := by kernel_rfl
  have hR := Row.made w 20
  go_enter Try.func49, Try.ntmps49
  go_wp2_with fail
  clear hmk
  refine (implPiSpan_any _).mono ?_
  rintro e w1 ⟨rfl, hb⟩
  replace hR := hR.up hb
  have b1 : Below w.heap.size w w1 := (by repeat (first | exact bw_refl _ | assumption | apply bw_alloc | apply bw_drew | apply bw_drewN | (refine bw_trans ?_ (by assumption)) | (refine bw_set ?_ (by simp only [go_sem]; omega) _)))
  have z1 := hR.lt
  clear hb
  have l4 := Blk.new w1 62 #[.int .i64 843314816, .int .i64 843314944]
  replace hR := hR.alloc (.cells #[.int .i64 843314816, .int .i64 843314944] 62)
  obtain ⟨g4, hg4⟩ : ∃ g, w1.heap.size = g := ⟨_, rfl⟩
  rw [hg4] at l4 z1
  go_wp2
  go_loopw [19] (fun i wr => ∃ (k : Nat) (ys : List Int), k ≤ 20 ∧ i = .int .i64 k ∧ ys.length = 20 ∧ (∀ j, j < k → ys.getD j 0 = stepAt j) ∧ Row wr w.heap.size ys ∧ Blk wr g4 62 #[.int .i64 843314816, .int .i64 843314944] ∧ Below w.heap.size w wr)
    (fun i _ => 20 - (intOf i).toNat)
  case atStart => exact ⟨0, _, Nat.zero_le _, rfl, by simp, fun j hj => by omega, hR, l4, (by repeat (first | exact bw_refl _ | assumption | apply bw_alloc | apply bw_drew | apply bw_drewN | (refine bw_trans ?_ (by assumption)) | (refine bw_set ?_ (by simp only [go_sem]; omega) _)))⟩
  case round =>
    clear hR l4 b1 hg4
    obtain ⟨k, ys, hk, rfl, hy, he, hR, l4, hb⟩ := hrel
    have HE := Lib.hid he
    have HY := Lib.hid hy
    clear he hy
    by_cases hlt : k < 20
    · have hd1 := hR.cell (j := k) (by rw [HY.out]; exact hlt)
      have hf1 := hR.frozen k
      have i0 : (0 : Int) ≤ (k : Int) := by omega
      have i1 : (k : Int) < 20 := by omega
      have i2 : (k : Int).toNat = k := Int.toNat_natCast _
      obtain ⟨old, hold⟩ : ∃ x, ys.getD k 0 = x := ⟨_, rfl⟩
      rw [hold] at hd1
      clear hold
      have hrow : ∀ (v : Int) (w' : World), v = stepAt k → ∀ j, j < k + 1 → (ys.set k v).getD j 0 = stepAt j := fun v w' hv j hj => by
        by_cases hjk : j = k
        · subst hjk; rw [getD_set_eq _ _ _ (by rw [HY.out]; exact hlt)]; exact hv
        · rw [getD_set_ne _ _ _ _ hjk]; exact HE.out j (by omega)
      have HROW := Lib.hid hrow
      clear hrow
      rcases Nat.eq_zero_or_pos k with hz | hz
      · subst hz
        go_wp2
        go_roundw
        case rel => exact ⟨1, ys.set 0 8388608, by omega, by go_num, by simp [HY.out], HROW.out _ wr rfl, hR.set_ 0 _, Blk.far (p := ⟨w.heap.size, 0, none⟩) l4 (Nat.ne_of_gt z1) _, bw_set (p := ⟨w.heap.size, 0, none⟩) hb (Nat.le_refl _) _⟩
        case measure => simp [intOf] <;> omega
      · have q0 : ((k : Int) == 0) = false := beq_eq_false_iff_ne.2 (by omega)
        by_cases h16 : k < 17
        · have q1 : (k : Int) ≤ 16 := by omega
          obtain ⟨n, x, y, D, E, hn, ho, hx, hy, hxy, x0, hD, hE, hDE, hs⟩ := step_facts k hz h16
          obtain ⟨p0, p1⟩ := pow_17 k h16 hz
          have M1 := implArcSpan_ok (2 ^ k) n p0 p1 hn ho
          unfold arcPost at M1
          rw [hx, hy] at M1
          have M2 := implSpanDiv_yes x y 843314816 843314944 hxy (by decide) x0 (by decide) (by rw [hD, hE]; exact hDE)
          unfold divPost at M2
          rw [hD, hE] at M2
          obtain ⟨⟨d0, d1⟩, ⟨e0, e1'⟩, -⟩ := (spOk_iff D E).1 hDE
          obtain ⟨r0, r1⟩ := rdiv_bd2 (D + E) 2147483648 (by omega) (by omega) (by omega)
          have HS := Lib.hid hs
          have R := Lib.hid r0
          have R1 := Lib.hid r1
          have PW : IntKind.i64.wrap (2 ^ k) = 2 ^ k := IntWalk.i64_in _ (by omega)
          clear hx hy hD hE hDE hxy hs r0 r1 ho
          obtain ⟨c0, c1, -, -⟩ := l4.rd2
          have z4 := l4.lt
          have z0 := hR.lt
          have u1 : IntKind.u64.wrap (k : Int) = (k : Int) := IntWalk.u64_in _ (by omega)
          have u2 : min k 64 = k := by omega
          have hbr := hb
          go_upto_region 12 with fail
          refine wp_region_below (by kernel_rfl) (fun wD hHeld => ?_)
          refine wpAnyH_take (i := 0) (v := ?_) (by (simp only [List.getElem?_toArray, List.getElem?_cons_zero]; rfl)) (by kernel_rfl) (by kernel_rfl) (by kernel_rfl) (by exact fun _ _ _ h => h) (Or.inl ⟨by rfl, ?_⟩) (by assumption) ?_
          rotate_left
          · (intro wS hS; clear hS; go_simp; try with_reducible rfl)
          try simp only [Act.put, List.setIfInBounds_toArray, List.set_cons_zero, List.set_cons_succ]
          refine wpAnyH_take (i := 1) (v := ?_) (by (simp only [List.getElem?_toArray, List.getElem?_cons_succ, List.getElem?_cons_zero]; rfl)) (by kernel_rfl) (by kernel_rfl) (by kernel_rfl) (by exact fun _ _ _ h => h) (Or.inl ⟨by rfl, ?_⟩) (by assumption) ?_
          rotate_left
          · (intro wS hS; clear hS; go_simp; try with_reducible rfl)
          try simp only [Act.put, List.setIfInBounds_toArray, List.set_cons_zero, List.set_cons_succ]
          refine wpAnyH_take (i := 2) (v := ?_) (by (simp only [List.getElem?_toArray, List.getElem?_cons_succ, List.getElem?_cons_zero]; rfl)) (by kernel_rfl) (by kernel_rfl) (by kernel_rfl) (by exact fun _ _ _ h => h) (Or.inl ⟨by rfl, ?_⟩) (by assumption) ?_
          rotate_left
          · (intro wS hS; clear hS; go_simp; try with_reducible rfl)
          try simp only [Act.put, List.setIfInBounds_toArray, List.set_cons_zero, List.set_cons_succ]
          refine wpAnyH_take (i := 4) (v := ?_) (by (simp only [List.getElem?_toArray, List.getElem?_cons_succ, List.getElem?_cons_zero]; rfl)) (by kernel_rfl) (by kernel_rfl) (by kernel_rfl) (by exact fun _ _ _ h => h) (Or.inl ⟨by rfl, ?_⟩) (by assumption) ?_
          rotate_left
          · (intro wS hS; have hSc := (bcell hS).1; clear hS; go_simp; try with_reducible rfl)
          try simp only [Act.put, List.setIfInBounds_toArray, List.set_cons_zero, List.set_cons_succ]
          refine wpAnyH_ready (rs := [3, 9]) (by kernel_rfl) (by simp) ?_
          refine AllReadyH.cons (by (simp only [List.getElem?_toArray, List.getElem?_cons_succ, List.getElem?_cons_zero]; rfl)) (fun K hK => ?_) (AllReadyH.cons (by (simp only [List.getElem?_toArray, List.getElem?_cons_succ, List.getElem?_cons_zero]; rfl)) (fun K hK => ?_) AllReadyH.nil)
          · go_simp
            (first | (go_at_call 61; (with_reducible refine (M1 _).mono ?_); rintro e w3 ⟨rfl, hb3⟩; try replace hnew := heap_keep hb3 hnew) | (go_at_call 52; (with_reducible refine (M2 _).mono ?_); rintro e w4 ⟨rfl, hb4⟩; try replace hnew := heap_keep hb4 hnew))
            (try go_wp2_with fail)
            refine hK.out _ _ (by repeat (first | exact bw_refl _ | assumption | apply bw_alloc | apply bw_drew | apply bw_drewN | (refine bw_trans ?_ (by assumption)) | (refine bw_set ?_ (by simp only [go_sem]; omega) _))) (fun hHeld => ?_)
            clear hK K
            try simp only [Act.put, List.setIfInBounds_toArray, List.set_cons_zero, List.set_cons_succ]
            refine wpAnyH_ready (rs := [5, 9]) (by kernel_rfl) (by simp) ?_
            refine AllReadyH.cons (by (simp only [List.getElem?_toArray, List.getElem?_cons_succ, List.getElem?_cons_zero]; rfl)) (fun K hK => ?_) (AllReadyH.cons (by (simp only [List.getElem?_toArray, List.getElem?_cons_succ, List.getElem?_cons_zero]; rfl)) (fun K hK => ?_) AllReadyH.nil)
            · go_simp
              (first | (go_at_call 61; (with_reducible refine (M1 _).mono ?_); rintro e w3 ⟨rfl, hb3⟩; try replace hnew := heap_keep hb3 hnew) | (go_at_call 52; (with_reducible refine (M2 _).mono ?_); rintro e w4 ⟨rfl, hb4⟩; try replace hnew := heap_keep hb4 hnew))
              (try go_wp2_with fail)
              refine hK.out _ _ (by repeat (first | exact bw_refl _ | assumption | apply bw_alloc | apply bw_drew | apply bw_drewN | (refine bw_trans ?_ (by assumption)) | (refine bw_set ?_ (by simp only [go_sem]; omega) _))) (fun hHeld => ?_)
              clear hK K
              try simp only [Act.put, List.setIfInBounds_toArray, List.set_cons_zero, List.set_cons_succ]
              refine wpAnyH_take (i := 6) (v := ?_) (by (simp only [List.getElem?_toArray, List.getElem?_cons_succ, List.getElem?_cons_zero]; rfl)) (by kernel_rfl) (by kernel_rfl) (by kernel_rfl) (by exact fun _ _ _ h => h) (Or.inl ⟨by rfl, ?_⟩) (by assumption) ?_
              rotate_left
              · (intro wS hS; clear hS; go_simp; try with_reducible rfl)
              try simp only [Act.put, List.setIfInBounds_toArray, List.set_cons_zero, List.set_cons_succ]
              refine wpAnyH_take (i := 7) (v := ?_) (by (simp only [List.getElem?_toArray, List.getElem?_cons_succ, List.getElem?_cons_zero]; rfl)) (by kernel_rfl) (by kernel_rfl) (by kernel_rfl) (by exact fun _ _ _ h => h) (Or.inl ⟨by rfl, ?_⟩) (by assumption) ?_
              rotate_left
              · (intro wS hS; clear hS; go_simp; try with_reducible rfl)
              try simp only [Act.put, List.setIfInBounds_toArray, List.set_cons_zero, List.set_cons_succ]
              refine wpAnyH_take (i := 8) (v := ?_) (by (simp only [List.getElem?_toArray, List.getElem?_cons_succ, List.getElem?_cons_zero]; rfl)) (by kernel_rfl) (by kernel_rfl) (by kernel_rfl) (by exact fun _ _ _ h => h) (Or.inl ⟨by rfl, ?_⟩) (by assumption) ?_
              rotate_left
              · (intro wS hS; clear hS; go_simp; try with_reducible rfl)
              try simp only [Act.put, List.setIfInBounds_toArray, List.set_cons_zero, List.set_cons_succ]
              refine wpAnyH_ready (rs := [9]) (by kernel_rfl) (by simp) ?_
              refine AllReadyH.cons (by (simp only [List.getElem?_toArray, List.getElem?_cons_succ, List.getElem?_cons_zero]; rfl)) (fun K hK => ?_) AllReadyH.nil
              go_simp
              have hge := hHeld.size
              refine alloc_step (fun wa hb hnew => ?_)
              refine hK.out _ _ (by repeat (first | exact bw_refl _ | assumption | apply bw_alloc | apply bw_drew | apply bw_drewN | (refine bw_trans ?_ (by assumption)) | (refine bw_set ?_ (by simp only [go_sem]; omega) _))) (fun hHeld => ?_)
              clear hK K
              try simp only [Act.put, List.setIfInBounds_toArray, List.set_cons_zero, List.set_cons_succ]
              refine wpAnyH_ready (rs := [10]) (by kernel_rfl) (by simp) ?_
              refine AllReadyH.cons (by (simp only [List.getElem?_toArray, List.getElem?_cons_succ, List.getElem?_cons_zero]; rfl)) (fun K hK => ?_) AllReadyH.nil
              have n0 := Blk.cell hnew 0; have n1 := Blk.cell hnew 1; have m0 := Blk.frozen hnew 0; have m1 := Blk.frozen hnew 1; simp at n0 n1
              go_simp
              have hfin := Blk.two hnew (.int .i64 D) (.int .i64 E)
              refine hK.out _ _ (by refine bw_set (bw_set ?_ ?_ _) ?_ _ <;> first | exact (by repeat (first | exact bw_refl _ | assumption | apply bw_alloc | apply bw_drew | apply bw_drewN | (refine bw_trans ?_ (by assumption)) | (refine bw_set ?_ (by simp only [go_sem]; omega) _))) | exact hge | (simp at hge ⊢; omega)) (fun hHeld => ?_)
              clear hK K
              try simp only [Act.put, List.setIfInBounds_toArray, List.set_cons_zero, List.set_cons_succ]
              refine wpAnyH_take (i := 11) (v := ?_) (by (simp only [List.getElem?_toArray, List.getElem?_cons_succ, List.getElem?_cons_zero]; rfl)) (by kernel_rfl) (by kernel_rfl) (by kernel_rfl) (by exact fun _ _ _ h => h) (Or.inl ⟨by rfl, ?_⟩) (by assumption) ?_
              rotate_left
              · (intro wS hS; clear hS; go_simp; try with_reducible rfl)
              try simp only [Act.put, List.setIfInBounds_toArray, List.set_cons_zero, List.set_cons_succ]
              refine wpAnyH_done (by kernel_rfl) ?_ _
              have R2 := hR.up hHeld
              have L2 := l4.up hHeld
              have B2 := bw_trans hbr hHeld
              have s1 := R2.cell (j := k) (by rw [HY.out]; exact hlt)
              have s2 := R2.frozen k
              obtain ⟨n0, n1, -, -⟩ := hfin.rd2
              obtain ⟨old2, hold2⟩ : ∃ x, ys.getD k 0 = x := ⟨_, rfl⟩
              rw [hold2] at s1
              clear hold2 hd1 hf1
              go_wp2_with fail
              refine (implRoundDiv_ok (D + E) 2 (by omega) (by omega) (by omega) (by omega) _).mono ?_
              rintro e w5 ⟨rfl, rfl⟩
              go_wp2_with fail
              refine (implRoundDiv_ok (rdiv (D + E) 2) 8 (by omega) (by omega) (by have := R.out; omega) (by have := R1.out; omega) _).mono ?_
              rintro e w6 ⟨rfl, rfl⟩
              go_wp2
              go_roundw
              case rel => exact ⟨k + 1, ys.set k (rdiv (rdiv (D + E) 2) 8), by omega, by go_num, by simp [HY.out], HROW.out _ wr HS.out.symm, R2.set_ k _, Blk.far (p := ⟨w.heap.size, k, none⟩) L2 (Nat.ne_of_gt z1) _, bw_set (p := ⟨w.heap.size, k, none⟩) B2 (Nat.le_refl _) _⟩
              case measure => simp [intOf]; omega
            · go_simp
              have hge := hHeld.size
              refine alloc_step (fun wa hb hnew => ?_)
              refine hK.out _ _ (by repeat (first | exact bw_refl _ | assumption | apply bw_alloc | apply bw_drew | apply bw_drewN | (refine bw_trans ?_ (by assumption)) | (refine bw_set ?_ (by simp only [go_sem]; omega) _))) (fun hHeld => ?_)
              clear hK K
              try simp only [Act.put, List.setIfInBounds_toArray, List.set_cons_zero, List.set_cons_succ]
              refine wpAnyH_ready (rs := [5]) (by kernel_rfl) (by simp) ?_
              refine AllReadyH.cons (by (simp only [List.getElem?_toArray, List.getElem?_cons_succ, List.getElem?_cons_zero]; rfl)) (fun K hK => ?_) AllReadyH.nil
              go_simp
              (first | (go_at_call 61; (with_reducible refine (M1 _).mono ?_); rintro e w3 ⟨rfl, hb3⟩; try replace hnew := heap_keep hb3 hnew) | (go_at_call 52; (with_reducible refine (M2 _).mono ?_); rintro e w4 ⟨rfl, hb4⟩; try replace hnew := heap_keep hb4 hnew))
              (try go_wp2_with fail)
              refine hK.out _ _ (by repeat (first | exact bw_refl _ | assumption | apply bw_alloc | apply bw_drew | apply bw_drewN | (refine bw_trans ?_ (by assumption)) | (refine bw_set ?_ (by simp only [go_sem]; omega) _))) (fun hHeld => ?_)
              clear hK K
              try simp only [Act.put, List.setIfInBounds_toArray, List.set_cons_zero, List.set_cons_succ]
              refine wpAnyH_take (i := 6) (v := ?_) (by (simp only [List.getElem?_toArray, List.getElem?_cons_succ, List.getElem?_cons_zero]; rfl)) (by kernel_rfl) (by kernel_rfl) (by kernel_rfl) (by exact fun _ _ _ h => h) (Or.inl ⟨by rfl, ?_⟩) (by assumption) ?_
              rotate_left
              · (intro wS hS; clear hS; go_simp; try with_reducible rfl)
              try simp only [Act.put, List.setIfInBounds_toArray, List.set_cons_zero, List.set_cons_succ]
              refine wpAnyH_take (i := 7) (v := ?_) (by (simp only [List.getElem?_toArray, List.getElem?_cons_succ, List.getElem?_cons_zero]; rfl)) (by kernel_rfl) (by kernel_rfl) (by kernel_rfl) (by exact fun _ _ _ h => h) (Or.inl ⟨by rfl, ?_⟩) (by assumption) ?_
              rotate_left
              · (intro wS hS; clear hS; go_simp; try with_reducible rfl)
              try simp only [Act.put, List.setIfInBounds_toArray, List.set_cons_zero, List.set_cons_succ]
              refine wpAnyH_take (i := 8) (v := ?_) (by (simp only [List.getElem?_toArray, List.getElem?_cons_succ, List.getElem?_cons_zero]; rfl)) (by kernel_rfl) (by kernel_rfl) (by kernel_rfl) (by exact fun _ _ _ h => h) (Or.inl ⟨by rfl, ?_⟩) (by assumption) ?_
              rotate_left
              · (intro wS hS; clear hS; go_simp; try with_reducible rfl)
              try simp only [Act.put, List.setIfInBounds_toArray, List.set_cons_zero, List.set_cons_succ]
              refine wpAnyH_ready (rs := [10]) (by kernel_rfl) (by simp) ?_
              refine AllReadyH.cons (by (simp only [List.getElem?_toArray, List.getElem?_cons_succ, List.getElem?_cons_zero]; rfl)) (fun K hK => ?_) AllReadyH.nil
              have n0 := Blk.cell hnew 0; have n1 := Blk.cell hnew 1; have m0 := Blk.frozen hnew 0; have m1 := Blk.frozen hnew 1; simp at n0 n1
              go_simp
              have hfin := Blk.two hnew (.int .i64 D) (.int .i64 E)
              refine hK.out _ _ (by refine bw_set (bw_set ?_ ?_ _) ?_ _ <;> first | exact (by repeat (first | exact bw_refl _ | assumption | apply bw_alloc | apply bw_drew | apply bw_drewN | (refine bw_trans ?_ (by assumption)) | (refine bw_set ?_ (by simp only [go_sem]; omega) _))) | exact hge | (simp at hge ⊢; omega)) (fun hHeld => ?_)
              clear hK K
              try simp only [Act.put, List.setIfInBounds_toArray, List.set_cons_zero, List.set_cons_succ]
              refine wpAnyH_take (i := 11) (v := ?_) (by (simp only [List.getElem?_toArray, List.getElem?_cons_succ, List.getElem?_cons_zero]; rfl)) (by kernel_rfl) (by kernel_rfl) (by kernel_rfl) (by exact fun _ _ _ h => h) (Or.inl ⟨by rfl, ?_⟩) (by assumption) ?_
              rotate_left
              · (intro wS hS; clear hS; go_simp; try with_reducible rfl)
              try simp only [Act.put, List.setIfInBounds_toArray, List.set_cons_zero, List.set_cons_succ]
              refine wpAnyH_done (by kernel_rfl) ?_ _
              have R2 := hR.up hHeld
              have L2 := l4.up hHeld
              have B2 := bw_trans hbr hHeld
              have s1 := R2.cell (j := k) (by rw [HY.out]; exact hlt)
              have s2 := R2.frozen k
              obtain ⟨n0, n1, -, -⟩ := hfin.rd2
              obtain ⟨old2, hold2⟩ : ∃ x, ys.getD k 0 = x := ⟨_, rfl⟩
              rw [hold2] at s1
              clear hold2 hd1 hf1
              go_wp2_with fail
              refine (implRoundDiv_ok (D + E) 2 (by omega) (by omega) (by omega) (by omega) _).mono ?_
              rintro e w5 ⟨rfl, rfl⟩
              go_wp2_with fail
              refine (implRoundDiv_ok (rdiv (D + E) 2) 8 (by omega) (by omega) (by have := R.out; omega) (by have := R1.out; omega) _).mono ?_
              rintro e w6 ⟨rfl, rfl⟩
              go_wp2
              go_roundw
              case rel => exact ⟨k + 1, ys.set k (rdiv (rdiv (D + E) 2) 8), by omega, by go_num, by simp [HY.out], HROW.out _ wr HS.out.symm, R2.set_ k _, Blk.far (p := ⟨w.heap.size, k, none⟩) L2 (Nat.ne_of_gt z1) _, bw_set (p := ⟨w.heap.size, k, none⟩) B2 (Nat.le_refl _) _⟩
              case measure => simp [intOf]; omega
          · go_simp
            have hge := hHeld.size
            refine alloc_step (fun wa hb hnew => ?_)
            refine hK.out _ _ (by repeat (first | exact bw_refl _ | assumption | apply bw_alloc | apply bw_drew | apply bw_drewN | (refine bw_trans ?_ (by assumption)) | (refine bw_set ?_ (by simp only [go_sem]; omega) _))) (fun hHeld => ?_)
            clear hK K
            try simp only [Act.put, List.setIfInBounds_toArray, List.set_cons_zero, List.set_cons_succ]
            refine wpAnyH_ready (rs := [3]) (by kernel_rfl) (by simp) ?_
            refine AllReadyH.cons (by (simp only [List.getElem?_toArray, List.getElem?_cons_succ, List.getElem?_cons_zero]; rfl)) (fun K hK => ?_) AllReadyH.nil
            go_simp
            (first | (go_at_call 61; (with_reducible refine (M1 _).mono ?_); rintro e w3 ⟨rfl, hb3⟩; try replace hnew := heap_keep hb3 hnew) | (go_at_call 52; (with_reducible refine (M2 _).mono ?_); rintro e w4 ⟨rfl, hb4⟩; try replace hnew := heap_keep hb4 hnew))
            (try go_wp2_with fail)
            refine hK.out _ _ (by repeat (first | exact bw_refl _ | assumption | apply bw_alloc | apply bw_drew | apply bw_drewN | (refine bw_trans ?_ (by assumption)) | (refine bw_set ?_ (by simp only [go_sem]; omega) _))) (fun hHeld => ?_)
            clear hK K
            try simp only [Act.put, List.setIfInBounds_toArray, List.set_cons_zero, List.set_cons_succ]
            refine wpAnyH_ready (rs := [5]) (by kernel_rfl) (by simp) ?_
            refine AllReadyH.cons (by (simp only [List.getElem?_toArray, List.getElem?_cons_succ, List.getElem?_cons_zero]; rfl)) (fun K hK => ?_) AllReadyH.nil
            go_simp
            (first | (go_at_call 61; (with_reducible refine (M1 _).mono ?_); rintro e w3 ⟨rfl, hb3⟩; try replace hnew := heap_keep hb3 hnew) | (go_at_call 52; (with_reducible refine (M2 _).mono ?_); rintro e w4 ⟨rfl, hb4⟩; try replace hnew := heap_keep hb4 hnew))
            (try go_wp2_with fail)
            refine hK.out _ _ (by repeat (first | exact bw_refl _ | assumption | apply bw_alloc | apply bw_drew | apply bw_drewN | (refine bw_trans ?_ (by assumption)) | (refine bw_set ?_ (by simp only [go_sem]; omega) _))) (fun hHeld => ?_)
            clear hK K
            try simp only [Act.put, List.setIfInBounds_toArray, List.set_cons_zero, List.set_cons_succ]
            refine wpAnyH_take (i := 6) (v := ?_) (by (simp only [List.getElem?_toArray, List.getElem?_cons_succ, List.getElem?_cons_zero]; rfl)) (by kernel_rfl) (by kernel_rfl) (by kernel_rfl) (by exact fun _ _ _ h => h) (Or.inl ⟨by rfl, ?_⟩) (by assumption) ?_
            rotate_left
            · (intro wS hS; clear hS; go_simp; try with_reducible rfl)
            try simp only [Act.put, List.setIfInBounds_toArray, List.set_cons_zero, List.set_cons_succ]
            refine wpAnyH_take (i := 7) (v := ?_) (by (simp only [List.getElem?_toArray, List.getElem?_cons_succ, List.getElem?_cons_zero]; rfl)) (by kernel_rfl) (by kernel_rfl) (by kernel_rfl) (by exact fun _ _ _ h => h) (Or.inl ⟨by rfl, ?_⟩) (by assumption) ?_
            rotate_left
            · (intro wS hS; clear hS; go_simp; try with_reducible rfl)
            try simp only [Act.put, List.setIfInBounds_toArray, List.set_cons_zero, List.set_cons_succ]
            refine wpAnyH_take (i := 8) (v := ?_) (by (simp only [List.getElem?_toArray, List.getElem?_cons_succ, List.getElem?_cons_zero]; rfl)) (by kernel_rfl) (by kernel_rfl) (by kernel_rfl) (by exact fun _ _ _ h => h) (Or.inl ⟨by rfl, ?_⟩) (by assumption) ?_
            rotate_left
            · (intro wS hS; clear hS; go_simp; try with_reducible rfl)
            try simp only [Act.put, List.setIfInBounds_toArray, List.set_cons_zero, List.set_cons_succ]
            refine wpAnyH_ready (rs := [10]) (by kernel_rfl) (by simp) ?_
            refine AllReadyH.cons (by (simp only [List.getElem?_toArray, List.getElem?_cons_succ, List.getElem?_cons_zero]; rfl)) (fun K hK => ?_) AllReadyH.nil
            have n0 := Blk.cell hnew 0; have n1 := Blk.cell hnew 1; have m0 := Blk.frozen hnew 0; have m1 := Blk.frozen hnew 1; simp at n0 n1
            go_simp
            have hfin := Blk.two hnew (.int .i64 D) (.int .i64 E)
            refine hK.out _ _ (by refine bw_set (bw_set ?_ ?_ _) ?_ _ <;> first | exact (by repeat (first | exact bw_refl _ | assumption | apply bw_alloc | apply bw_drew | apply bw_drewN | (refine bw_trans ?_ (by assumption)) | (refine bw_set ?_ (by simp only [go_sem]; omega) _))) | exact hge | (simp at hge ⊢; omega)) (fun hHeld => ?_)
            clear hK K
            try simp only [Act.put, List.setIfInBounds_toArray, List.set_cons_zero, List.set_cons_succ]
            refine wpAnyH_take (i := 11) (v := ?_) (by (simp only [List.getElem?_toArray, List.getElem?_cons_succ, List.getElem?_cons_zero]; rfl)) (by kernel_rfl) (by kernel_rfl) (by kernel_rfl) (by exact fun _ _ _ h => h) (Or.inl ⟨by rfl, ?_⟩) (by assumption) ?_
            rotate_left
            · (intro wS hS; clear hS; go_simp; try with_reducible rfl)
            try simp only [Act.put, List.setIfInBounds_toArray, List.set_cons_zero, List.set_cons_succ]
            refine wpAnyH_done (by kernel_rfl) ?_ _
            have R2 := hR.up hHeld
            have L2 := l4.up hHeld
            have B2 := bw_trans hbr hHeld
            have s1 := R2.cell (j := k) (by rw [HY.out]; exact hlt)
            have s2 := R2.frozen k
            obtain ⟨n0, n1, -, -⟩ := hfin.rd2
            obtain ⟨old2, hold2⟩ : ∃ x, ys.getD k 0 = x := ⟨_, rfl⟩
            rw [hold2] at s1
            clear hold2 hd1 hf1
            go_wp2_with fail
            refine (implRoundDiv_ok (D + E) 2 (by omega) (by omega) (by omega) (by omega) _).mono ?_
            rintro e w5 ⟨rfl, rfl⟩
            go_wp2_with fail
            refine (implRoundDiv_ok (rdiv (D + E) 2) 8 (by omega) (by omega) (by have := R.out; omega) (by have := R1.out; omega) _).mono ?_
            rintro e w6 ⟨rfl, rfl⟩
            go_wp2
            go_roundw
            case rel => exact ⟨k + 1, ys.set k (rdiv (rdiv (D + E) 2) 8), by omega, by go_num, by simp [HY.out], HROW.out _ wr HS.out.symm, R2.set_ k _, Blk.far (p := ⟨w.heap.size, k, none⟩) L2 (Nat.ne_of_gt z1) _, bw_set (p := ⟨w.heap.size, k, none⟩) B2 (Nat.le_refl _) _⟩
            case measure => simp [intOf]; omega
        · obtain ⟨m, rfl⟩ : ∃ m, k = m + 1 := ⟨k - 1, by omega⟩
          have hdm := hR.cell (j := m) (by rw [HY.out]; omega)
          rw [HE.out m (by omega)] at hdm
          have hs := step_half (m + 1) (by omega) (by omega)
          rw [Nat.add_sub_cancel] at hs
          obtain ⟨b0, b1⟩ := step_bd m (by omega)
          have HS := Lib.hid hs
          have B0 := Lib.hid b0
          have B1 := Lib.hid b1
          clear hs b0 b1
          obtain ⟨sm, hsm⟩ : ∃ x, stepAt m = x := ⟨_, rfl⟩
          rw [hsm] at hdm HS B0 B1
          clear hsm
          have ek : ((m + 1 : Nat) : Int) = (m : Int) + 1 := rfl
          rw [ek] at i0 i1 i2 q0 ⊢
          have e1 : IntKind.i64.wrap (m : Int) = (m : Int) := IntWalk.i64_in _ (by omega)
          have e3 : (m : Int).toNat = m := Int.toNat_natCast _
          have j0 : (0 : Int) ≤ (m : Int) := by omega
          have j1 : (m : Int) < 20 := by omega
          have q1 : ¬ (m : Int) + 1 ≤ 16 := by omega
          clear ek
          go_wp2_with fail
          refine (implRoundDiv_ok sm 2 (by omega) (by omega) (by have := B0.out; omega) (by have := B1.out; omega) _).mono ?_
          rintro e w5 ⟨rfl, rfl⟩
          go_wp2
          go_roundw
          case rel => exact ⟨m + 1 + 1, ys.set (m + 1) (rdiv sm 2), by omega, by go_num, by simp [HY.out], HROW.out _ wr HS.out.symm, hR.set_ (m + 1) _, Blk.far (p := ⟨w.heap.size, m + 1, none⟩) l4 (Nat.ne_of_gt z1) _, bw_set (p := ⟨w.heap.size, m + 1, none⟩) hb (Nat.le_refl _) _⟩
          case measure => simp [intOf]; omega
    · have hkk : k = 20 := by omega
      subst hkk
      go_wp2
      go_ret
      exact ⟨_, ys, rfl, HY.out, HE.out, hR, hb, Nat.le_refl _⟩
end Go.Proofs.Ytndpmcegealhiaa
