/- The walk of the law JoinKnots; no condition. -/
import Derived.Test.YtiimaodphhaohaaKnY
namespace Go.Proofs.Ytiimaodphhaohaa
open Go.RowKit
set_option linter.unusedVariables false
set_option linter.unusedSimpArgs false
set_option maxHeartbeats 4000000
set_option maxRecDepth 100000

theorem walk_FnJoinKnots (A : Option Addr) (n c : Nat) (xs : List Int) (w : World) (h : Byts w w.heap.size A xs) (hn : xs.length = n) (hc : n ≤ c) (hm : c ≤ maxLen) :
    Calls Try.prog 12 #[.slice A n c] w fun e w' => e = .returned (.bool true) ∧ Below w.heap.size w w' := by
  by_cases hbig : 1048576 < n
  · unfold maxLen at hm
    clear hn
    go_enter Try.func12, Try.ntmps12
    go_wp2
    go_ret
    exact ⟨rfl, (by repeat (first | exact bw_refl _ | assumption | apply bw_alloc | apply bw_drew | apply bw_drewN | (refine bw_trans ?_ (by assumption)) | (refine bw_set ?_ (by simp only [go_sem]; omega) _)))⟩
  · have HN := Lib.hid hn
    clear hn
    go_enter Try.func12, Try.ntmps12
    go_wp2_with fail
    refine (drawJoinKnots_any A n c xs w h HN.out hc hm (by omega)).mono ?_
    rintro e w1 ⟨A1, k, c1, l, x, rfl, k1, k13, ho, ⟨x1, x2⟩, b1⟩
    have HL := Lib.hid ho.1
    have hkc : k ≤ c1 := ho.2.1
    clear h hc hm hbig
    go_wp2_with fail
    refine (implJoinKnots_any A1 k c1 l x _ HL.out ho.ints (by omega) hkc).mono ?_
    rintro e w2 ⟨⟨A2, c2, rfl, o2⟩, b2⟩
    replace ho := ho.up b2
    have b3 := bw_trans b1 b2
    clear b1 b2
    go_wp2_with fail
    refine (specJoinKnots_any A1 k c1 l x _ HL.out ho.ints (by omega)).mono ?_
    rintro e w3 ⟨⟨A3, c3, rfl, o3⟩, b4⟩
    replace ho := ho.up b4
    replace o2 := o2.up b4
    replace b3 := bw_trans b3 b4
    clear b4
    cases hok : joinOk l k x
    · have E := join_no hok
      rw [E.out.1, E.out.2.1] at o2 o3
      rw [E.out.1, E.out.2.2]
      clear hok
      go_wp2_with fail
      refine (sameKnots_yes A2 A3 0 c2 c3 [] _ rfl o2.ints o3.ints (by omega)).mono ?_
      rintro e w4 ⟨rfl, b4⟩
      go_wp2_with (go_at_call 29; refine (alive_any _).mono ?_; rintro e w' ⟨rfl, rfl⟩)
      go_ret
      exact ⟨rfl, (by repeat (first | exact bw_refl _ | assumption | apply bw_alloc | apply bw_drew | apply bw_drewN | (refine bw_trans ?_ (by assumption)) | (refine bw_set ?_ (by simp only [go_sem]; omega) _)))⟩
    cases hf : fullB l k x
    · have E := join_ins hok hf
      obtain ⟨k11, hY, hkv, hag⟩ := ins_facts HL.out hok hf
      obtain ⟨f1, -, -⟩ := ffN_spec l x k
      obtain ⟨p, hp⟩ : ∃ p, ffN l x k = p := ⟨_, rfl⟩
      obtain ⟨Y, hYe⟩ : ∃ Y, insL l (ffN l x k) x (kvF l k x) = Y := ⟨_, rfl⟩
      have HHN : Hid (∀ i j, i < k + 1 → j < k → hitB p i j = false → ¬ kAt Y i = kAt l j) := fun i j hi hj h => by
        rw [← hYe]; exact hit_no HL.out hok hf hi hj (by rw [hp]; exact h)
      have HHY : Hid (∀ i j, hitB p i j = true → kAt Y i = kAt l j ∧ kVal Y i = kVal l j) := fun i j h => by
        rw [← hYe]; exact hit_yes HL.out f1 (by rw [hp]; exact h)
      have HYL : Hid (Y.length = (k + 1) * 2) := by rw [← hYe]; exact insL_length HL.out f1
      rw [E.out.1, E.out.2.1, hYe] at o2 o3
      rw [E.out.1, E.out.2.2]
      rw [hYe] at hY hkv hag
      rw [hp] at f1
      replace hY := Lib.hid hY
      replace hkv := Lib.hid hkv
      replace hag := Lib.hid hag
      clear hYe
      clear hok hf hp E
      go_wp2_with fail
      refine (sameKnots_yes A2 A3 (k + 1) c2 c3 Y _ HYL.out o2.ints o3.ints (by omega)).mono ?_
      rintro e w4 ⟨rfl, b4⟩
      replace ho := ho.up b4
      replace o2 := o2.up b4
      replace b3 := bw_trans b3 b4
      clear b4 o3
      have hk2c : k + 1 ≤ c2 := o2.2.1
      have i1 := ho.ints
      have i2 := o2.ints
      clear ho o2
      have i1' := i1
      have i2' := i2
      obtain ⟨g1, o1, rfl, hg1, hc1⟩ := i1 (by rw [HL.out]; omega)
      obtain ⟨g2, o2, rfl, hg2, hc2⟩ := i2 (by rw [HYL.out]; omega)
      have HC1 : Hid (∀ wr : World, Below w4.heap.size w4 wr → ∀ j, j < k → g1 < wr.heap.size ∧ wr.cell? ⟨g1, o1 + j * 2, none⟩ = some (.int .i64 (kAt l j)) ∧ wr.cell? ⟨g1, o1 + j * 2 + 1, none⟩ = some (.int .i64 (kVal l j))) := fun wr hb j hj =>
        ⟨lt_keep hb hg1, (hb.cell (p := ⟨g1, o1 + j * 2, none⟩) hg1).trans (hc1 (j * 2) (by rw [HL.out]; omega)), (hb.cell (p := ⟨g1, o1 + j * 2 + 1, none⟩) hg1).trans (hc1 (j * 2 + 1) (by rw [HL.out]; omega))⟩
      have HC2 : Hid (∀ wr : World, Below w4.heap.size w4 wr → ∀ j, j < k + 1 → g2 < wr.heap.size ∧ wr.cell? ⟨g2, o2 + j * 2, none⟩ = some (.int .i64 (kAt Y j)) ∧ wr.cell? ⟨g2, o2 + j * 2 + 1, none⟩ = some (.int .i64 (kVal Y j))) := fun wr hb j hj =>
        ⟨lt_keep hb hg2, (hb.cell (p := ⟨g2, o2 + j * 2, none⟩) hg2).trans (hc2 (j * 2) (by rw [HYL.out]; omega)), (hb.cell (p := ⟨g2, o2 + j * 2 + 1, none⟩) hg2).trans (hc2 (j * 2 + 1) (by rw [HYL.out]; omega))⟩
      have I1 := Lib.hid (fun (wr : World) (hb : Below w4.heap.size w4 wr) => i1'.up hb)
      have I2 := Lib.hid (fun (wr : World) (hb : Below w4.heap.size w4 wr) => i2'.up hb)
      clear hc1 hc2 i1' i2' hg1 hg2
      go_wp2
      go_loopw [9, 10] (fun fd ii wr => ∃ i : Nat, i ≤ k + 1 ∧ fd = .int .i64 (cntP p i 0) ∧ ii = .int .i64 i ∧ Below w4.heap.size w4 wr) (fun _ ii _ => k + 1 - (intOf ii).toNat)
      case atStart => exact ⟨0, by omega, by rw [cntP_start]; rfl, rfl, bw_refl _⟩
      case round =>
        obtain ⟨i, hi, rfl, rfl, hb⟩ := hrel
        by_cases hlt : i < k + 1
        · obtain ⟨wo, rfl⟩ : ∃ wo : World, wo = wr := ⟨_, rfl⟩
          have hlt3 : (i : Int) < ((k + 1 : Nat) : Int) := by omega
          have hlt4 : (i : Int) < (k : Int) + 1 := by omega
          go_wp2
          go_loopw [9, 11] (fun fd jj wr => ∃ j : Nat, j ≤ k ∧ fd = .int .i64 (cntP p i j) ∧ jj = .int .i64 j ∧ Below w4.heap.size w4 wr) (fun _ jj _ => k - (intOf jj).toNat)
          case atStart => exact ⟨0, Nat.zero_le _, rfl, rfl, hb⟩
          case round =>
            clear hb
            obtain ⟨j, hj, rfl, rfl, hb⟩ := hrel
            by_cases hlt2 : j < k
            · obtain ⟨z1, q1, q2⟩ := HC1.out _ hb j hlt2
              obtain ⟨z2, r1, r2⟩ := HC2.out _ hb i hlt
              have hN := cntP_le p i j
              have i0 : (0 : Int) ≤ (i : Int) := by omega
              have i2 : (i : Int).toNat = i := Int.toNat_natCast _
              have j0 : (0 : Int) ≤ (j : Int) := by omega
              have j1 : (j : Int) < (k : Int) := by omega
              have j2 : (j : Int).toNat = j := Int.toNat_natCast _
              cases hh : hitB p i j
              · have hne := HHN.out i j hlt hlt2 hh
                have HCN := Lib.hid (cntP_no hh)
                generalize kAt l j = a at *
                generalize kVal l j = b at *
                generalize kAt Y i = a2 at *
                generalize kVal Y i = b2 at *
                have hq : (a2 == a) = false := by simpa using hne
                have hq2 : decide (a2 = a) = false := decide_eq_false hne
                clear hh hN
                go_upto_region 17 with fail
                refine wp_region_below (by kernel_rfl) (fun wD hHeld => ?_)
                refine wpAnyH_take (i := 0) (v := ?_) (by (simp only [List.getElem?_toArray, List.getElem?_cons_zero]; rfl)) (by kernel_rfl) (by kernel_rfl) (by kernel_rfl) (by exact fun _ _ _ h => h) (Or.inl ⟨by rfl, ?_⟩) (by assumption) ?_
                rotate_left
                · (intro wS hS; clear hS; go_simp; try with_reducible rfl)
                try simp only [Act.put, List.setIfInBounds_toArray, List.set_cons_zero, List.set_cons_succ]
                refine wpAnyH_take (i := 1) (v := ?_) (by (simp only [List.getElem?_toArray, List.getElem?_cons_succ, List.getElem?_cons_zero]; rfl)) (by kernel_rfl) (by kernel_rfl) (by kernel_rfl) (by exact fun _ _ _ h => h) (Or.inl ⟨by rfl, ?_⟩) (by assumption) ?_
                rotate_left
                · (intro wS hS; clear hS; go_simp; try with_reducible rfl)
                try simp only [Act.put, List.setIfInBounds_toArray, List.set_cons_zero, List.set_cons_succ]
                refine wpAnyH_take (i := 2) (v := ?_) (by (simp only [List.getElem?_toArray, List.getElem?_cons_succ, List.getElem?_cons_zero]; rfl)) (by kernel_rfl) (by kernel_rfl) (by kernel_rfl) (by exact fun _ _ _ h => h) (Or.inl ⟨by rfl, ?_⟩) (by assumption) ?_
                rotate_left
                · (intro wS hS; clear hS; go_simp; try with_reducible rfl)
                try simp only [Act.put, List.setIfInBounds_toArray, List.set_cons_zero, List.set_cons_succ]
                refine wpAnyH_take (i := 3) (v := ?_) (by (simp only [List.getElem?_toArray, List.getElem?_cons_succ, List.getElem?_cons_zero]; rfl)) (by kernel_rfl) (by kernel_rfl) (by kernel_rfl) (by exact fun _ _ _ h => h) (Or.inl ⟨by rfl, ?_⟩) (by assumption) ?_
                rotate_left
                · (intro wS hS; have hSc := (bcell hS).1; clear hS; go_simp; try with_reducible rfl)
                try simp only [Act.put, List.setIfInBounds_toArray, List.set_cons_zero, List.set_cons_succ]
                refine wpAnyH_take (i := 4) (v := ?_) (by (simp only [List.getElem?_toArray, List.getElem?_cons_succ, List.getElem?_cons_zero]; rfl)) (by kernel_rfl) (by kernel_rfl) (by kernel_rfl) (by exact fun _ _ _ h => h) (Or.inl ⟨by rfl, ?_⟩) (by assumption) ?_
                rotate_left
                · (intro wS hS; clear hS; go_simp; try with_reducible rfl)
                try simp only [Act.put, List.setIfInBounds_toArray, List.set_cons_zero, List.set_cons_succ]
                refine wpAnyH_take (i := 5) (v := ?_) (by (simp only [List.getElem?_toArray, List.getElem?_cons_succ, List.getElem?_cons_zero]; rfl)) (by kernel_rfl) (by kernel_rfl) (by kernel_rfl) (by exact fun _ _ _ h => h) (Or.inl ⟨by rfl, ?_⟩) (by assumption) ?_
                rotate_left
                · (intro wS hS; clear hS; go_simp; try with_reducible rfl)
                try simp only [Act.put, List.setIfInBounds_toArray, List.set_cons_zero, List.set_cons_succ]
                refine wpAnyH_take (i := 6) (v := ?_) (by (simp only [List.getElem?_toArray, List.getElem?_cons_succ, List.getElem?_cons_zero]; rfl)) (by kernel_rfl) (by kernel_rfl) (by kernel_rfl) (by exact fun _ _ _ h => h) (Or.inl ⟨by rfl, ?_⟩) (by assumption) ?_
                rotate_left
                · (intro wS hS; clear hS; go_simp; try with_reducible rfl)
                try simp only [Act.put, List.setIfInBounds_toArray, List.set_cons_zero, List.set_cons_succ]
                refine wpAnyH_take (i := 7) (v := ?_) (by (simp only [List.getElem?_toArray, List.getElem?_cons_succ, List.getElem?_cons_zero]; rfl)) (by kernel_rfl) (by kernel_rfl) (by kernel_rfl) (by exact fun _ _ _ h => h) (Or.inl ⟨by rfl, ?_⟩) (by assumption) ?_
                rotate_left
                · (intro wS hS; have hSc := (bcell hS).1; clear hS; go_simp; try with_reducible rfl)
                try simp only [Act.put, List.setIfInBounds_toArray, List.set_cons_zero, List.set_cons_succ]
                refine wpAnyH_take (i := 8) (v := ?_) (by (simp only [List.getElem?_toArray, List.getElem?_cons_succ, List.getElem?_cons_zero]; rfl)) (by kernel_rfl) (by kernel_rfl) (by kernel_rfl) (by exact fun _ _ _ h => h) (Or.inl ⟨by rfl, ?_⟩) (by assumption) ?_
                rotate_left
                · (intro wS hS; clear hS; go_simp; try with_reducible rfl)
                try simp only [Act.put, List.setIfInBounds_toArray, List.set_cons_zero, List.set_cons_succ]
                refine wpAnyH_done (by kernel_rfl) ?_ _
                go_wp2
                go_roundw
                case rel => exact ⟨j + 1, by omega, by rw [HCN.out], by go_num, (by repeat (first | exact bw_refl _ | assumption | apply bw_alloc | apply bw_drew | apply bw_drewN | (refine bw_trans ?_ (by assumption)) | (refine bw_set ?_ (by simp only [go_sem]; omega) _)))⟩
                case measure => simp [intOf]; omega
              · obtain ⟨e1, e2⟩ := HHY.out i j hh
                have HCN := Lib.hid (cntP_yes hh)
                rw [e1] at r1
                rw [e2] at r2
                clear e1 e2 hh
                generalize kAt l j = a at *
                generalize kVal l j = b at *
                have ew : IntKind.i64.wrap ((cntP p i j : Nat) + 1 : Int) = ((cntP p i j : Nat) : Int) + 1 := IntWalk.i64_in _ (by omega)
                clear hN
                go_upto_region 17 with fail
                refine wp_region_below (by kernel_rfl) (fun wD hHeld => ?_)
                refine wpAnyH_take (i := 0) (v := ?_) (by (simp only [List.getElem?_toArray, List.getElem?_cons_zero]; rfl)) (by kernel_rfl) (by kernel_rfl) (by kernel_rfl) (by exact fun _ _ _ h => h) (Or.inl ⟨by rfl, ?_⟩) (by assumption) ?_
                rotate_left
                · (intro wS hS; clear hS; go_simp; try with_reducible rfl)
                try simp only [Act.put, List.setIfInBounds_toArray, List.set_cons_zero, List.set_cons_succ]
                refine wpAnyH_take (i := 1) (v := ?_) (by (simp only [List.getElem?_toArray, List.getElem?_cons_succ, List.getElem?_cons_zero]; rfl)) (by kernel_rfl) (by kernel_rfl) (by kernel_rfl) (by exact fun _ _ _ h => h) (Or.inl ⟨by rfl, ?_⟩) (by assumption) ?_
                rotate_left
                · (intro wS hS; clear hS; go_simp; try with_reducible rfl)
                try simp only [Act.put, List.setIfInBounds_toArray, List.set_cons_zero, List.set_cons_succ]
                refine wpAnyH_take (i := 2) (v := ?_) (by (simp only [List.getElem?_toArray, List.getElem?_cons_succ, List.getElem?_cons_zero]; rfl)) (by kernel_rfl) (by kernel_rfl) (by kernel_rfl) (by exact fun _ _ _ h => h) (Or.inl ⟨by rfl, ?_⟩) (by assumption) ?_
                rotate_left
                · (intro wS hS; clear hS; go_simp; try with_reducible rfl)
                try simp only [Act.put, List.setIfInBounds_toArray, List.set_cons_zero, List.set_cons_succ]
                refine wpAnyH_take (i := 3) (v := ?_) (by (simp only [List.getElem?_toArray, List.getElem?_cons_succ, List.getElem?_cons_zero]; rfl)) (by kernel_rfl) (by kernel_rfl) (by kernel_rfl) (by exact fun _ _ _ h => h) (Or.inl ⟨by rfl, ?_⟩) (by assumption) ?_
                rotate_left
                · (intro wS hS; have hSc := (bcell hS).1; clear hS; go_simp; try with_reducible rfl)
                try simp only [Act.put, List.setIfInBounds_toArray, List.set_cons_zero, List.set_cons_succ]
                refine wpAnyH_take (i := 4) (v := ?_) (by (simp only [List.getElem?_toArray, List.getElem?_cons_succ, List.getElem?_cons_zero]; rfl)) (by kernel_rfl) (by kernel_rfl) (by kernel_rfl) (by exact fun _ _ _ h => h) (Or.inl ⟨by rfl, ?_⟩) (by assumption) ?_
                rotate_left
                · (intro wS hS; clear hS; go_simp; try with_reducible rfl)
                try simp only [Act.put, List.setIfInBounds_toArray, List.set_cons_zero, List.set_cons_succ]
                refine wpAnyH_take (i := 5) (v := ?_) (by (simp only [List.getElem?_toArray, List.getElem?_cons_succ, List.getElem?_cons_zero]; rfl)) (by kernel_rfl) (by kernel_rfl) (by kernel_rfl) (by exact fun _ _ _ h => h) (Or.inl ⟨by rfl, ?_⟩) (by assumption) ?_
                rotate_left
                · (intro wS hS; clear hS; go_simp; try with_reducible rfl)
                try simp only [Act.put, List.setIfInBounds_toArray, List.set_cons_zero, List.set_cons_succ]
                refine wpAnyH_take (i := 6) (v := ?_) (by (simp only [List.getElem?_toArray, List.getElem?_cons_succ, List.getElem?_cons_zero]; rfl)) (by kernel_rfl) (by kernel_rfl) (by kernel_rfl) (by exact fun _ _ _ h => h) (Or.inl ⟨by rfl, ?_⟩) (by assumption) ?_
                rotate_left
                · (intro wS hS; clear hS; go_simp; try with_reducible rfl)
                try simp only [Act.put, List.setIfInBounds_toArray, List.set_cons_zero, List.set_cons_succ]
                refine wpAnyH_take (i := 7) (v := ?_) (by (simp only [List.getElem?_toArray, List.getElem?_cons_succ, List.getElem?_cons_zero]; rfl)) (by kernel_rfl) (by kernel_rfl) (by kernel_rfl) (by exact fun _ _ _ h => h) (Or.inl ⟨by rfl, ?_⟩) (by assumption) ?_
                rotate_left
                · (intro wS hS; have hSc := (bcell hS).1; clear hS; go_simp; try with_reducible rfl)
                try simp only [Act.put, List.setIfInBounds_toArray, List.set_cons_zero, List.set_cons_succ]
                refine wpAnyH_take (i := 8) (v := ?_) (by (simp only [List.getElem?_toArray, List.getElem?_cons_succ, List.getElem?_cons_zero]; rfl)) (by kernel_rfl) (by kernel_rfl) (by kernel_rfl) (by exact fun _ _ _ h => h) (Or.inl ⟨by rfl, ?_⟩) (by assumption) ?_
                rotate_left
                · (intro wS hS; clear hS; go_simp; try with_reducible rfl)
                try simp only [Act.put, List.setIfInBounds_toArray, List.set_cons_zero, List.set_cons_succ]
                refine wpAnyH_done (by kernel_rfl) ?_ _
                go_wp2
                go_roundw
                case rel => exact ⟨j + 1, by omega, by rw [HCN.out]; go_num, by go_num, (by repeat (first | exact bw_refl _ | assumption | apply bw_alloc | apply bw_drew | apply bw_drewN | (refine bw_trans ?_ (by assumption)) | (refine bw_set ?_ (by simp only [go_sem]; omega) _)))⟩
                case measure => simp [intOf]; omega
            · have hjk : j = k := by omega
              subst hjk
              have HCR := Lib.hid (cntP_row f1 hlt)
              go_wp2
              go_roundw
              case rel => exact ⟨i + 1, by omega, by rw [HCR.out], by go_num, hb⟩
              case measure => simp [intOf]; omega
        · have hik : i = k + 1 := by omega
          subst hik
          rw [cntP_all f1]
          have b4 := bw_trans b3 hb
          have l1 : ¬ ((k : Int) + 1 < (k : Int) + 1) := by omega
          have ew : IntKind.i64.wrap ((k : Int) + 1) = (k : Int) + 1 := IntWalk.i64_in _ (by omega)
          go_wp2_with fail
          refine (implJoinKnots_any _ (k + 1) c2 Y x _ HYL.out (I2.out _ hb) (by omega) hk2c).mono ?_
          rintro e w5 ⟨⟨A5, c5, rfl, o5⟩, b5⟩
          rw [hag.out]
          have hb5 := bw_trans hb b5
          have b6 := bw_trans b4 b5
          clear o5 b5 b4
          generalize joinN Y (k + 1) x = N5 at *
          go_wp2_with fail
          refine (implKnotsValid_any _ (k + 1) c2 Y _ HYL.out (I2.out _ hb5) (by omega)).mono ?_
          rintro e w6 ⟨he, b7⟩
          rw [hY.out] at he
          subst he
          have hb6 := bw_trans hb5 b7
          have b8 := bw_trans b6 b7
          clear b6 b7 hb5
          go_wp2_with fail
          refine (implKnotValue_any _ (k + 1) c2 Y x _ HYL.out (I2.out _ hb6) (by omega)).mono ?_
          rintro e w7 ⟨he, b7⟩
          rw [hkv.out] at he
          subst he
          have hb7 := bw_trans hb6 b7
          have b9 := bw_trans b8 b7
          clear b8 b7 hb6
          go_wp2_with fail
          refine (implKnotValue_any _ k c1 l x _ HL.out (I1.out _ hb7) (by omega)).mono ?_
          rintro e w8 ⟨rfl, b7⟩
          generalize kvF l k x = V at *
          have b10 := bw_trans b9 b7
          go_wp2
          go_ret
          exact ⟨rfl, b10⟩
    · have E := join_full hok hf
      rw [E.out.1, E.out.2.1] at o2 o3
      rw [E.out.1, E.out.2.2]
      clear hok hf
      go_wp2_with fail
      refine (sameKnots_yes A2 A3 k c2 c3 l _ HL.out o2.ints o3.ints (by omega)).mono ?_
      rintro e w4 ⟨rfl, b4⟩
      replace ho := ho.up b4
      replace o2 := o2.up b4
      replace b3 := bw_trans b3 b4
      clear b4 o3
      have hk0 : ((k : Int) == 0) = false := by simp; omega
      go_wp2_with fail
      refine (sameKnots_yes A2 A1 k c2 c1 l _ HL.out o2.ints ho.ints (by omega)).mono ?_
      rintro e w5 ⟨rfl, b5⟩
      go_wp2_with (go_at_call 29; refine (alive_any _).mono ?_; rintro e w' ⟨rfl, rfl⟩)
      go_ret
      exact ⟨rfl, (by repeat (first | exact bw_refl _ | assumption | apply bw_alloc | apply bw_drew | apply bw_drewN | (refine bw_trans ?_ (by assumption)) | (refine bw_set ?_ (by simp only [go_sem]; omega) _)))⟩
end Go.Proofs.Ytiimaodphhaohaa
