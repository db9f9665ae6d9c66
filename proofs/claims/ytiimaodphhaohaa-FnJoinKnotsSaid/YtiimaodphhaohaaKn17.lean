/- The reference's KnotValue, and the walk of ExactKnotValue; condition: lengths of at most 2^32. -/
import Derived.Test.YtiimaodphhaohaaKn16
namespace Go.Proofs.Ytiimaodphhaohaa
open Go.RowKit
set_option linter.unusedVariables false
set_option linter.unusedSimpArgs false
set_option maxHeartbeats 2000000

theorem specKnotValue_any (A : Option Addr) (n c : Nat) (xs : List Int) (x : Int) (w : World) (hn : xs.length = n * 2) (h : Ints w w.heap.size A xs) (hlen : n ≤ 4294967296) :
    Calls Try.prog 24 #[.slice A n c, .int .i64 x] w fun e w' => e = .returned (.int .i64 (kvF xs n x)) ∧ Below w.heap.size w w' := by
  have HN := Lib.hid hn
  clear hn
  cases hv : knotsB xs n
  · have e0 := Lib.hid (kvF_no x hv)
    go_enter Try.func24, Try.ntmps24
    go_wp2_with (go_at_call 14; refine (specKnotsValid_any A n c xs _ HN.out h hlen).mono ?_; rintro e w1 ⟨he, b1⟩; rw [hv] at he; subst he)
    go_ret
    exact ⟨ret_int e0.out.symm, (by repeat (first | exact bw_refl _ | assumption | apply bw_alloc | apply bw_drew | apply bw_drewN | (refine bw_trans ?_ (by assumption)) | (refine bw_set ?_ (by simp only [go_sem]; omega) _)))⟩
  · obtain ⟨n2, n12, -⟩ := knotsB_at hv
    have HV := Lib.hid hv
    clear hv
    go_enter Try.func24, Try.ntmps24
    go_wp2_with fail
    refine (specKnotsValid_any A n c xs _ HN.out h hlen).mono ?_
    rintro e w1 ⟨he, b1⟩
    rw [HV.out] at he
    subst he
    have h1 := h.up b1
    obtain ⟨b, off, rfl, hbl, hc⟩ := h1 (by rw [HN.out]; omega)
    have HC := Lib.hid hc
    clear h h1 hc
    have k1 := HC.out 0 (by rw [HN.out]; omega)
    have k2 := HC.out 1 (by rw [HN.out]; omega)
    obtain ⟨u, hu⟩ : ∃ v, xs.getD 0 0 = v := ⟨_, rfl⟩
    obtain ⟨v, hv⟩ : ∃ v, xs.getD 1 0 = v := ⟨_, rfl⟩
    rw [hu] at k1
    rw [hv] at k2
    simp only [Nat.add_zero] at k1
    have hkat : Hid (kAt xs 0 = u) := hu
    have hkv : Hid (kVal xs 0 = v) := hv
    have i1 : (0 : Int) < (n : Int) := by omega
    clear hu hv
    by_cases hxu : x ≤ u
    · have hz : ffN xs x n = 0 := ffN_is (Nat.zero_le _) (fun j hj => absurd hj (Nat.not_lt_zero _)) (fun _ => by rw [hkat.out]; exact hxu)
      have e0 := Lib.hid (kvF_first HV.out hz)
      clear hz
      go_wp2
      go_ret
      exact ⟨ret_int (by rw [e0.out, hkv.out]), b1⟩
    · go_wp2
      clear k1 k2
      go_loopw [5] (fun i wr => ∃ m : Nat, m + 1 ≤ n ∧ i = .int .i64 ((m : Int) + 1) ∧ (∀ j, j < m + 1 → kAt xs j < x) ∧ Below w1.heap.size w1 wr)
        (fun i _ => n + 1 - (intOf i).toNat)
      case atStart => exact ⟨0, by omega, rfl, fun j hj => by (obtain rfl : j = 0 := by omega); rw [hkat.out]; omega, bw_refl _⟩
      case round =>
        obtain ⟨m, hk, rfl, he, hb⟩ := hrel
        have HE := Lib.hid he
        clear he
        by_cases hlt : m + 1 < n
        · obtain ⟨a, ha⟩ : ∃ v, xs.getD (m * 2) 0 = v := ⟨_, rfl⟩
          obtain ⟨vb, hb'⟩ : ∃ v, xs.getD (m * 2 + 1) 0 = v := ⟨_, rfl⟩
          obtain ⟨c', hc'⟩ : ∃ v, xs.getD ((m + 1) * 2) 0 = v := ⟨_, rfl⟩
          obtain ⟨d, hd⟩ : ∃ v, xs.getD ((m + 1) * 2 + 1) 0 = v := ⟨_, rfl⟩
          have k1 := (hb.cell (p := ⟨b, off + m * 2, none⟩) hbl).trans (HC.out (m * 2) (by rw [HN.out]; omega))
          have k2 : wr.cell? ⟨b, off + m * 2 + 1, none⟩ = _ := (hb.cell (p := ⟨b, off + (m * 2 + 1), none⟩) hbl).trans (HC.out (m * 2 + 1) (by rw [HN.out]; omega))
          have k3 := (hb.cell (p := ⟨b, off + (m + 1) * 2, none⟩) hbl).trans (HC.out ((m + 1) * 2) (by rw [HN.out]; omega))
          have k4 : wr.cell? ⟨b, off + (m + 1) * 2 + 1, none⟩ = _ := (hb.cell (p := ⟨b, off + ((m + 1) * 2 + 1), none⟩) hbl).trans (HC.out ((m + 1) * 2 + 1) (by rw [HN.out]; omega))
          rw [ha] at k1; rw [hb'] at k2; rw [hc'] at k3; rw [hd] at k4
          have z1 := lt_keep hb hbl
          have hkc : Hid (kAt xs (m + 1) = c') := hc'
          have e1 : IntKind.i64.wrap (m : Int) = (m : Int) := IntWalk.i64_in _ (by omega)
          have e2 : ((m : Int) + 1).toNat = m + 1 := by omega
          have e3 : (m : Int).toNat = m := Int.toNat_natCast _
          have e4 : IntKind.i64.wrap ((m : Int) + 1 + 1) = (m : Int) + 1 + 1 := IntWalk.i64_in _ (by omega)
          have i2 : (0 : Int) ≤ (m : Int) := by omega
          have i3 : (m : Int) < (n : Int) := by omega
          have i4 : (0 : Int) ≤ (m : Int) + 1 := by omega
          have i5 : (m : Int) + 1 < (n : Int) := by omega
          by_cases hxc : x ≤ c'
          · have hm : ffN xs x n = m + 1 := ffN_is (by omega) HE.out (fun _ => by rw [hkc.out]; exact hxc)
            obtain ⟨a', vb', c2, d', ha', hb2', hc2, hd2, ⟨a0, a1⟩, ⟨v0, v1⟩, ⟨c0, c1⟩, ⟨d0, d1⟩, hac, hax, hxc2, hkv2⟩ := kv_facts HV.out hlt hm
            obtain rfl : a' = a := ha'.symm.trans ha
            obtain rfl : vb' = vb := hb2'.symm.trans hb'
            obtain rfl : c2 = c' := hc2.symm.trans hc'
            obtain rfl : d' = d := hd2.symm.trans hd
            have KV := Lib.hid hkv2
            have km := mul_bd21 (d' - vb') (x - a') (by omega) (by omega) (by omega) (by omega)
            obtain ⟨P, hP⟩ : ∃ P, (d' - vb') * (x - a') = P := ⟨_, rfl⟩
            rw [hP] at km KV
            have R := l1Round_any P (c2 - a') (by omega) (by omega) (by omega) (by omega)
            have rb := rdiv_small P (c2 - a') 4000000000000 (by omega) (by omega) (by omega) (by omega)
            generalize rdiv P (c2 - a') = r at *
            have w1' : IntKind.i64.wrap (d' - vb') = d' - vb' := IntWalk.i64_in _ (by omega)
            have w2' : IntKind.i64.wrap (x - a') = x - a' := IntWalk.i64_in _ (by omega)
            have w3' : IntKind.i64.wrap P = P := IntWalk.i64_in _ (by omega)
            have w4' : IntKind.i64.wrap (c2 - a') = c2 - a' := IntWalk.i64_in _ (by omega)
            have w5' : IntKind.i64.wrap (vb' + r) = vb' + r := IntWalk.i64_in _ (by omega)
            have hn6 := (Blk.new wr 41 #[.int .i64 a', .int .i64 vb']).alloc (.cells #[.int .i64 c2, .int .i64 d'] 41)
            have hn7 := Blk.new (wr.alloc (.cells #[.int .i64 a', .int .i64 vb'] 41)) 41 #[.int .i64 c2, .int .i64 d']
            have b9 : Below w1.heap.size w1 ((wr.alloc (.cells #[.int .i64 a', .int .i64 vb'] 41)).alloc (.cells #[.int .i64 c2, .int .i64 d'] 41)) := bw_alloc (bw_alloc hb _) _
            rw [World.size_alloc] at hn7
            clear ha' hb2' hc2 hd2 ha hb' hc' hd hkv2 hm km rb hac hax hxc2 HE hkc
            go_upto_region 11 with fail
            generalize (wr.alloc (.cells #[.int .i64 a', .int .i64 vb'] 41)).alloc (.cells #[.int .i64 c2, .int .i64 d'] 41) = W at *
            have b2 := bw_trans b1 b9
            clear k1 k2 k3 k4 z1 b9 hb b1
            obtain ⟨p0, p1, -, -⟩ := hn6.rd2
            obtain ⟨p2, p3, -, -⟩ := hn7.rd2
            have z6 := hn6.lt
            have z7 := hn7.lt
            refine wp_region_below (by kernel_rfl) (fun wD hHeld => ?_)
            refine wpAnyH_take (i := 0) (v := ?_) (by (simp only [List.getElem?_toArray, List.getElem?_cons_zero]; rfl)) (by kernel_rfl) (by kernel_rfl) (by kernel_rfl) (by exact fun _ _ _ h => h) (Or.inl ⟨by rfl, ?_⟩) (by assumption) ?_
            rotate_left
            · (intro wS hS; clear hS; go_simp; try with_reducible rfl)
            try simp only [Act.put, List.setIfInBounds_toArray, List.set_cons_zero, List.set_cons_succ]
            refine wpAnyH_take (i := 1) (v := ?_) (by (simp only [List.getElem?_toArray, List.getElem?_cons_succ, List.getElem?_cons_zero]; rfl)) (by kernel_rfl) (by kernel_rfl) (by kernel_rfl) (by exact fun _ _ _ h => h) (Or.inl ⟨by rfl, ?_⟩) (by assumption) ?_
            rotate_left
            · (intro wS hS; have hSc := (bcell hS).1; clear hS; go_simp; try with_reducible rfl)
            try simp only [Act.put, List.setIfInBounds_toArray, List.set_cons_zero, List.set_cons_succ]
            refine wpAnyH_take (i := 2) (v := ?_) (by (simp only [List.getElem?_toArray, List.getElem?_cons_succ, List.getElem?_cons_zero]; rfl)) (by kernel_rfl) (by kernel_rfl) (by kernel_rfl) (by exact fun _ _ _ h => h) (Or.inl ⟨by rfl, ?_⟩) (by assumption) ?_
            rotate_left
            · (intro wS hS; clear hS; go_simp; try with_reducible rfl)
            try simp only [Act.put, List.setIfInBounds_toArray, List.set_cons_zero, List.set_cons_succ]
            refine wpAnyH_take (i := 3) (v := ?_) (by (simp only [List.getElem?_toArray, List.getElem?_cons_succ, List.getElem?_cons_zero]; rfl)) (by kernel_rfl) (by kernel_rfl) (by kernel_rfl) (by exact fun _ _ _ h => h) (Or.inl ⟨by rfl, ?_⟩) (by assumption) ?_
            rotate_left
            · (intro wS hS; have hSc := (bcell hS).1; clear hS; go_simp; try with_reducible rfl)
            try simp only [Act.put, List.setIfInBounds_toArray, List.set_cons_zero, List.set_cons_succ]
            refine wpAnyH_take (i := 4) (v := ?_) (by (simp only [List.getElem?_toArray, List.getElem?_cons_succ, List.getElem?_cons_zero]; rfl)) (by kernel_rfl) (by kernel_rfl) (by kernel_rfl) (by exact fun _ _ _ h => h) (Or.inl ⟨by rfl, ?_⟩) (by assumption) ?_
            rotate_left
            · (intro wS hS; clear hS; go_simp; try with_reducible rfl)
            try simp only [Act.put, List.setIfInBounds_toArray, List.set_cons_zero, List.set_cons_succ]
            refine wpAnyH_take (i := 5) (v := ?_) (by (simp only [List.getElem?_toArray, List.getElem?_cons_succ, List.getElem?_cons_zero]; rfl)) (by kernel_rfl) (by kernel_rfl) (by kernel_rfl) (by exact fun _ _ _ h => h) (Or.inl ⟨by rfl, ?_⟩) (by assumption) ?_
            rotate_left
            · (intro wS hS; have hSc := (bcell hS).1; clear hS; go_simp; try with_reducible rfl)
            try simp only [Act.put, List.setIfInBounds_toArray, List.set_cons_zero, List.set_cons_succ]
            refine wpAnyH_take (i := 6) (v := ?_) (by (simp only [List.getElem?_toArray, List.getElem?_cons_succ, List.getElem?_cons_zero]; rfl)) (by kernel_rfl) (by kernel_rfl) (by kernel_rfl) (by exact fun _ _ _ h => h) (Or.inl ⟨by rfl, ?_⟩) (by assumption) ?_
            rotate_left
            · (intro wS hS; clear hS; go_simp; try with_reducible rfl)
            try simp only [Act.put, List.setIfInBounds_toArray, List.set_cons_zero, List.set_cons_succ]
            refine wpAnyH_take (i := 7) (v := ?_) (by (simp only [List.getElem?_toArray, List.getElem?_cons_succ, List.getElem?_cons_zero]; rfl)) (by kernel_rfl) (by kernel_rfl) (by kernel_rfl) (by exact fun _ _ _ h => h) (Or.inl ⟨by rfl, ?_⟩) (by assumption) ?_
            rotate_left
            · (intro wS hS; clear hS; go_simp; try with_reducible rfl)
            try simp only [Act.put, List.setIfInBounds_toArray, List.set_cons_zero, List.set_cons_succ]
            refine wpAnyH_take (i := 8) (v := ?_) (by (simp only [List.getElem?_toArray, List.getElem?_cons_succ, List.getElem?_cons_zero]; rfl)) (by kernel_rfl) (by kernel_rfl) (by kernel_rfl) (by exact fun _ _ _ h => h) (Or.inl ⟨by rfl, ?_⟩) (by assumption) ?_
            rotate_left
            · (intro wS hS; clear hS; go_simp; try with_reducible rfl)
            try simp only [Act.put, List.setIfInBounds_toArray, List.set_cons_zero, List.set_cons_succ]
            refine wpAnyH_take (i := 9) (v := ?_) (by (simp only [List.getElem?_toArray, List.getElem?_cons_succ, List.getElem?_cons_zero]; rfl)) (by kernel_rfl) (by kernel_rfl) (by kernel_rfl) (by exact fun _ _ _ h => h) (Or.inl ⟨by rfl, ?_⟩) (by assumption) ?_
            rotate_left
            · (intro wS hS; have hSc := (bcell hS).1; clear hS; go_simp; try with_reducible rfl)
            try simp only [Act.put, List.setIfInBounds_toArray, List.set_cons_zero, List.set_cons_succ]
            refine wpAnyH_take (i := 10) (v := ?_) (by (simp only [List.getElem?_toArray, List.getElem?_cons_succ, List.getElem?_cons_zero]; rfl)) (by kernel_rfl) (by kernel_rfl) (by kernel_rfl) (by exact fun _ _ _ h => h) (Or.inl ⟨by rfl, ?_⟩) (by assumption) ?_
            rotate_left
            · (intro wS hS; clear hS; go_simp; try with_reducible rfl)
            try simp only [Act.put, List.setIfInBounds_toArray, List.set_cons_zero, List.set_cons_succ]
            refine wpAnyH_take (i := 11) (v := ?_) (by (simp only [List.getElem?_toArray, List.getElem?_cons_succ, List.getElem?_cons_zero]; rfl)) (by kernel_rfl) (by kernel_rfl) (by kernel_rfl) (by exact fun _ _ _ h => h) (Or.inl ⟨by rfl, ?_⟩) (by assumption) ?_
            rotate_left
            · (intro wS hS; clear hS; go_simp; try with_reducible rfl)
            try simp only [Act.put, List.setIfInBounds_toArray, List.set_cons_zero, List.set_cons_succ]
            refine wpAnyH_take (i := 12) (v := ?_) (by (simp only [List.getElem?_toArray, List.getElem?_cons_succ, List.getElem?_cons_zero]; rfl)) (by kernel_rfl) (by kernel_rfl) (by kernel_rfl) (by exact fun _ _ _ h => h) (Or.inl ⟨by rfl, ?_⟩) (by assumption) ?_
            rotate_left
            · (intro wS hS; clear hS; go_simp; try with_reducible rfl)
            try simp only [Act.put, List.setIfInBounds_toArray, List.set_cons_zero, List.set_cons_succ]
            refine wpAnyH_take (i := 13) (v := ?_) (by (simp only [List.getElem?_toArray, List.getElem?_cons_succ, List.getElem?_cons_zero]; rfl)) (by kernel_rfl) (by kernel_rfl) (by kernel_rfl) (by exact fun _ _ _ h => h) (Or.inl ⟨by rfl, ?_⟩) (by assumption) ?_
            rotate_left
            · (intro wS hS; have hSc := (bcell hS).1; clear hS; go_simp; try with_reducible rfl)
            try simp only [Act.put, List.setIfInBounds_toArray, List.set_cons_zero, List.set_cons_succ]
            refine wpAnyH_take (i := 14) (v := ?_) (by (simp only [List.getElem?_toArray, List.getElem?_cons_succ, List.getElem?_cons_zero]; rfl)) (by kernel_rfl) (by kernel_rfl) (by kernel_rfl) (by exact fun _ _ _ h => h) (Or.inl ⟨by rfl, ?_⟩) (by assumption) ?_
            rotate_left
            · (intro wS hS; clear hS; go_simp; try with_reducible rfl)
            try simp only [Act.put, List.setIfInBounds_toArray, List.set_cons_zero, List.set_cons_succ]
            refine wpAnyH_take (i := 15) (v := ?_) (by (simp only [List.getElem?_toArray, List.getElem?_cons_succ, List.getElem?_cons_zero]; rfl)) (by kernel_rfl) (by kernel_rfl) (by kernel_rfl) (by exact fun _ _ _ h => h) (Or.inl ⟨by rfl, ?_⟩) (by assumption) ?_
            rotate_left
            · (intro wS hS; have hSc := (bcell hS).1; clear hS; go_simp; try with_reducible rfl)
            try simp only [Act.put, List.setIfInBounds_toArray, List.set_cons_zero, List.set_cons_succ]
            refine wpAnyH_take (i := 16) (v := ?_) (by (simp only [List.getElem?_toArray, List.getElem?_cons_succ, List.getElem?_cons_zero]; rfl)) (by kernel_rfl) (by kernel_rfl) (by kernel_rfl) (by exact fun _ _ _ h => h) (Or.inl ⟨by rfl, ?_⟩) (by assumption) ?_
            rotate_left
            · (intro wS hS; clear hS; go_simp; try with_reducible rfl)
            try simp only [Act.put, List.setIfInBounds_toArray, List.set_cons_zero, List.set_cons_succ]
            refine wpAnyH_ready (rs := [17]) (by kernel_rfl) (by simp) ?_
            refine AllReadyH.cons (by (simp only [List.getElem?_toArray, List.getElem?_cons_succ, List.getElem?_cons_zero]; rfl)) (fun K hK => ?_) AllReadyH.nil
            go_simp
            ((go_at_call 39; (with_reducible refine (R _).mono ?_); rintro e w5 ⟨rfl, rfl⟩))
            (try go_wp2_with fail)
            refine hK.out _ _ (by repeat (first | exact bw_refl _ | assumption | apply bw_alloc | apply bw_drew | apply bw_drewN | (refine bw_trans ?_ (by assumption)) | (refine bw_set ?_ (by simp only [go_sem]; omega) _))) (fun hHeld => ?_)
            clear hK K
            try simp only [Act.put, List.setIfInBounds_toArray, List.set_cons_zero, List.set_cons_succ]
            refine wpAnyH_take (i := 18) (v := ?_) (by (simp only [List.getElem?_toArray, List.getElem?_cons_succ, List.getElem?_cons_zero]; rfl)) (by kernel_rfl) (by kernel_rfl) (by kernel_rfl) (by exact fun _ _ _ h => h) (Or.inl ⟨by rfl, ?_⟩) (by assumption) ?_
            rotate_left
            · (intro wS hS; clear hS; go_simp; try with_reducible rfl)
            try simp only [Act.put, List.setIfInBounds_toArray, List.set_cons_zero, List.set_cons_succ]
            refine wpAnyH_take (i := 19) (v := ?_) (by (simp only [List.getElem?_toArray, List.getElem?_cons_succ, List.getElem?_cons_zero]; rfl)) (by kernel_rfl) (by kernel_rfl) (by kernel_rfl) (by exact fun _ _ _ h => h) (Or.inl ⟨by rfl, ?_⟩) (by assumption) ?_
            rotate_left
            · (intro wS hS; clear hS; go_simp; try with_reducible rfl)
            try simp only [Act.put, List.setIfInBounds_toArray, List.set_cons_zero, List.set_cons_succ]
            refine wpAnyH_done (by kernel_rfl) ?_ _
            go_wp2
            go_ret
            exact ⟨ret_int KV.out.symm, (by repeat (first | exact bw_refl _ | assumption | apply bw_alloc | apply bw_drew | apply bw_drewN | (refine bw_trans ?_ (by assumption)) | (refine bw_set ?_ (by simp only [go_sem]; omega) _)))⟩
          · go_wp2
            go_roundw
            case rel =>
              refine ⟨m + 1, by omega, by first | rfl | go_num, fun j hj => ?_, (by repeat (first | exact bw_refl _ | assumption | apply bw_alloc | apply bw_drew | apply bw_drewN | (refine bw_trans ?_ (by assumption)) | (refine bw_set ?_ (by simp only [go_sem]; omega) _)))⟩
              by_cases hjk : j = m + 1
              · subst hjk; rw [hkc.out]; omega
              · exact HE.out j (by omega)
            case measure => simp [intOf]; omega
        · have hm : n = m + 1 := by omega
          have heq : ffN xs x n = n := ffN_is (Nat.le_refl _) (fun j hj => HE.out j (by omega)) (fun h => absurd h (Nat.lt_irrefl _))
          have e0 := Lib.hid (kvF_last HV.out heq (by omega))
          have hm2 : n - 1 = m := by omega
          rw [hm2] at e0
          have k1 : wr.cell? ⟨b, off + m * 2 + 1, none⟩ = _ := (hb.cell (p := ⟨b, off + (m * 2 + 1), none⟩) hbl).trans (HC.out (m * 2 + 1) (by rw [HN.out]; omega))
          obtain ⟨v', hv'⟩ : ∃ v, xs.getD (m * 2 + 1) 0 = v := ⟨_, rfl⟩
          rw [hv'] at k1
          have e1 : Hid (kVal xs m = v') := hv'
          have q3 : IntKind.i64.wrap ((n : Int) - 1) = (m : Int) := by rw [IntWalk.i64_in _ (by omega)]; omega
          have q4 : (n : Int) - 1 = (m : Int) := by omega
          have q5 : ¬ (m : Int) + 1 < (n : Int) := by omega
          have e3 : (m : Int).toNat = m := Int.toNat_natCast _
          have i0 : (0 : Int) ≤ (m : Int) := by omega
          have i2 : (m : Int) < (n : Int) := by omega
          have b2 := bw_trans b1 hb
          clear hv' hm hm2 heq
          go_wp2
          go_ret
          exact ⟨ret_int (by rw [e0.out, e1.out]), b2⟩
theorem walk_FnExactKnotValue (A : Option Addr) (n c : Nat) (xs : List Int) (x : Int) (w : World) (h : Ints w w.heap.size A xs) (hn : xs.length = n * 2) (_ : n ≤ c) (_ : c ≤ maxLen) (_ : (Lit.int .i64 x).wf = true) :
    Calls Try.prog 6 #[.slice A n c, .int .i64 x] w fun e w' => e = .returned (.bool true) ∧ Below w.heap.size w w' := by
  have HN := Lib.hid hn
  clear hn
  have hn63 : (n : Int) ≤ 9223372036854775807 := by simp [maxLen] at *; omega
  by_cases hbig : 1048576 < n
  · have e1 : IntKind.i64.wrap (1048576 - (n : Int)) = 1048576 - (n : Int) := IntWalk.i64_in _ (by omega)
    have e2 : (1048576 : Int) - (n : Int) < 0 := by omega
    go_enter Try.func6, Try.ntmps6
    go_wp2
    go_ret
    exact ⟨rfl, (by repeat (first | exact bw_refl _ | assumption | apply bw_alloc | apply bw_drew | apply bw_drewN | (refine bw_trans ?_ (by assumption)) | (refine bw_set ?_ (by simp only [go_sem]; omega) _)))⟩
  · have e1 : IntKind.i64.wrap (1048576 - (n : Int)) = 1048576 - (n : Int) := IntWalk.i64_in _ (by omega)
    have e2 : ¬ (1048576 : Int) - (n : Int) < 0 := by omega
    have hsame := eqIs_same xs
    go_enter Try.func6, Try.ntmps6
    go_wp2_with fail
    refine (szKnotS_ok A n c 1048576 _ (by omega) (by omega)).mono ?_
    rintro e w0 ⟨rfl, rfl⟩
    go_wp2_with fail
    refine (toKnotS_any A n c xs _ HN.out h (by omega)).mono ?_
    rintro e w1 ⟨rfl, r1, b1⟩
    go_wp2_with fail
    refine (specKnotValue_any _ n _ xs x _ HN.out r1.is (by omega)).mono ?_
    rintro e w2 ⟨rfl, b2⟩
    go_wp2_with fail
    refine (toKnotS_any A n c xs _ HN.out (h.up (by repeat (first | exact bw_refl _ | assumption | apply bw_alloc | apply bw_drew | apply bw_drewN | (refine bw_trans ?_ (by assumption)) | (refine bw_set ?_ (by simp only [go_sem]; omega) _)))) (by omega)).mono ?_
    rintro e w3 ⟨rfl, r3, b3⟩
    go_wp2_with fail
    refine (implKnotValue_any _ n _ xs x _ HN.out r3.is (by omega)).mono ?_
    rintro e w4 ⟨rfl, b4⟩
    go_wp2_with fail
    refine (toKnotS_any A n c xs _ HN.out (h.up (by repeat (first | exact bw_refl _ | assumption | apply bw_alloc | apply bw_drew | apply bw_drewN | (refine bw_trans ?_ (by assumption)) | (refine bw_set ?_ (by simp only [go_sem]; omega) _)))) (by omega)).mono ?_
    rintro e w5 ⟨rfl, r5, b5⟩
    go_wp2_with fail
    refine (eqKnotS_any _ _ n n _ _ xs xs _ HN.out HN.out ((r3.up b4).up b5).is r5.is (by omega) (by omega)).mono ?_
    rintro e w6 ⟨rfl, b6⟩
    go_wp2
    go_ret
    exact ⟨rfl, (by repeat (first | exact bw_refl _ | assumption | apply bw_alloc | apply bw_drew | apply bw_drewN | (refine bw_trans ?_ (by assumption)) | (refine bw_set ?_ (by simp only [go_sem]; omega) _)))⟩
end Go.Proofs.Ytiimaodphhaohaa
