/- The program's KnotValue; condition: lengths of at most 2^32. -/
import Derived.Test.YtiimaodphhaohaaKn15
namespace Go.Proofs.Ytiimaodphhaohaa
open Go.RowKit
set_option linter.unusedVariables false
set_option linter.unusedSimpArgs false
set_option maxHeartbeats 2000000

theorem Blk.rd2 {w : World} {g : Nat} {t : TypeId} {a b : Value} (h : Blk w g t #[a, b]) : w.cell? ⟨g, 0, none⟩ = some a ∧ w.cell? ⟨g, 1, none⟩ = some b ∧ w.frozen? ⟨g, 0, none⟩ = false ∧ w.frozen? ⟨g, 1, none⟩ = false :=
  ⟨h.cell 0, h.cell 1, h.frozen 0, h.frozen 1⟩
theorem Blk.up {w w' : World} {g : Nat} {t : TypeId} {cs : Array Value} (h : Blk w g t cs) (hb : Below w.heap.size w w') : Blk w' g t cs := heap_keep hb h
/-- The numbers between two knots. -/
theorem kv_facts {xs : List Int} {n m : Nat} {x : Int} (hv : knotsB xs n = true) (hm : m + 1 < n) (hp : ffN xs x n = m + 1) :
    ∃ a b c d : Int, xs.getD (m * 2) 0 = a ∧ xs.getD (m * 2 + 1) 0 = b ∧ xs.getD ((m + 1) * 2) 0 = c ∧ xs.getD ((m + 1) * 2 + 1) 0 = d ∧ (-1000000 ≤ a ∧ a ≤ 1000000) ∧ (-1000000 ≤ b ∧ b ≤ 1000000) ∧ (-1000000 ≤ c ∧ c ≤ 1000000) ∧ (-1000000 ≤ d ∧ d ≤ 1000000) ∧ a < c ∧ a < x ∧ x ≤ c ∧ kvF xs n x = b + rdiv ((d - b) * (x - a)) (c - a) := by
  obtain ⟨-, -, h⟩ := knotsB_at hv
  obtain ⟨f1, f2, f3⟩ := ffN_spec xs x n
  rw [hp] at f2 f3
  obtain ⟨a1, a2, -⟩ := h m (by omega)
  obtain ⟨c1, c2, c3⟩ := h (m + 1) hm
  have c4 := c3 (by omega)
  rw [Nat.add_sub_cancel] at c4
  exact ⟨_, _, _, _, rfl, rfl, rfl, rfl, a1, a2, c1, c2, c4, f2 m (by omega), f3 (by omega), kvF_mid hv hp hm⟩
theorem rdiv_small (a b M : Int) (hb : 0 < b) (h0 : -M ≤ a) (h1 : a ≤ M) (hM : 0 ≤ M) : -M ≤ rdiv a b ∧ rdiv a b ≤ M + 1 := by
  have := ediv_bd a b M hb h0 h1 hM
  unfold rdiv; split <;> omega
theorem implKnotValue_any (A : Option Addr) (n c : Nat) (xs : List Int) (x : Int) (w : World) (hn : xs.length = n * 2) (h : Ints w w.heap.size A xs) (hlen : n ≤ 4294967296) :
    Calls Try.prog 25 #[.slice A n c, .int .i64 x] w fun e w' => e = .returned (.int .i64 (kvF xs n x)) ∧ Below w.heap.size w w' := by
  have HN := Lib.hid hn
  clear hn
  cases hv : knotsB xs n
  · have e0 := Lib.hid (kvF_no x hv)
    go_enter Try.func25, Try.ntmps25
    go_wp2_with (go_at_call 16; refine (implKnotsValid_any A n c xs _ HN.out h hlen).mono ?_; rintro e w1 ⟨he, b1⟩; rw [hv] at he; subst he)
    go_ret
    exact ⟨ret_int e0.out.symm, (by repeat (first | exact bw_refl _ | assumption | apply bw_alloc | apply bw_drew | apply bw_drewN | (refine bw_trans ?_ (by assumption)) | (refine bw_set ?_ (by simp only [go_sem]; omega) _)))⟩
  · obtain ⟨n2, n12, -⟩ := knotsB_at hv
    have HV := Lib.hid hv
    clear hv
    go_enter Try.func25, Try.ntmps25
    go_wp2_with fail
    refine (implKnotsValid_any A n c xs _ HN.out h hlen).mono ?_
    rintro e w1 ⟨he, b1⟩
    rw [HV.out] at he
    subst he
    have h1 := h.up b1
    obtain ⟨b, off, rfl, hbl, hc⟩ := h1 (by rw [HN.out]; omega)
    have HC := Lib.hid hc
    have F := firstFrom_any (some ⟨b, off, none⟩) n c xs x w1 HN.out h1 HV.out
    obtain ⟨f1, f2, f3⟩ := ffN_spec xs x n
    clear h h1 hc f2 f3
    go_wp2_with fail
    refine F.mono ?_
    rintro e w' ⟨rfl, rfl⟩
    clear F
    rcases Nat.eq_zero_or_pos (ffN xs x n) with hz | hz
    · have e0 := Lib.hid (kvF_first HV.out hz)
      rw [hz]
      have k1 := HC.out 1 (by rw [HN.out]; omega)
      obtain ⟨v, hv⟩ : ∃ v, xs.getD 1 0 = v := ⟨_, rfl⟩
      rw [hv] at k1
      have e1 : Hid (kVal xs 0 = v) := hv
      have i1 : (0 : Int) < (n : Int) := by omega
      clear hz hv f1
      go_wp2
      go_ret
      exact ⟨ret_int (by rw [e0.out, e1.out]), b1⟩
    · rcases Nat.lt_or_eq_of_le f1 with hlt | heq
      · obtain ⟨m, hm⟩ : ∃ m, ffN xs x n = m + 1 := ⟨ffN xs x n - 1, by omega⟩
        have hmn : m + 1 < n := by omega
        obtain ⟨a, vb, c', d, ha, hb', hc', hd, ⟨a0, a1⟩, ⟨v0, v1⟩, ⟨c0, c1⟩, ⟨d0, d1⟩, hac, hax, hxc, hkv⟩ := kv_facts HV.out hmn hm
        have KV := Lib.hid hkv
        have k1 := HC.out (m * 2) (by rw [HN.out]; omega)
        have k2 : w1.cell? ⟨b, off + m * 2 + 1, none⟩ = _ := HC.out (m * 2 + 1) (by rw [HN.out]; omega)
        have k3 := HC.out ((m + 1) * 2) (by rw [HN.out]; omega)
        have k4 : w1.cell? ⟨b, off + (m + 1) * 2 + 1, none⟩ = _ := HC.out ((m + 1) * 2 + 1) (by rw [HN.out]; omega)
        rw [ha] at k1; rw [hb'] at k2; rw [hc'] at k3; rw [hd] at k4
        rw [hm]
        have ek : ((m + 1 : Nat) : Int) = (m : Int) + 1 := rfl
        rw [ek]
        have q1 : ((m : Int) + 1 == 0) = false := beq_eq_false_iff_ne.2 (by omega)
        have q2 : ((m : Int) + 1 == (n : Int)) = false := beq_eq_false_iff_ne.2 (by omega)
        have e1 : IntKind.i64.wrap (m : Int) = (m : Int) := IntWalk.i64_in _ (by omega)
        have e2 : ((m : Int) + 1).toNat = m + 1 := by omega
        have e3 : (m : Int).toNat = m := Int.toNat_natCast _
        have i0 : (0 : Int) ≤ (m : Int) := by omega
        have i1 : (m : Int) < (n : Int) := by omega
        have i2 : (0 : Int) ≤ (m : Int) + 1 := by omega
        have i3 : (m : Int) + 1 < (n : Int) := by omega
        have km := mul_bd21 (d - vb) (x - a) (by omega) (by omega) (by omega) (by omega)
        obtain ⟨P, hP⟩ : ∃ P, (d - vb) * (x - a) = P := ⟨_, rfl⟩
        rw [hP] at km KV
        have R := implRoundDiv_ok P (c' - a) (by omega) (by omega) (by omega) (by omega)
        have rb := rdiv_small P (c' - a) 4000000000000 (by omega) (by omega) (by omega) (by omega)
        generalize rdiv P (c' - a) = r at *
        have w1' : IntKind.i64.wrap (d - vb) = d - vb := IntWalk.i64_in _ (by omega)
        have w2' : IntKind.i64.wrap (x - a) = x - a := IntWalk.i64_in _ (by omega)
        have w3' : IntKind.i64.wrap P = P := IntWalk.i64_in _ (by omega)
        have w4' : IntKind.i64.wrap (c' - a) = c' - a := IntWalk.i64_in _ (by omega)
        have w5' : IntKind.i64.wrap (vb + r) = vb + r := IntWalk.i64_in _ (by omega)
        have z1 := hbl
        clear ha hb' hc' hd hkv hm hz hlt f1 ek km rb hac hax hxc
        go_upto_region 8 with fail
        go_cut [6, 7] (fun s6 s7 wx => ∃ g9 g10 : Nat, s6 = .pointer (some ⟨g9, 0, none⟩) ∧ s7 = .pointer (some ⟨g10, 0, none⟩) ∧ Blk wx g9 41 #[.int .i64 a, .int .i64 vb] ∧ Blk wx g10 41 #[.int .i64 c', .int .i64 d] ∧ Below w1.heap.size w1 wx)
        case first =>
          refine wp_region_below (by kernel_rfl) (fun wD hHeld => ?_)
          refine wpAnyH_take (i := 0) (v := ?_) (by (simp only [List.getElem?_toArray, List.getElem?_cons_zero]; rfl)) (by kernel_rfl) (by kernel_rfl) (by kernel_rfl) (by exact fun _ _ _ h => h) (Or.inl ⟨by rfl, ?_⟩) (by assumption) ?_
          rotate_left
          · (intro wS hS; clear hS; go_simp; try with_reducible rfl)
          try simp only [Act.put, List.setIfInBounds_toArray, List.set_cons_zero, List.set_cons_succ]
          refine wpAnyH_take (i := 1) (v := ?_) (by (simp only [List.getElem?_toArray, List.getElem?_cons_succ, List.getElem?_cons_zero]; rfl)) (by kernel_rfl) (by kernel_rfl) (by kernel_rfl) (by exact fun _ _ _ h => h) (Or.inl ⟨by rfl, ?_⟩) (by assumption) ?_
          rotate_left
          · (intro wS hS; clear hS; go_simp; try with_reducible rfl)
          try simp only [Act.put, List.setIfInBounds_toArray, List.set_cons_zero, List.set_cons_succ]
          refine wpAnyH_take (i := 2) (v := ?_) (by (simp only [List.getElem?_toArray, List.getElem?_cons_succ, List.getElem?_cons_zero]; rfl)) (by kernel_rfl) (by kernel_rfl) (by kernel_rfl) (by exact fun _ _ _ h => h) (Or.inl ⟨by rfl, ?_⟩) (by assumption) ?_
          rotate_left
          · (intro wS hS; clear hS; go_simp; try with_reducible rfl)
          try simp only [Act.put, List.setIfInBounds_toArray, List.set_cons_zero, List.set_cons_succ]
          refine wpAnyH_take (i := 3) (v := ?_) (by (simp only [List.getElem?_toArray, List.getElem?_cons_succ, List.getElem?_cons_zero]; rfl)) (by kernel_rfl) (by kernel_rfl) (by kernel_rfl) (by exact fun _ _ _ h => h) (Or.inl ⟨by rfl, ?_⟩) (by assumption) ?_
          rotate_left
          · (intro wS hS; clear hS; go_simp; try with_reducible rfl)
          try simp only [Act.put, List.setIfInBounds_toArray, List.set_cons_zero, List.set_cons_succ]
          refine wpAnyH_take (i := 4) (v := ?_) (by (simp only [List.getElem?_toArray, List.getElem?_cons_succ, List.getElem?_cons_zero]; rfl)) (by kernel_rfl) (by kernel_rfl) (by kernel_rfl) (by exact fun _ _ _ h => h) (Or.inl ⟨by rfl, ?_⟩) (by assumption) ?_
          rotate_left
          · (intro wS hS; have hSc := (bcell hS).1; clear hS; go_simp; try with_reducible rfl)
          try simp only [Act.put, List.setIfInBounds_toArray, List.set_cons_zero, List.set_cons_succ]
          refine wpAnyH_take (i := 5) (v := ?_) (by (simp only [List.getElem?_toArray, List.getElem?_cons_succ, List.getElem?_cons_zero]; rfl)) (by kernel_rfl) (by kernel_rfl) (by kernel_rfl) (by exact fun _ _ _ h => h) (Or.inl ⟨by rfl, ?_⟩) (by assumption) ?_
          rotate_left
          · (intro wS hS; clear hS; go_simp; try with_reducible rfl)
          try simp only [Act.put, List.setIfInBounds_toArray, List.set_cons_zero, List.set_cons_succ]
          refine wpAnyH_take (i := 6) (v := ?_) (by (simp only [List.getElem?_toArray, List.getElem?_cons_succ, List.getElem?_cons_zero]; rfl)) (by kernel_rfl) (by kernel_rfl) (by kernel_rfl) (by exact fun _ _ _ h => h) (Or.inl ⟨by rfl, ?_⟩) (by assumption) ?_
          rotate_left
          · (intro wS hS; clear hS; go_simp; try with_reducible rfl)
          try simp only [Act.put, List.setIfInBounds_toArray, List.set_cons_zero, List.set_cons_succ]
          refine wpAnyH_take (i := 7) (v := ?_) (by (simp only [List.getElem?_toArray, List.getElem?_cons_succ, List.getElem?_cons_zero]; rfl)) (by kernel_rfl) (by kernel_rfl) (by kernel_rfl) (by exact fun _ _ _ h => h) (Or.inl ⟨by rfl, ?_⟩) (by assumption) ?_
          rotate_left
          · (intro wS hS; clear hS; go_simp; try with_reducible rfl)
          try simp only [Act.put, List.setIfInBounds_toArray, List.set_cons_zero, List.set_cons_succ]
          refine wpAnyH_take (i := 8) (v := ?_) (by (simp only [List.getElem?_toArray, List.getElem?_cons_succ, List.getElem?_cons_zero]; rfl)) (by kernel_rfl) (by kernel_rfl) (by kernel_rfl) (by exact fun _ _ _ h => h) (Or.inl ⟨by rfl, ?_⟩) (by assumption) ?_
          rotate_left
          · (intro wS hS; have hSc := (bcell hS).1; clear hS; go_simp; try with_reducible rfl)
          try simp only [Act.put, List.setIfInBounds_toArray, List.set_cons_zero, List.set_cons_succ]
          refine wpAnyH_ready (rs := [9, 10]) (by kernel_rfl) (by simp) ?_
          refine AllReadyH.cons (by (simp only [List.getElem?_toArray, List.getElem?_cons_succ, List.getElem?_cons_zero]; rfl)) (fun K hK => ?_) (AllReadyH.cons (by (simp only [List.getElem?_toArray, List.getElem?_cons_succ, List.getElem?_cons_zero]; rfl)) (fun K hK => ?_) AllReadyH.nil)
          · (try have hlt := Blk.lt hn10)
            go_simp
            have hge := hHeld.size
            refine alloc_step (fun wa hb hnew => ?_)
            have hn9 : Blk _ _ _ _ := hnew
            have hg9 := hge
            (try replace hn10 := Blk.up hn10 hb)
            refine hK.out _ _ (by repeat (first | exact bw_refl _ | assumption | apply bw_alloc | apply bw_drew | apply bw_drewN | (refine bw_trans ?_ (by assumption)) | (refine bw_set ?_ (by simp only [go_sem]; omega) _))) (fun hHeld => ?_)
            clear hK K
            try simp only [Act.put, List.setIfInBounds_toArray, List.set_cons_zero, List.set_cons_succ]
            refine wpAnyH_ready (rs := [10]) (by kernel_rfl) (by simp) ?_
            refine AllReadyH.cons (by (simp only [List.getElem?_toArray, List.getElem?_cons_succ, List.getElem?_cons_zero]; rfl)) (fun K hK => ?_) AllReadyH.nil
            (try have hlt := Blk.lt hn9)
            go_simp
            have hge := hHeld.size
            refine alloc_step (fun wa hb hnew => ?_)
            have hn10 : Blk _ _ _ _ := hnew
            have hg10 := hge
            (try replace hn9 := Blk.up hn9 hb)
            refine hK.out _ _ (by repeat (first | exact bw_refl _ | assumption | apply bw_alloc | apply bw_drew | apply bw_drewN | (refine bw_trans ?_ (by assumption)) | (refine bw_set ?_ (by simp only [go_sem]; omega) _))) (fun hHeld => ?_)
            clear hK K
            try simp only [Act.put, List.setIfInBounds_toArray, List.set_cons_zero, List.set_cons_succ]
            refine wpAnyH_ready (rs := [11]) (by kernel_rfl) (by simp) ?_
            refine AllReadyH.cons (by (simp only [List.getElem?_toArray, List.getElem?_cons_succ, List.getElem?_cons_zero]; rfl)) (fun K hK => ?_) AllReadyH.nil
            obtain ⟨p0, p1, p2, p3⟩ := hn9.rd2
            obtain ⟨s0, s1, s2, s3⟩ := hn10.rd2
            have hne1 := Nat.ne_of_lt hlt
            have hne2 := Nat.ne_of_gt hlt
            go_simp
            replace hn9 := hn9.two (.int .i64 a) (.int .i64 vb)
            replace hn10 := Blk.far (p := ⟨_, 1, none⟩) (Blk.far (p := ⟨_, 0, none⟩) hn10 (by first | exact Nat.ne_of_lt hlt | exact Nat.ne_of_gt hlt) (.int .i64 a)) (by first | exact Nat.ne_of_lt hlt | exact Nat.ne_of_gt hlt) (.int .i64 vb)
            refine hK.out _ _ (by refine bw_set (bw_set ?_ ?_ _) ?_ _ <;> first | exact hHeld | exact hg9) (fun hHeld => ?_)
            clear hK K
            try simp only [Act.put, List.setIfInBounds_toArray, List.set_cons_zero, List.set_cons_succ]
            refine wpAnyH_ready (rs := [12]) (by kernel_rfl) (by simp) ?_
            refine AllReadyH.cons (by (simp only [List.getElem?_toArray, List.getElem?_cons_succ, List.getElem?_cons_zero]; rfl)) (fun K hK => ?_) AllReadyH.nil
            go_simp
            replace hn10 := hn10.two (.int .i64 c') (.int .i64 d)
            replace hn9 := Blk.far (p := ⟨_, 1, none⟩) (Blk.far (p := ⟨_, 0, none⟩) hn9 (by first | exact Nat.ne_of_lt hlt | exact Nat.ne_of_gt hlt) (.int .i64 c')) (by first | exact Nat.ne_of_lt hlt | exact Nat.ne_of_gt hlt) (.int .i64 d)
            refine hK.out _ _ (by refine bw_set (bw_set ?_ ?_ _) ?_ _ <;> first | exact hHeld | exact hg10) (fun hHeld => ?_)
            clear hK K
            try simp only [Act.put, List.setIfInBounds_toArray, List.set_cons_zero, List.set_cons_succ]
            refine wpAnyH_done (by kernel_rfl) ?_ _
            go_wp2_with fail
            go_meet
            exact ⟨_, _, rfl, rfl, hn9, hn10, hHeld⟩
          · (try have hlt := Blk.lt hn9)
            go_simp
            have hge := hHeld.size
            refine alloc_step (fun wa hb hnew => ?_)
            have hn10 : Blk _ _ _ _ := hnew
            have hg10 := hge
            (try replace hn9 := Blk.up hn9 hb)
            refine hK.out _ _ (by repeat (first | exact bw_refl _ | assumption | apply bw_alloc | apply bw_drew | apply bw_drewN | (refine bw_trans ?_ (by assumption)) | (refine bw_set ?_ (by simp only [go_sem]; omega) _))) (fun hHeld => ?_)
            clear hK K
            try simp only [Act.put, List.setIfInBounds_toArray, List.set_cons_zero, List.set_cons_succ]
            refine wpAnyH_ready (rs := [9]) (by kernel_rfl) (by simp) ?_
            refine AllReadyH.cons (by (simp only [List.getElem?_toArray, List.getElem?_cons_succ, List.getElem?_cons_zero]; rfl)) (fun K hK => ?_) AllReadyH.nil
            (try have hlt := Blk.lt hn10)
            go_simp
            have hge := hHeld.size
            refine alloc_step (fun wa hb hnew => ?_)
            have hn9 : Blk _ _ _ _ := hnew
            have hg9 := hge
            (try replace hn10 := Blk.up hn10 hb)
            refine hK.out _ _ (by repeat (first | exact bw_refl _ | assumption | apply bw_alloc | apply bw_drew | apply bw_drewN | (refine bw_trans ?_ (by assumption)) | (refine bw_set ?_ (by simp only [go_sem]; omega) _))) (fun hHeld => ?_)
            clear hK K
            try simp only [Act.put, List.setIfInBounds_toArray, List.set_cons_zero, List.set_cons_succ]
            refine wpAnyH_ready (rs := [11]) (by kernel_rfl) (by simp) ?_
            refine AllReadyH.cons (by (simp only [List.getElem?_toArray, List.getElem?_cons_succ, List.getElem?_cons_zero]; rfl)) (fun K hK => ?_) AllReadyH.nil
            obtain ⟨p0, p1, p2, p3⟩ := hn9.rd2
            obtain ⟨s0, s1, s2, s3⟩ := hn10.rd2
            have hne1 := Nat.ne_of_lt hlt
            have hne2 := Nat.ne_of_gt hlt
            go_simp
            replace hn9 := hn9.two (.int .i64 a) (.int .i64 vb)
            replace hn10 := Blk.far (p := ⟨_, 1, none⟩) (Blk.far (p := ⟨_, 0, none⟩) hn10 (by first | exact Nat.ne_of_lt hlt | exact Nat.ne_of_gt hlt) (.int .i64 a)) (by first | exact Nat.ne_of_lt hlt | exact Nat.ne_of_gt hlt) (.int .i64 vb)
            refine hK.out _ _ (by refine bw_set (bw_set ?_ ?_ _) ?_ _ <;> first | exact hHeld | exact hg9) (fun hHeld => ?_)
            clear hK K
            try simp only [Act.put, List.setIfInBounds_toArray, List.set_cons_zero, List.set_cons_succ]
            refine wpAnyH_ready (rs := [12]) (by kernel_rfl) (by simp) ?_
            refine AllReadyH.cons (by (simp only [List.getElem?_toArray, List.getElem?_cons_succ, List.getElem?_cons_zero]; rfl)) (fun K hK => ?_) AllReadyH.nil
            go_simp
            replace hn10 := hn10.two (.int .i64 c') (.int .i64 d)
            replace hn9 := Blk.far (p := ⟨_, 1, none⟩) (Blk.far (p := ⟨_, 0, none⟩) hn9 (by first | exact Nat.ne_of_lt hlt | exact Nat.ne_of_gt hlt) (.int .i64 c')) (by first | exact Nat.ne_of_lt hlt | exact Nat.ne_of_gt hlt) (.int .i64 d)
            refine hK.out _ _ (by refine bw_set (bw_set ?_ ?_ _) ?_ _ <;> first | exact hHeld | exact hg10) (fun hHeld => ?_)
            clear hK K
            try simp only [Act.put, List.setIfInBounds_toArray, List.set_cons_zero, List.set_cons_succ]
            refine wpAnyH_done (by kernel_rfl) ?_ _
            go_wp2_with fail
            go_meet
            exact ⟨_, _, rfl, rfl, hn9, hn10, hHeld⟩
        case rest =>
          obtain ⟨g9, g10, rfl, rfl, hn9, hn10, hb9⟩ := hcut
          have b2 := bw_trans b1 hb9
          clear k1 k2 k3 k4 z1 hb9 b1
          obtain ⟨p0, p1, -, -⟩ := hn9.rd2
          obtain ⟨p2, p3, -, -⟩ := hn10.rd2
          have z9 := hn9.lt
          have z10 := hn10.lt
          go_upto_region 9 with fail
          refine wp_region_below (by kernel_rfl) (fun wD hHeld => ?_)
          refine wpAnyH_take (i := 0) (v := ?_) (by (simp only [List.getElem?_toArray, List.getElem?_cons_zero]; rfl)) (by kernel_rfl) (by kernel_rfl) (by kernel_rfl) (by exact fun _ _ _ h => h) (Or.inl ⟨by rfl, ?_⟩) (by assumption) ?_
          rotate_left
          · (intro wS hS; clear hS; go_simp; try with_reducible rfl)
          try simp only [Act.put, List.setIfInBounds_toArray, List.set_cons_zero, List.set_cons_succ]
          refine wpAnyH_take (i := 1) (v := ?_) (by (simp only [List.getElem?_toArray, List.getElem?_cons_succ, List.getElem?_cons_zero]; rfl)) (by kernel_rfl) (by kernel_rfl) (by kernel_rfl) (by exact fun _ _ _ h => h) (Or.inl ⟨by rfl, ?_⟩) (by assumption) ?_
          rotate_left
          · (intro wS hS; have hSc := (bcell hS).1; clear hS; go_simp; try with_reducible rfl)
          try simp only [Act.put, List.setIfInBounds_toArray, List.set_cons_zero, List.set_cons_succ]
          refine wpAnyH_take (i := 2) (v := ?_) (by (simp only [List.getElem?_toArray, List.getElem?_cons_succ, List.getElem?_cons_zero]; rfl)) (by kernel_rfl) (by kernel_rfl) (by kernel_rfl) (by exact fun _ _ _ h => h) (Or.inl ⟨by rfl, ?_⟩) (by assumption) ?_
          rotate_left
          · (intro wS hS; clear hS; go_simp; try with_reducible rfl)
          try simp only [Act.put, List.setIfInBounds_toArray, List.set_cons_zero, List.set_cons_succ]
          refine wpAnyH_take (i := 3) (v := ?_) (by (simp only [List.getElem?_toArray, List.getElem?_cons_succ, List.getElem?_cons_zero]; rfl)) (by kernel_rfl) (by kernel_rfl) (by kernel_rfl) (by exact fun _ _ _ h => h) (Or.inl ⟨by rfl, ?_⟩) (by assumption) ?_
          rotate_left
          · (intro wS hS; have hSc := (bcell hS).1; clear hS; go_simp; try with_reducible rfl)
          try simp only [Act.put, List.setIfInBounds_toArray, List.set_cons_zero, List.set_cons_succ]
          refine wpAnyH_take (i := 4) (v := ?_) (by (simp only [List.getElem?_toArray, List.getElem?_cons_succ, List.getElem?_cons_zero]; rfl)) (by kernel_rfl) (by kernel_rfl) (by kernel_rfl) (by exact fun _ _ _ h => h) (Or.inl ⟨by rfl, ?_⟩) (by assumption) ?_
          rotate_left
          · (intro wS hS; clear hS; go_simp; try with_reducible rfl)
          try simp only [Act.put, List.setIfInBounds_toArray, List.set_cons_zero, List.set_cons_succ]
          refine wpAnyH_take (i := 5) (v := ?_) (by (simp only [List.getElem?_toArray, List.getElem?_cons_succ, List.getElem?_cons_zero]; rfl)) (by kernel_rfl) (by kernel_rfl) (by kernel_rfl) (by exact fun _ _ _ h => h) (Or.inl ⟨by rfl, ?_⟩) (by assumption) ?_
          rotate_left
          · (intro wS hS; have hSc := (bcell hS).1; clear hS; go_simp; try with_reducible rfl)
          try simp only [Act.put, List.setIfInBounds_toArray, List.set_cons_zero, List.set_cons_succ]
          refine wpAnyH_take (i := 6) (v := ?_) (by (simp only [List.getElem?_toArray, List.getElem?_cons_succ, List.getElem?_cons_zero]; rfl)) (by kernel_rfl) (by kernel_rfl) (by kernel_rfl) (by exact fun _ _ _ h => h) (Or.inl ⟨by rfl, ?_⟩) (by assumption) ?_
          rotate_left
          · (intro wS hS; clear hS; go_simp; try with_reducible rfl)
          try simp only [Act.put, List.setIfInBounds_toArray, List.set_cons_zero, List.set_cons_succ]
          refine wpAnyH_take (i := 7) (v := ?_) (by (simp only [List.getElem?_toArray, List.getElem?_cons_succ, List.getElem?_cons_zero]; rfl)) (by kernel_rfl) (by kernel_rfl) (by kernel_rfl) (by exact fun _ _ _ h => h) (Or.inl ⟨by rfl, ?_⟩) (by assumption) ?_
          rotate_left
          · (intro wS hS; clear hS; go_simp; try with_reducible rfl)
          try simp only [Act.put, List.setIfInBounds_toArray, List.set_cons_zero, List.set_cons_succ]
          refine wpAnyH_take (i := 8) (v := ?_) (by (simp only [List.getElem?_toArray, List.getElem?_cons_succ, List.getElem?_cons_zero]; rfl)) (by kernel_rfl) (by kernel_rfl) (by kernel_rfl) (by exact fun _ _ _ h => h) (Or.inl ⟨by rfl, ?_⟩) (by assumption) ?_
          rotate_left
          · (intro wS hS; clear hS; go_simp; try with_reducible rfl)
          try simp only [Act.put, List.setIfInBounds_toArray, List.set_cons_zero, List.set_cons_succ]
          refine wpAnyH_take (i := 9) (v := ?_) (by (simp only [List.getElem?_toArray, List.getElem?_cons_succ, List.getElem?_cons_zero]; rfl)) (by kernel_rfl) (by kernel_rfl) (by kernel_rfl) (by exact fun _ _ _ h => h) (Or.inl ⟨by rfl, ?_⟩) (by assumption) ?_
          rotate_left
          · (intro wS hS; have hSc := (bcell hS).1; clear hS; go_simp; try with_reducible rfl)
          try simp only [Act.put, List.setIfInBounds_toArray, List.set_cons_zero, List.set_cons_succ]
          refine wpAnyH_take (i := 10) (v := ?_) (by (simp only [List.getElem?_toArray, List.getElem?_cons_succ, List.getElem?_cons_zero]; rfl)) (by kernel_rfl) (by kernel_rfl) (by kernel_rfl) (by exact fun _ _ _ h => h) (Or.inl ⟨by rfl, ?_⟩) (by assumption) ?_
          rotate_left
          · (intro wS hS; clear hS; go_simp; try with_reducible rfl)
          try simp only [Act.put, List.setIfInBounds_toArray, List.set_cons_zero, List.set_cons_succ]
          refine wpAnyH_take (i := 11) (v := ?_) (by (simp only [List.getElem?_toArray, List.getElem?_cons_succ, List.getElem?_cons_zero]; rfl)) (by kernel_rfl) (by kernel_rfl) (by kernel_rfl) (by exact fun _ _ _ h => h) (Or.inl ⟨by rfl, ?_⟩) (by assumption) ?_
          rotate_left
          · (intro wS hS; clear hS; go_simp; try with_reducible rfl)
          try simp only [Act.put, List.setIfInBounds_toArray, List.set_cons_zero, List.set_cons_succ]
          refine wpAnyH_take (i := 12) (v := ?_) (by (simp only [List.getElem?_toArray, List.getElem?_cons_succ, List.getElem?_cons_zero]; rfl)) (by kernel_rfl) (by kernel_rfl) (by kernel_rfl) (by exact fun _ _ _ h => h) (Or.inl ⟨by rfl, ?_⟩) (by assumption) ?_
          rotate_left
          · (intro wS hS; clear hS; go_simp; try with_reducible rfl)
          try simp only [Act.put, List.setIfInBounds_toArray, List.set_cons_zero, List.set_cons_succ]
          refine wpAnyH_take (i := 13) (v := ?_) (by (simp only [List.getElem?_toArray, List.getElem?_cons_succ, List.getElem?_cons_zero]; rfl)) (by kernel_rfl) (by kernel_rfl) (by kernel_rfl) (by exact fun _ _ _ h => h) (Or.inl ⟨by rfl, ?_⟩) (by assumption) ?_
          rotate_left
          · (intro wS hS; have hSc := (bcell hS).1; clear hS; go_simp; try with_reducible rfl)
          try simp only [Act.put, List.setIfInBounds_toArray, List.set_cons_zero, List.set_cons_succ]
          refine wpAnyH_take (i := 14) (v := ?_) (by (simp only [List.getElem?_toArray, List.getElem?_cons_succ, List.getElem?_cons_zero]; rfl)) (by kernel_rfl) (by kernel_rfl) (by kernel_rfl) (by exact fun _ _ _ h => h) (Or.inl ⟨by rfl, ?_⟩) (by assumption) ?_
          rotate_left
          · (intro wS hS; clear hS; go_simp; try with_reducible rfl)
          try simp only [Act.put, List.setIfInBounds_toArray, List.set_cons_zero, List.set_cons_succ]
          refine wpAnyH_take (i := 15) (v := ?_) (by (simp only [List.getElem?_toArray, List.getElem?_cons_succ, List.getElem?_cons_zero]; rfl)) (by kernel_rfl) (by kernel_rfl) (by kernel_rfl) (by exact fun _ _ _ h => h) (Or.inl ⟨by rfl, ?_⟩) (by assumption) ?_
          rotate_left
          · (intro wS hS; have hSc := (bcell hS).1; clear hS; go_simp; try with_reducible rfl)
          try simp only [Act.put, List.setIfInBounds_toArray, List.set_cons_zero, List.set_cons_succ]
          refine wpAnyH_take (i := 16) (v := ?_) (by (simp only [List.getElem?_toArray, List.getElem?_cons_succ, List.getElem?_cons_zero]; rfl)) (by kernel_rfl) (by kernel_rfl) (by kernel_rfl) (by exact fun _ _ _ h => h) (Or.inl ⟨by rfl, ?_⟩) (by assumption) ?_
          rotate_left
          · (intro wS hS; clear hS; go_simp; try with_reducible rfl)
          try simp only [Act.put, List.setIfInBounds_toArray, List.set_cons_zero, List.set_cons_succ]
          refine wpAnyH_ready (rs := [17]) (by kernel_rfl) (by simp) ?_
          refine AllReadyH.cons (by (simp only [List.getElem?_toArray, List.getElem?_cons_succ, List.getElem?_cons_zero]; rfl)) (fun K hK => ?_) AllReadyH.nil
          go_simp
          ((go_at_call 41; (with_reducible refine (R _).mono ?_); rintro e w5 ⟨rfl, rfl⟩))
          (try go_wp2_with fail)
          refine hK.out _ _ (by repeat (first | exact bw_refl _ | assumption | apply bw_alloc | apply bw_drew | apply bw_drewN | (refine bw_trans ?_ (by assumption)) | (refine bw_set ?_ (by simp only [go_sem]; omega) _))) (fun hHeld => ?_)
          clear hK K
          try simp only [Act.put, List.setIfInBounds_toArray, List.set_cons_zero, List.set_cons_succ]
          refine wpAnyH_take (i := 18) (v := ?_) (by (simp only [List.getElem?_toArray, List.getElem?_cons_succ, List.getElem?_cons_zero]; rfl)) (by kernel_rfl) (by kernel_rfl) (by kernel_rfl) (by exact fun _ _ _ h => h) (Or.inl ⟨by rfl, ?_⟩) (by assumption) ?_
          rotate_left
          · (intro wS hS; clear hS; go_simp; try with_reducible rfl)
          try simp only [Act.put, List.setIfInBounds_toArray, List.set_cons_zero, List.set_cons_succ]
          refine wpAnyH_take (i := 19) (v := ?_) (by (simp only [List.getElem?_toArray, List.getElem?_cons_succ, List.getElem?_cons_zero]; rfl)) (by kernel_rfl) (by kernel_rfl) (by kernel_rfl) (by exact fun _ _ _ h => h) (Or.inl ⟨by rfl, ?_⟩) (by assumption) ?_
          rotate_left
          · (intro wS hS; clear hS; go_simp; try with_reducible rfl)
          try simp only [Act.put, List.setIfInBounds_toArray, List.set_cons_zero, List.set_cons_succ]
          refine wpAnyH_done (by kernel_rfl) ?_ _
          go_wp2
          go_ret
          exact ⟨ret_int KV.out.symm, (by repeat (first | exact bw_refl _ | assumption | apply bw_alloc | apply bw_drew | apply bw_drewN | (refine bw_trans ?_ (by assumption)) | (refine bw_set ?_ (by simp only [go_sem]; omega) _)))⟩
      · obtain ⟨m, hm⟩ : ∃ m, n = m + 1 := ⟨n - 1, by omega⟩
        have e0 := Lib.hid (kvF_last HV.out heq (by omega))
        rw [heq]
        have hm2 : n - 1 = m := by omega
        rw [hm2] at e0
        have k1 : w1.cell? ⟨b, off + m * 2 + 1, none⟩ = _ := HC.out (m * 2 + 1) (by rw [HN.out]; omega)
        obtain ⟨v, hv⟩ : ∃ v, xs.getD (m * 2 + 1) 0 = v := ⟨_, rfl⟩
        rw [hv] at k1
        have e1 : Hid (kVal xs m = v) := hv
        have q1 : ((n : Int) == 0) = false := beq_eq_false_iff_ne.2 (by omega)
        have q2 : ((n : Int) == (n : Int)) = true := beq_self_eq_true _
        have q3 : IntKind.i64.wrap ((n : Int) - 1) = (m : Int) := by rw [IntWalk.i64_in _ (by omega)]; omega
        have q4 : (n : Int) - 1 = (m : Int) := by omega
        have e3 : (m : Int).toNat = m := Int.toNat_natCast _
        have i0 : (0 : Int) ≤ (m : Int) := by omega
        have i1 : (m : Int) < (n : Int) := by omega
        clear hv hm hm2 heq hz f1
        go_wp2
        go_ret
        exact ⟨ret_int (by rw [e0.out, e1.out]), b1⟩
end Go.Proofs.Ytiimaodphhaohaa
