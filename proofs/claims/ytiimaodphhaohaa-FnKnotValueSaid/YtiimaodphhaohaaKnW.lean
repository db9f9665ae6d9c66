/- The walk of the law KnotValue; no condition. -/
import Derived.Test.YtiimaodphhaohaaKnV
namespace Go.Proofs.Ytiimaodphhaohaa
open Go.RowKit
set_option linter.unusedVariables false
set_option linter.unusedSimpArgs false
set_option maxHeartbeats 2000000

theorem run_min2k (p q : Int) (ts : Array TypeId) (t : TypeId) (W : World) : (Builtin.min_ ts t #[.int .i64 p, .int .i64 q]).run Try.prog W = .ok (.int .i64 (min p q)) W := by
  have e2 : ∀ x y : Int, (if y < x then y else x) = min x y := fun x y => by split <;> omega
  simp [Builtin.min_, Builtin.min2, e2]
theorem walk_FnKnotValue (A : Option Addr) (n c : Nat) (xs : List Int) (w : World) (h : Byts w w.heap.size A xs) (hn : xs.length = n) (hc : n ≤ c) (hm : c ≤ maxLen) :
    Calls Try.prog 10 #[.slice A n c] w fun e w' => e = .returned (.bool true) ∧ Below w.heap.size w w' := by
  by_cases hbig : 1048576 < n
  · unfold maxLen at hm
    clear hn
    go_enter Try.func10, Try.ntmps10
    go_wp2
    go_ret
    exact ⟨rfl, (by repeat (first | exact bw_refl _ | assumption | apply bw_alloc | apply bw_drew | apply bw_drewN | (refine bw_trans ?_ (by assumption)) | (refine bw_set ?_ (by simp only [go_sem]; omega) _)))⟩
  · have HN := Lib.hid hn
    clear hn
    go_enter Try.func10, Try.ntmps10
    go_wp2_with fail
    refine (drawKnotValue_any A n c xs w _ h HN.out hc hm (by omega) (bw_refl w)).mono ?_
    rintro e w1 ⟨A1, k, c1, l, x, rfl, k1, k13, ho, ⟨x1, x2⟩, b1⟩
    have HL := Lib.hid ho.1
    have hkc : k ≤ c1 := ho.2.1
    go_wp2_with fail
    refine (implKnotValue_any A1 k c1 l x _ HL.out ho.ints (by omega)).mono ?_
    rintro e w2 ⟨rfl, b2⟩
    replace ho := ho.up b2
    have b3 := bw_trans b1 b2
    clear b1 b2
    go_wp2_with fail
    refine (specKnotValue_any A1 k c1 l x _ HL.out ho.ints (by omega)).mono ?_
    rintro e w3 ⟨rfl, b4⟩
    replace ho := ho.up b4
    replace b3 := bw_trans b3 b4
    clear b4
    go_wp2_with fail
    refine (specKnotsValid_any A1 k c1 l _ HL.out ho.ints (by omega)).mono ?_
    rintro e w4 ⟨rfl, b4⟩
    replace ho := ho.up b4
    replace b3 := bw_trans b3 b4
    clear b4
    cases hv : knotsB l k
    · have E0 := kvF_no x hv
      rw [E0]
      clear hv E0
      go_wp2_with (go_at_call 29; refine (alive_any _).mono ?_; rintro e w' ⟨rfl, rfl⟩)
      go_ret
      exact ⟨rfl, (by repeat (first | exact bw_refl _ | assumption | apply bw_alloc | apply bw_drew | apply bw_drewN | (refine bw_trans ?_ (by assumption)) | (refine bw_set ?_ (by simp only [go_sem]; omega) _)))⟩
    · obtain ⟨hk2, hk12, hkk⟩ := knotsB_at hv
      have HV := Lib.hid hv
      have HK : Hid (∀ j, j < k → -1000000 ≤ kVal l j ∧ kVal l j ≤ 1000000) := fun j hj => (hkk j hj).2.1
      clear hv hkk
      have i1 := ho.ints
      clear ho
      obtain ⟨b1, f1, rfl, hb1, hc1⟩ := i1 (by rw [HL.out]; omega)
      have q2 : w4.cell? ⟨b1, f1 + 1, none⟩ = _ := hc1 1 (by rw [HL.out]; omega)
      have z1 := hb1
      obtain ⟨y, hy⟩ : ∃ y, l.getD 1 0 = y := ⟨_, rfl⟩
      rw [hy] at q2
      have HY : Hid (kVal l 0 = y) := hy
      clear hy hc1
      obtain ⟨q, hq⟩ : ∃ q, kvF l k x = q := ⟨_, rfl⟩
      have HQ := Lib.hid hq
      rw [hq]
      clear hq
      have j0 : (0 : Int) < (k : Int) := by omega
      go_wp2
      go_loopw [6, 7, 8] (fun lo hi i wr => ∃ (j : Nat) (a b : Int), j ≤ k ∧ lo = .int .i64 a ∧ hi = .int .i64 b ∧ i = .int .i64 j ∧ Hid (∀ m, m < j → a ≤ kVal l m ∧ kVal l m ≤ b) ∧ Ints wr wr.heap.size (some ⟨b1, f1, none⟩) l ∧ Below w.heap.size w wr) (fun _ _ i _ => k - (intOf i).toNat)
      case atStart => exact ⟨0, y, y, Nat.zero_le _, rfl, rfl, rfl, fun m hm => absurd hm (Nat.not_lt_zero _), i1, b3⟩
      case round =>
        clear i1 b3 q2 z1 hb1
        obtain ⟨j, a, b, hj, rfl, rfl, rfl, hab, i1, hb⟩ := hrel
        by_cases hlt : j < k
        · have M := fun u v => implKnotValue_any (some ⟨b1, f1, none⟩) k c1 l u v HL.out
          have HJ := Lib.hid (kv_at HV.out hlt)
          obtain ⟨b1', f1', he', hb1, hc1⟩ := i1 (by rw [HL.out]; omega)
          obtain ⟨rfl, rfl⟩ : b1 = b1' ∧ f1 = f1' := by
            injection he' with he'; injection he' with h1 h2; exact ⟨h1, h2⟩
          have q1 := hc1 (j * 2) (by rw [HL.out]; omega)
          have q2 : wr.cell? ⟨b1, f1 + j * 2 + 1, none⟩ = _ := hc1 (j * 2 + 1) (by rw [HL.out]; omega)
          obtain ⟨u, hu⟩ : ∃ x, l.getD (j * 2) 0 = x := ⟨_, rfl⟩
          obtain ⟨v, hv⟩ : ∃ x, l.getD (j * 2 + 1) 0 = x := ⟨_, rfl⟩
          rw [hu] at q1
          rw [hv] at q2
          have HU : Hid (kAt l j = u) := hu
          have HW : Hid (kVal l j = v) := hv
          clear hu hv hc1 he'
          have z1 := hb1
          have j0 : (0 : Int) ≤ (j : Int) := by omega
          have j1 : (j : Int) < (k : Int) := by omega
          have j2 : (j : Int).toNat = j := Int.toNat_natCast _
          have hmn := run_min2k a v
          have hmx := fun ts t W => run_max2k b v _ rfl ts t W
          go_upto_region 16 with fail
          refine wp_region_below (by kernel_rfl) (fun wD hHeld => ?_)
          refine wpAnyH_take (i := 0) (v := ?_) (by (simp only [List.getElem?_toArray, List.getElem?_cons_zero]; rfl)) (by kernel_rfl) (by kernel_rfl) (by kernel_rfl) (by exact fun _ _ _ h => h) (Or.inl ⟨by rfl, ?_⟩) (by assumption) ?_
          rotate_left
          · (intro wS hS; clear hS; go_simp; try with_reducible rfl)
          try simp only [Act.put, List.setIfInBounds_toArray, List.set_cons_zero, List.set_cons_succ]
          refine wpAnyH_take (i := 1) (v := ?_) (by (simp only [List.getElem?_toArray, List.getElem?_cons_succ, List.getElem?_cons_zero]; rfl)) (by kernel_rfl) (by kernel_rfl) (by kernel_rfl) (by exact fun _ _ _ h => h) (Or.inl ⟨by rfl, ?_⟩) (by assumption) ?_
          rotate_left
          · (intro wS hS; clear hS; go_simp; try with_reducible rfl)
          try simp only [Act.put, List.setIfInBounds_toArray, List.set_cons_zero, List.set_cons_succ]
          refine wpAnyH_take (i := 2) (v := ?_) (by (simp only [List.getElem?_toArray, List.getElem?_cons_succ, List.getElem?_cons_zero]; rfl)) (by kernel_rfl) (by kernel_rfl) (by kernel_rfl) (by exact fun _ _ _ h => h) (Or.inl ⟨by rfl, ?_⟩) (by assumption) ?_
          rotate_left
          · (intro wS hS; clear hS; go_simp; try with_reducible rfl)
          try simp only [Act.put, List.setIfInBounds_toArray, List.set_cons_zero, List.set_cons_succ]
          refine wpAnyH_take (i := 3) (v := ?_) (by (simp only [List.getElem?_toArray, List.getElem?_cons_succ, List.getElem?_cons_zero]; rfl)) (by kernel_rfl) (by kernel_rfl) (by kernel_rfl) (by exact fun _ _ _ h => h) (Or.inl ⟨by rfl, ?_⟩) (by assumption) ?_
          rotate_left
          · (intro wS hS; clear hS; go_simp; try with_reducible rfl)
          try simp only [Act.put, List.setIfInBounds_toArray, List.set_cons_zero, List.set_cons_succ]
          refine wpAnyH_take (i := 4) (v := ?_) (by (simp only [List.getElem?_toArray, List.getElem?_cons_succ, List.getElem?_cons_zero]; rfl)) (by kernel_rfl) (by kernel_rfl) (by kernel_rfl) (by exact fun _ _ _ h => h) (Or.inl ⟨by rfl, ?_⟩) (by assumption) ?_
          rotate_left
          · (intro wS hS; clear hS; go_simp; try with_reducible rfl)
          try simp only [Act.put, List.setIfInBounds_toArray, List.set_cons_zero, List.set_cons_succ]
          refine wpAnyH_take (i := 5) (v := ?_) (by (simp only [List.getElem?_toArray, List.getElem?_cons_succ, List.getElem?_cons_zero]; rfl)) (by kernel_rfl) (by kernel_rfl) (by kernel_rfl) (by exact fun _ _ _ h => h) (Or.inl ⟨by rfl, ?_⟩) (by assumption) ?_
          rotate_left
          · (intro wS hS; have hSc := (bcell hS).1; clear hS; go_simp; try with_reducible rfl)
          try simp only [Act.put, List.setIfInBounds_toArray, List.set_cons_zero, List.set_cons_succ]
          refine wpAnyH_take (i := 7) (v := ?_) (by (simp only [List.getElem?_toArray, List.getElem?_cons_succ, List.getElem?_cons_zero]; rfl)) (by kernel_rfl) (by kernel_rfl) (by kernel_rfl) (by exact fun _ _ _ h => h) (Or.inl ⟨by rfl, ?_⟩) (by assumption) ?_
          rotate_left
          · (intro wS hS; clear hS; go_simp; try with_reducible rfl)
          try simp only [Act.put, List.setIfInBounds_toArray, List.set_cons_zero, List.set_cons_succ]
          refine wpAnyH_take (i := 8) (v := ?_) (by (simp only [List.getElem?_toArray, List.getElem?_cons_succ, List.getElem?_cons_zero]; rfl)) (by kernel_rfl) (by kernel_rfl) (by kernel_rfl) (by exact fun _ _ _ h => h) (Or.inl ⟨by rfl, ?_⟩) (by assumption) ?_
          rotate_left
          · (intro wS hS; clear hS; go_simp; try with_reducible rfl)
          try simp only [Act.put, List.setIfInBounds_toArray, List.set_cons_zero, List.set_cons_succ]
          refine wpAnyH_take (i := 9) (v := ?_) (by (simp only [List.getElem?_toArray, List.getElem?_cons_succ, List.getElem?_cons_zero]; rfl)) (by kernel_rfl) (by kernel_rfl) (by kernel_rfl) (by exact fun _ _ _ h => h) (Or.inl ⟨by rfl, ?_⟩) (by assumption) ?_
          rotate_left
          · (intro wS hS; clear hS; go_simp; try with_reducible rfl)
          try simp only [Act.put, List.setIfInBounds_toArray, List.set_cons_zero, List.set_cons_succ]
          refine wpAnyH_take (i := 10) (v := ?_) (by (simp only [List.getElem?_toArray, List.getElem?_cons_succ, List.getElem?_cons_zero]; rfl)) (by kernel_rfl) (by kernel_rfl) (by kernel_rfl) (by exact fun _ _ _ h => h) (Or.inl ⟨by rfl, ?_⟩) (by assumption) ?_
          rotate_left
          · (intro wS hS; clear hS; go_simp; try with_reducible rfl)
          try simp only [Act.put, List.setIfInBounds_toArray, List.set_cons_zero, List.set_cons_succ]
          refine wpAnyH_take (i := 11) (v := ?_) (by (simp only [List.getElem?_toArray, List.getElem?_cons_succ, List.getElem?_cons_zero]; rfl)) (by kernel_rfl) (by kernel_rfl) (by kernel_rfl) (by exact fun _ _ _ h => h) (Or.inl ⟨by rfl, ?_⟩) (by assumption) ?_
          rotate_left
          · (intro wS hS; have hSc := (bcell hS).1; clear hS; go_simp; try with_reducible rfl)
          try simp only [Act.put, List.setIfInBounds_toArray, List.set_cons_zero, List.set_cons_succ]
          refine wpAnyH_ready (rs := [6]) (by kernel_rfl) (by simp) ?_
          refine AllReadyH.cons (by (simp only [List.getElem?_toArray, List.getElem?_cons_succ, List.getElem?_cons_zero]; rfl)) (fun K hK => ?_) AllReadyH.nil
          go_simp
          ((go_at_call 25; (with_reducible refine (M u _ (by first | exact i1 | exact i1.up hHeld) (by omega)).mono ?_); rintro e w6 ⟨he, hb6⟩; rw [← HU.out, HJ.out, HW.out] at he; subst he))
          (try go_wp2_with fail)
          refine hK.out _ _ (by repeat (first | exact bw_refl _ | assumption | apply bw_alloc | apply bw_drew | apply bw_drewN | (refine bw_trans ?_ (by assumption)) | (refine bw_set ?_ (by simp only [go_sem]; omega) _))) (fun hHeld => ?_)
          clear hK K
          try simp only [Act.put, List.setIfInBounds_toArray, List.set_cons_zero, List.set_cons_succ]
          refine wpAnyH_take (i := 12) (v := ?_) (by (simp only [List.getElem?_toArray, List.getElem?_cons_succ, List.getElem?_cons_zero]; rfl)) (by kernel_rfl) (by kernel_rfl) (by kernel_rfl) (by exact fun _ _ _ h => h) (Or.inl ⟨by rfl, ?_⟩) (by assumption) ?_
          rotate_left
          · (intro wS hS; clear hS; go_simp; try with_reducible rfl)
          try simp only [Act.put, List.setIfInBounds_toArray, List.set_cons_zero, List.set_cons_succ]
          refine wpAnyH_done (by kernel_rfl) ?_ _
          have hn2 := hHeld
          go_wp2
          go_roundw
          case rel => exact ⟨j + 1, min a v, max b v, by omega, rfl, rfl, by go_num, fun m hm => by (rcases Nat.lt_or_eq_of_le (Nat.le_of_lt_succ hm) with h3 | h3; have := hab m h3; omega; rw [h3, HW.out]; omega), i1.up hn2, bw_trans hb hn2⟩
          case measure => simp [intOf]; omega
        · have hjk : j = k := by omega
          subst hjk
          obtain ⟨r1, r2⟩ := kv_range (x := x) HV.out (fun m hm => hab m hm)
          rw [HQ.out] at r1 r2
          by_cases hx : 1099511627776 < x
          · go_wp2
            go_ret
            exact ⟨rfl, hb⟩
          · cases hr : riseB l j
            · go_wp2_with fail
              refine (implKnotsRise_any _ j c1 l _ HL.out i1 (by omega)).mono ?_
              rintro e w6 ⟨he, b6⟩
              rw [hr] at he
              subst he
              go_wp2
              go_ret
              exact ⟨rfl, (by repeat (first | exact bw_refl _ | assumption | apply bw_alloc | apply bw_drew | apply bw_drewN | (refine bw_trans ?_ (by assumption)) | (refine bw_set ?_ (by simp only [go_sem]; omega) _)))⟩
            · have hnx := kv_next (x := x) hr
              rw [HQ.out] at hnx
              go_wp2_with fail
              refine (implKnotsRise_any _ j c1 l _ HL.out i1 (by omega)).mono ?_
              rintro e w6 ⟨he, b6⟩
              rw [hr] at he
              subst he
              have ew : IntKind.i64.wrap (x + 1) = x + 1 := IntWalk.i64_in _ (by omega)
              go_wp2_with fail
              refine (implKnotValue_any _ j c1 l (x + 1) _ HL.out (i1.up b6) (by omega)).mono ?_
              rintro e w7 ⟨rfl, b7⟩
              generalize kvF l j (x + 1) = q' at *
              go_wp2
              go_ret
              exact ⟨rfl, (by repeat (first | exact bw_refl _ | assumption | apply bw_alloc | apply bw_drew | apply bw_drewN | (refine bw_trans ?_ (by assumption)) | (refine bw_set ?_ (by simp only [go_sem]; omega) _)))⟩
end Go.Proofs.Ytiimaodphhaohaa
