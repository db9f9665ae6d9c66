/- The walk of the law RotateTwice; no condition. -/
import Derived.Test.YtndpmcegealhiaaRotL2
import Derived.Test.YtndpmcegealhiaaVDrawB
namespace Go.Proofs.Ytndpmcegealhiaa
open Go.RowKit
set_option linter.unusedVariables false
set_option linter.unusedSimpArgs false
set_option maxHeartbeats 2000000

def GetsVB (w : World) (e : Ending) (w' : World) : Prop := ∃ X Y v : Int, e = .returned (.tuple #[.agg #[.int .i64 X, .int .i64 Y], .int .i64 v]) ∧ Below w.heap.size w w' ∧ Sm X Y
theorem drawRotateVectorB_any (A : Option Addr) (n c : Nat) (xs : List Int) (w0 w : World) (h : Byts w0 w0.heap.size A xs) (hn : xs.length = n) (hc : n ≤ c) (hm : c ≤ maxLen) (hlen : n ≤ 1048576) (hb0 : Below w0.heap.size w0 w) :
    Calls Try.prog 7 #[.slice A n c] w (GetsVB w) := by
  have l2 := Blk.new w 24 #[.int .i64 0, .int .i64 0]
  go_enter Try.func7, Try.ntmps7
  go_wp2_with fail
  refine (open_any A n c xs w0 _ h hn hc hm hlen (hb0.alloc hb0.size _)).mono ?_
  rintro e w1 ⟨R, rfl, hRs, hR, hb⟩
  have hb1 : Below w.heap.size w w1 := (by repeat (first | exact bw_refl _ | assumption | apply bw_alloc | apply bw_drew | apply bw_drewN | (refine bw_trans ?_ (by assumption)) | (refine bw_set ?_ (by simp only [go_sem]; omega) _)))
  replace l2 := heap_keep hb l2
  rw [World.size_alloc] at hRs
  clear hb
  go_wp2_with fail
  refine (l20VectorB_any R 0 _ hR (by omega)).mono ?_
  rintro e w2 ⟨X, Y, rfl, hR2, hO, hsm⟩
  have hb2 := below_only hb1 hO (by omega)
  replace l2 := only_keep hO l2 (by omega)
  clear hO hb1 hR
  go_wp2_with fail
  refine (l20Angle_any R _ _ hR2 (by omega)).mono ?_
  rintro e w3 ⟨v, rfl, -, hR3, hO⟩
  have hb3 := below_only hb2 hO (by omega)
  replace l2 := only_keep hO l2 (by omega)
  clear hO hb2 hR2 hR3
  have n0 := Blk.cell l2 0
  have n1 := Blk.cell l2 1
  have m0 := Blk.frozen l2 0
  have m1 := Blk.frozen l2 1
  simp at n0 n1
  go_wp2
  refine bodyPost_ret (by simp only [results, Try.results7]; go_simp; all_goals (first | exact rfl | exact ⟨rfl, rfl⟩ | skip)) rfl ⟨X, Y, v, rfl, (by repeat (first | exact bw_refl _ | assumption | apply bw_alloc | apply bw_drew | apply bw_drewN | (refine bw_trans ?_ (by assumption)) | (refine bw_set ?_ (by simp only [go_sem]; omega) _))), hsm⟩
theorem cs_half : csT 32768 = (-16384, 0) := by
  have e : eighC 0 = 16384 ∧ eighS 0 = 0 := ⟨rfl, rfl⟩
  show rotQ (if foldB 32768 = true then (eighS (foldR 32768), eighC (foldR 32768)) else (eighC (foldR 32768), eighS (foldR 32768))) 2 = _
  have h1 : foldB 32768 = false := rfl
  have h2 : foldR 32768 = 0 := rfl
  rw [h1, h2, e.1, e.2]
  rfl
theorem rot_half {x y : Int} (h : vecB 1048576 x y = true) : rotF x y 32768 = (-x, -y) := by
  unfold rotF
  rw [h, show inB 32768 (-1152921504606846976) 1152921504606846976 = true from by decide, cs_half]
  simp only [Bool.and_self, if_true]
  rw [show (-16384 : Int) * x - 0 * y = 16384 * (-x) by omega, show (0 : Int) * x + (-16384) * y = 16384 * (-y) by omega, rdiv_own, rdiv_own]
theorem vec_turn {m x y : Int} (h : vecB m x y = true) : vecB m (-y) x = true := by
  obtain ⟨⟨a, b⟩, c, d⟩ := vecB_spec _ _ _ h
  unfold vecB; rw [Bool.and_eq_true, inB_iff, inB_iff]; omega
theorem run_max2m (p q r : Int) (h : max p q = r) (ts : Array TypeId) (t : TypeId) (W : World) : (Builtin.max_ ts t #[.int .i64 p, .int .i64 q]).run Try.prog W = .ok (.int .i64 r) W := by
  rw [run_max2, h]
theorem walk_FnRotateTwice (A : Option Addr) (n c : Nat) (xs : List Int) (w : World) (h : Byts w w.heap.size A xs) (hn : xs.length = n) (hc : n ≤ c) (hm : c ≤ maxLen) :
    Calls Try.prog 5 #[.slice A n c] w fun e w' => e = .returned (.bool true) ∧ Below w.heap.size w w' := by
  by_cases hbig : 1048576 < n
  · unfold maxLen at hm
    clear hn
    go_enter Try.func5, Try.ntmps5
    go_wp2
    go_ret
    exact ⟨rfl, (by repeat (first | exact bw_refl _ | assumption | apply bw_alloc | apply bw_drew | apply bw_drewN | (refine bw_trans ?_ (by assumption)) | (refine bw_set ?_ (by simp only [go_sem]; omega) _)))⟩
  · have HN := Lib.hid hn
    clear hn
    go_enter Try.func5, Try.ntmps5
    go_wp2_with fail
    refine (drawRotateVectorB_any A n c xs w _ h HN.out hc hm (by omega) (bw_refl w)).mono ?_
    rintro e w1 ⟨x, y, a, rfl, b1, ⟨x0, x1⟩, y0, y1⟩
    have l3 := Blk.new w1 24 #[.int .i64 x, .int .i64 y]
    have b2 : Below w.heap.size w (w1.alloc (.cells #[.int .i64 x, .int .i64 y] 24)) := (by repeat (first | exact bw_refl _ | assumption | apply bw_alloc | apply bw_drew | apply bw_drewN | (refine bw_trans ?_ (by assumption)) | (refine bw_set ?_ (by simp only [go_sem]; omega) _)))
    have M1 := specRot_any x y a
    have M2 := implRot_any x y a
    unfold IsVec at M1 M2
    generalize (rotF x y a).1 = X at *
    generalize (rotF x y a).2 = Y at *
    go_upto_region 4 with fail
    obtain ⟨g3, hg3⟩ : ∃ g, w1.heap.size = g := ⟨_, rfl⟩
    rw [hg3] at l3
    try simp only [hg3]
    generalize w1.alloc (.cells #[.int .i64 x, .int .i64 y] 24) = W at *
    clear hg3 b1
    obtain ⟨c0, c1, -, -⟩ := l3.rd2
    have z3 := l3.lt
    refine wp_region_below (by kernel_rfl) (fun wD hHeld => ?_)
    refine wpAnyH_take (i := 0) (v := ?_) (by (simp only [List.getElem?_toArray, List.getElem?_cons_zero]; rfl)) (by kernel_rfl) (by kernel_rfl) (by kernel_rfl) (by exact fun _ _ _ h => h) (Or.inl ⟨by rfl, ?_⟩) (by assumption) ?_
    rotate_left
    · (intro wS hS; have hSc := (bcell hS).1; clear hS; go_simp; try with_reducible rfl)
    try simp only [Act.put, List.setIfInBounds_toArray, List.set_cons_zero, List.set_cons_succ]
    refine wpAnyH_take (i := 1) (v := ?_) (by (simp only [List.getElem?_toArray, List.getElem?_cons_succ, List.getElem?_cons_zero]; rfl)) (by kernel_rfl) (by kernel_rfl) (by kernel_rfl) (by exact fun _ _ _ h => h) (Or.inl ⟨by rfl, ?_⟩) (by assumption) ?_
    rotate_left
    · (intro wS hS; clear hS; go_simp; try with_reducible rfl)
    try simp only [Act.put, List.setIfInBounds_toArray, List.set_cons_zero, List.set_cons_succ]
    refine wpAnyH_take (i := 3) (v := ?_) (by (simp only [List.getElem?_toArray, List.getElem?_cons_succ, List.getElem?_cons_zero]; rfl)) (by kernel_rfl) (by kernel_rfl) (by kernel_rfl) (by exact fun _ _ _ h => h) (Or.inl ⟨by rfl, ?_⟩) (by assumption) ?_
    rotate_left
    · (intro wS hS; have hSc := (bcell hS).1; clear hS; go_simp; try with_reducible rfl)
    try simp only [Act.put, List.setIfInBounds_toArray, List.set_cons_zero, List.set_cons_succ]
    refine wpAnyH_take (i := 4) (v := ?_) (by (simp only [List.getElem?_toArray, List.getElem?_cons_succ, List.getElem?_cons_zero]; rfl)) (by kernel_rfl) (by kernel_rfl) (by kernel_rfl) (by exact fun _ _ _ h => h) (Or.inl ⟨by rfl, ?_⟩) (by assumption) ?_
    rotate_left
    · (intro wS hS; clear hS; go_simp; try with_reducible rfl)
    try simp only [Act.put, List.setIfInBounds_toArray, List.set_cons_zero, List.set_cons_succ]
    refine wpAnyH_ready (rs := [2]) (by kernel_rfl) (by simp) ?_
    refine AllReadyH.cons (by (simp only [List.getElem?_toArray, List.getElem?_cons_succ, List.getElem?_cons_zero]; rfl)) (fun K hK => ?_) AllReadyH.nil
    go_simp
    (first | (go_at_call 9; (with_reducible refine (M1 _).mono ?_); rintro e w5 ⟨rfl, hb5⟩) | (go_at_call 8; (with_reducible refine (M2 _).mono ?_); rintro e w6 ⟨rfl, hb6⟩))
    (try go_wp2_with fail)
    refine hK.out _ _ (by repeat (first | exact bw_refl _ | assumption | apply bw_alloc | apply bw_drew | apply bw_drewN | (refine bw_trans ?_ (by assumption)) | (refine bw_set ?_ (by simp only [go_sem]; omega) _))) (fun hHeld => ?_)
    clear hK K
    try simp only [Act.put, List.setIfInBounds_toArray, List.set_cons_zero, List.set_cons_succ]
    refine wpAnyH_ready (rs := [5]) (by kernel_rfl) (by simp) ?_
    refine AllReadyH.cons (by (simp only [List.getElem?_toArray, List.getElem?_cons_succ, List.getElem?_cons_zero]; rfl)) (fun K hK => ?_) AllReadyH.nil
    go_simp
    (first | (go_at_call 9; (with_reducible refine (M1 _).mono ?_); rintro e w5 ⟨rfl, hb5⟩) | (go_at_call 8; (with_reducible refine (M2 _).mono ?_); rintro e w6 ⟨rfl, hb6⟩))
    (try go_wp2_with fail)
    refine hK.out _ _ (by repeat (first | exact bw_refl _ | assumption | apply bw_alloc | apply bw_drew | apply bw_drewN | (refine bw_trans ?_ (by assumption)) | (refine bw_set ?_ (by simp only [go_sem]; omega) _))) (fun hHeld => ?_)
    clear hK K
    try simp only [Act.put, List.setIfInBounds_toArray, List.set_cons_zero, List.set_cons_succ]
    refine wpAnyH_take (i := 6) (v := ?_) (by (simp only [List.getElem?_toArray, List.getElem?_cons_succ, List.getElem?_cons_zero]; rfl)) (by kernel_rfl) (by kernel_rfl) (by kernel_rfl) (by exact fun _ _ _ h => h) (Or.inl ⟨by rfl, ?_⟩) (by assumption) ?_
    rotate_left
    · (intro wS hS; clear hS; go_simp; try with_reducible rfl)
    try simp only [Act.put, List.setIfInBounds_toArray, List.set_cons_zero, List.set_cons_succ]
    refine wpAnyH_done (by kernel_rfl) ?_ _
    replace l3 := l3.up hHeld
    replace b2 := bw_trans b2 hHeld
    clear hHeld c0 c1 z3 M1 M2
    obtain ⟨c0, c1, -, -⟩ := l3.rd2
    have z3 := l3.lt
    obtain ⟨p, q, u, v, s, t, HP⟩ : ∃ p q u v s t : Int, Hid ((rotF x y 16384).1 = p ∧ (rotF x y 16384).2 = q ∧ (rotF p q 16384).1 = u ∧ (rotF p q 16384).2 = v ∧ (rotF x y 32768).1 = s ∧ (rotF x y 32768).2 = t) := ⟨_, _, _, _, _, _, rfl, rfl, rfl, rfl, rfl, rfl⟩
    have N1 := implRot_any x y 16384
    have N2 := implRot_any p q 16384
    have N3 := implRot_any x y 32768
    unfold IsVec at N1 N2 N3
    rw [HP.out.1, HP.out.2.1] at N1
    rw [HP.out.2.2.1, HP.out.2.2.2.1] at N2
    rw [HP.out.2.2.2.2.1, HP.out.2.2.2.2.2] at N3
    have hmost : Hid ((-1048576 ≤ x ∧ x ≤ 1048576) ∧ (-1048576 ≤ y ∧ y ≤ 1048576) → u = -x ∧ v = -y ∧ s = -x ∧ t = -y) := fun hxy => by
      have hv : vecB 1048576 x y = true := by unfold vecB; rw [Bool.and_eq_true, inB_iff, inB_iff]; exact hxy
      obtain ⟨h1, h2, h3, h4, h5, h6⟩ := HP.out
      rw [rot_quarter hv] at h1 h2
      rw [rot_half hv] at h5 h6
      simp only at h1 h2 h5 h6
      rw [← h1, ← h2, rot_quarter (vec_turn hv)] at h3 h4
      simp only at h3 h4
      exact ⟨h3.symm, h4.symm, h5.symm, h6.symm⟩
    clear HP
    go_wp2_with fail
    refine (N1 _).mono ?_
    rintro e w6 ⟨rfl, hb⟩
    replace l3 := l3.up hb
    replace b2 := bw_trans b2 hb
    clear hb c0 c1 z3 N1
    obtain ⟨c0, c1, -, -⟩ := l3.rd2
    have z3 := l3.lt
    go_wp2_with fail
    refine (N2 _).mono ?_
    rintro e w7 ⟨rfl, hb⟩
    replace l3 := (l3.up hb).alloc (.cells #[.int .i64 u, .int .i64 v] 24)
    have l5 := Blk.new w7 24 #[.int .i64 u, .int .i64 v]
    have b3 : Below w.heap.size w (w7.alloc (.cells #[.int .i64 u, .int .i64 v] 24)) := (by repeat (first | exact bw_refl _ | assumption | apply bw_alloc | apply bw_drew | apply bw_drewN | (refine bw_trans ?_ (by assumption)) | (refine bw_set ?_ (by simp only [go_sem]; omega) _)))
    clear hb c0 c1 z3 N2 b2
    obtain ⟨c0, c1, -, -⟩ := l3.rd2
    have z3 := l3.lt
    obtain ⟨g5, hg5⟩ : ∃ g, w7.heap.size = g := ⟨_, rfl⟩
    rw [hg5] at l5
    go_upto_region 7 with fail
    try simp only [hg5]
    generalize w7.alloc (.cells #[.int .i64 u, .int .i64 v] 24) = W at *
    clear hg5
    go_wp2_with fail
    refine (N3 _).mono ?_
    rintro e w8 ⟨rfl, hb⟩
    replace l3 := (l3.up hb).alloc (.cells #[.int .i64 s, .int .i64 t] 24)
    replace l5 := (l5.up hb).alloc (.cells #[.int .i64 s, .int .i64 t] 24)
    have l6 := Blk.new w8 24 #[.int .i64 s, .int .i64 t]
    have b4 : Below w.heap.size w (w8.alloc (.cells #[.int .i64 s, .int .i64 t] 24)) := (by repeat (first | exact bw_refl _ | assumption | apply bw_alloc | apply bw_drew | apply bw_drewN | (refine bw_trans ?_ (by assumption)) | (refine bw_set ?_ (by simp only [go_sem]; omega) _)))
    clear hb c0 c1 z3 N3 b3
    obtain ⟨g6, hg6⟩ : ∃ g, w8.heap.size = g := ⟨_, rfl⟩
    rw [hg6] at l6
    go_upto_region 8 with fail
    try simp only [hg6]
    generalize w8.alloc (.cells #[.int .i64 s, .int .i64 t] 24) = W2 at *
    clear hg6
    obtain ⟨c0, c1, -, -⟩ := l3.rd2
    obtain ⟨c2, c3, -, -⟩ := l5.rd2
    obtain ⟨c4, c5, -, -⟩ := l6.rd2
    have z3 := l3.lt
    have z5 := l5.lt
    have z6 := l6.lt
    have e1 : IntKind.i64.wrap (-x) = -x := IntWalk.i64_in _ (by omega)
    have e2 : IntKind.i64.wrap (-y) = -y := IntWalk.i64_in _ (by omega)
    obtain ⟨mx, hmx⟩ : ∃ m, max x (-x) = m := ⟨_, rfl⟩
    obtain ⟨my, hmy⟩ : ∃ m, max y (-y) = m := ⟨_, rfl⟩
    have r1 := run_max2m _ _ _ hmx
    have r2 := run_max2m _ _ _ hmy
    by_cases h1 : 1048576 < mx
    · clear hmx hmy hmost
      go_wp2_with (go_at_call 11; refine (alive_any _).mono ?_; rintro e w' ⟨rfl, rfl⟩)
      go_ret
      exact ⟨rfl, (by repeat (first | exact bw_refl _ | assumption | apply bw_alloc | apply bw_drew | apply bw_drewN | (refine bw_trans ?_ (by assumption)) | (refine bw_set ?_ (by simp only [go_sem]; omega) _)))⟩
    by_cases h2 : 1048576 < my
    · clear hmx hmy hmost
      go_wp2_with (go_at_call 11; refine (alive_any _).mono ?_; rintro e w' ⟨rfl, rfl⟩)
      go_ret
      exact ⟨rfl, (by repeat (first | exact bw_refl _ | assumption | apply bw_alloc | apply bw_drew | apply bw_drewN | (refine bw_trans ?_ (by assumption)) | (refine bw_set ?_ (by simp only [go_sem]; omega) _)))⟩
    obtain ⟨rfl, rfl, rfl, rfl⟩ := hmost.out ⟨by omega, by omega⟩
    clear hmx hmy hmost
    go_wp2_with (go_at_call 11; refine (alive_any _).mono ?_; rintro e w' ⟨rfl, rfl⟩)
    go_ret
    exact ⟨rfl, (by repeat (first | exact bw_refl _ | assumption | apply bw_alloc | apply bw_drew | apply bw_drewN | (refine bw_trans ?_ (by assumption)) | (refine bw_set ?_ (by simp only [go_sem]; omega) _)))⟩
end Go.Proofs.Ytndpmcegealhiaa
