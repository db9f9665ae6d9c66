/- The draw of a table and a place; condition: none. -/
import Derived.Test.YtiimaodphhaohaaKnM
namespace Go.Proofs.Ytiimaodphhaohaa
open Go.RowKit
set_option linter.unusedVariables false
set_option linter.unusedSimpArgs false
set_option maxHeartbeats 4000000

def GetsKX (w : World) (e : Ending) (w' : World) : Prop := ∃ (A : Option Addr) (n c : Nat) (l : List Int) (x : Int), e = .returned (.tuple #[.slice A n c, .int .i64 x]) ∧ 1 ≤ n ∧ n ≤ 13 ∧ OwnK w.heap.size w' A n c l ∧ (-9223372036854775808 ≤ x ∧ x ≤ 9223372036854775807) ∧ Below w.heap.size w w'
theorem OwnK.only {B n c R : Nat} {w w' : World} {A : Option Addr} {l : List Int} (h : OwnK B w A n c l) (hO : Only w w' R) (hR : R < B) : OwnK B w' A n c l :=
  ⟨h.1, h.2.1, fun hp => by
    obtain ⟨g, e, hg, hrow⟩ := h.2.2 hp
    exact ⟨g, e, hg, hrow.of_block (hO.block g hrow.lt (fun e2 => by injection e2 with e2; omega))⟩⟩
theorem run_max2k (p q r : Int) (h : max p q = r) (ts : Array TypeId) (t : TypeId) (W : World) : (Builtin.max_ ts t #[.int .i64 p, .int .i64 q]).run Try.prog W = .ok (.int .i64 r) W := by
  have e : ∀ x y : Int, (if x < y then y else x) = max x y := fun x y => by split <;> omega
  simp [Builtin.max_, Builtin.max2, e, h]
theorem drawKnotValue_any (A : Option Addr) (n c : Nat) (xs : List Int) (w0 w : World) (h : Byts w0 w0.heap.size A xs) (hn : xs.length = n) (hc : n ≤ c) (hm : c ≤ maxLen) (hlen : n ≤ 1048576) (hb0 : Below w0.heap.size w0 w) :
    Calls Try.prog 31 #[.slice A n c] w (GetsKX w) := by
  go_enter Try.func31, Try.ntmps31
  go_wp2_with fail
  refine (open_any A n c xs w0 _ h hn hc hm hlen hb0).mono ?_
  rintro e w1 ⟨R, rfl, hRs, hR, hb⟩
  have z1 := hR.lt
  go_wp2_with fail
  refine (l20Knots_any R _ _ (by omega) (by omega) _ hR (by omega)).mono ?_
  rintro e w2 ⟨A2, n2, c2, l, rfl, h1, h13, hs, ho, hR2, hF⟩
  have hb2 := below_only hb hF hRs
  clear hR hF h
  have hmx := run_max2k 1 (n2 : Int) (n2 : Int) (by omega)
  go_wp2_with fail
  refine (pick_any R _ _ (by omega) (by omega) _ hR2 (by omega)).mono ?_
  rintro e w3 ⟨k, rfl, ⟨ka, kb⟩, hR3, hO⟩
  replace ho := ho.only hO z1
  replace hb2 := below_only hb2 hO hRs
  clear hO hR2 hmx
  obtain ⟨kk, rfl⟩ := Int.eq_ofNat_of_zero_le ka
  have hkn : kk < n2 := by omega
  go_wp2_with fail
  refine (pick_any R _ _ (by omega) (by omega) _ hR3 (by omega)).mono ?_
  rintro e w4 ⟨x0, rfl, ⟨xa, xb⟩, hR4, hO⟩
  replace ho := ho.only hO z1
  replace hb2 := below_only hb2 hO hRs
  clear hO hR3
  have hd : decide (kk < n2) = true := decide_eq_true hkn
  have hd2 : decide ((kk : Int) < (n2 : Int)) = true := decide_eq_true (by omega)
  have ew : IntKind.i64.wrap (x0 * 40) = x0 * 40 := IntWalk.i64_in _ (by omega)
  go_wp2_with fail
  refine (pick_any R _ _ (by omega) (by omega) _ hR4 (by omega)).mono ?_
  rintro e w5 ⟨q, rfl, ⟨qa, qb⟩, hR5, hO⟩
  replace ho := ho.only hO z1
  replace hb2 := below_only hb2 hO hRs
  clear hO hR4
  by_cases hq : 0 < q
  · have hq2 : decide (0 < q) = true := decide_eq_true hq
    obtain ⟨hl, hcc, hp⟩ := ho
    obtain ⟨g, rfl, hg, cs, hh, hcs⟩ := hp (by omega)
    obtain ⟨a, ha⟩ : ∃ a, l.getD (kk * 2) 0 = a := ⟨_, rfl⟩
    have hca := hcs (kk * 2) (by rw [hl]; omega)
    have hsa := hs (kk * 2) (by rw [hl]; omega)
    rw [ha] at hca hsa
    have HL := Lib.hid hl
    have HP := Lib.hid hp
    have HCS := Lib.hid hcs
    have HCA := Lib.hid hca
    have hF := only_refl w5 R
    have hR := hR5
    have i0 : (0 : Int) ≤ (kk : Int) := by omega
    have i1 : (kk : Int) < (n2 : Int) := by omega
    have i2 : (kk : Int).toNat = kk := Int.toNat_natCast _
    clear hp ha hcs hca hR5 hl
    go_upto_region 6 with fail
    go_cut [7] (fun s7 wx => ∃ x : Int, s7 = .int .i64 x ∧ -4000000 ≤ x ∧ x ≤ 4000000 ∧ Rd wx R (0 + 40 + 3 + 1) ∧ Only w5 wx R)
    case first =>
      refine wp_region_free (by kernel_rfl) ?_
      replace hF := only_drew hF
      replace hR := hR.drew
      replace hh := heap_drew hh
      generalize World.drew _ = wD at *
      refine wpAnyH_take (i := 0) (v := ?_) (by (simp only [List.getElem?_toArray, List.getElem?_cons_zero]; rfl)) (by kernel_rfl) (by kernel_rfl) (by kernel_rfl) (by exact fun _ _ _ h => h) (Or.inl ⟨by rfl, ?_⟩) (by trivial) ?_
      rotate_left
      · (intro wS hS; clear hS; go_simp; try with_reducible rfl)
      try simp only [Act.put, List.setIfInBounds_toArray, List.set_cons_zero, List.set_cons_succ]
      refine wpAnyH_take (i := 1) (v := ?_) (by (simp only [List.getElem?_toArray, List.getElem?_cons_succ, List.getElem?_cons_zero]; rfl)) (by kernel_rfl) (by kernel_rfl) (by kernel_rfl) (by exact fun _ _ _ h => h) (Or.inl ⟨by rfl, ?_⟩) (by trivial) ?_
      rotate_left
      · (intro wS hS; clear hS; go_simp; try with_reducible rfl)
      try simp only [Act.put, List.setIfInBounds_toArray, List.set_cons_zero, List.set_cons_succ]
      refine wpAnyH_take (i := 2) (v := ?_) (by (simp only [List.getElem?_toArray, List.getElem?_cons_succ, List.getElem?_cons_zero]; rfl)) (by kernel_rfl) (by kernel_rfl) (by kernel_rfl) (by exact fun _ _ _ h => h) (Or.inl ⟨by rfl, ?_⟩) (by trivial) ?_
      rotate_left
      · (intro wS hS; clear hS; go_simp; try with_reducible rfl)
      try simp only [Act.put, List.setIfInBounds_toArray, List.set_cons_zero, List.set_cons_succ]
      refine wpAnyH_take (i := 3) (v := ?_) (by (simp only [List.getElem?_toArray, List.getElem?_cons_succ, List.getElem?_cons_zero]; rfl)) (by kernel_rfl) (by kernel_rfl) (by kernel_rfl) (by exact fun _ _ _ h => h) (Or.inl ⟨by rfl, ?_⟩) (by trivial) ?_
      rotate_left
      · (intro wS hS; clear hS; go_simp; try with_reducible rfl)
      try simp only [Act.put, List.setIfInBounds_toArray, List.set_cons_zero, List.set_cons_succ]
      refine wpAnyH_take (i := 5) (v := ?_) (by (simp only [List.getElem?_toArray, List.getElem?_cons_succ, List.getElem?_cons_zero]; rfl)) (by kernel_rfl) (by kernel_rfl) (by kernel_rfl) (by exact fun _ _ _ h => h) (Or.inl ⟨by rfl, ?_⟩) (by trivial) ?_
      rotate_left
      · (intro wS hS; clear hS; go_simp; try with_reducible rfl)
      try simp only [Act.put, List.setIfInBounds_toArray, List.set_cons_zero, List.set_cons_succ]
      refine wpAnyH_ready (rs := [4, 6]) (by kernel_rfl) (by simp) ?_
      refine AllReadyH.cons (by (simp only [List.getElem?_toArray, List.getElem?_cons_succ, List.getElem?_cons_zero]; rfl)) (fun K hK => ?_) (AllReadyH.cons (by (simp only [List.getElem?_toArray, List.getElem?_cons_succ, List.getElem?_cons_zero]; rfl)) (fun K hK => ?_) AllReadyH.nil)
      · have hld := cell_of_row _ g (kk * 2) cs _ (0, 0) hh
        rw [HCA.out] at hld
        go_simp
        refine hK.out _ _ trivial (fun _ => ?_)
        clear hK K
        try simp only [Act.put, List.setIfInBounds_toArray, List.set_cons_zero, List.set_cons_succ]
        refine wpAnyH_ready (rs := [6]) (by kernel_rfl) (by simp) ?_
        refine AllReadyH.cons (by (simp only [List.getElem?_toArray, List.getElem?_cons_succ, List.getElem?_cons_zero]; rfl)) (fun K hK => ?_) AllReadyH.nil
        go_simp
        have hR0 := hR; clear hR
        refine (pick_any _ _ _ (by omega) (by omega) _ hR0 (by omega)).mono ?_
        clear hR0
        rintro e w1 ⟨v6, rfl, ⟨a6, b6⟩, hR, hO⟩
        replace hF := only_trans hF hO
        replace hh := only_keep hO hh (by omega)
        (try go_wp2_with fail)
        have e1 : IntKind.i64.wrap (a + v6) = a + v6 := IntWalk.i64_in _ (by omega)
        have e2 : IntKind.i64.wrap (a + v6 - 9) = a + v6 - 9 := IntWalk.i64_in _ (by omega)
        refine hK.out _ _ trivial (fun _ => ?_)
        clear hK K
        try simp only [Act.put, List.setIfInBounds_toArray, List.set_cons_zero, List.set_cons_succ]
        refine wpAnyH_take (i := 7) (v := ?_) (by (simp only [List.getElem?_toArray, List.getElem?_cons_succ, List.getElem?_cons_zero]; rfl)) (by kernel_rfl) (by kernel_rfl) (by kernel_rfl) (by exact fun _ _ _ h => h) (Or.inl ⟨by rfl, ?_⟩) (by trivial) ?_
        rotate_left
        · (intro wS hS; clear hS; go_simp; try with_reducible rfl)
        try simp only [Act.put, List.setIfInBounds_toArray, List.set_cons_zero, List.set_cons_succ]
        refine wpAnyH_take (i := 8) (v := ?_) (by (simp only [List.getElem?_toArray, List.getElem?_cons_succ, List.getElem?_cons_zero]; rfl)) (by kernel_rfl) (by kernel_rfl) (by kernel_rfl) (by exact fun _ _ _ h => h) (Or.inl ⟨by rfl, ?_⟩) (by trivial) ?_
        rotate_left
        · (intro wS hS; clear hS; go_simp; try with_reducible rfl)
        try simp only [Act.put, List.setIfInBounds_toArray, List.set_cons_zero, List.set_cons_succ]
        refine wpAnyH_take (i := 9) (v := ?_) (by (simp only [List.getElem?_toArray, List.getElem?_cons_succ, List.getElem?_cons_zero]; rfl)) (by kernel_rfl) (by kernel_rfl) (by kernel_rfl) (by exact fun _ _ _ h => h) (Or.inl ⟨by rfl, ?_⟩) (by trivial) ?_
        rotate_left
        · (intro wS hS; clear hS; go_simp; try with_reducible rfl)
        try simp only [Act.put, List.setIfInBounds_toArray, List.set_cons_zero, List.set_cons_succ]
        refine wpAnyH_done (by kernel_rfl) ?_ _
        go_wp2_with fail
        go_meet
        exact ⟨_, rfl, by omega, by omega, hR.more (by omega), hF⟩
      · go_simp
        have hR0 := hR; clear hR
        refine (pick_any _ _ _ (by omega) (by omega) _ hR0 (by omega)).mono ?_
        clear hR0
        rintro e w1 ⟨v6, rfl, ⟨a6, b6⟩, hR, hO⟩
        replace hF := only_trans hF hO
        replace hh := only_keep hO hh (by omega)
        (try go_wp2_with fail)
        have e1 : IntKind.i64.wrap (a + v6) = a + v6 := IntWalk.i64_in _ (by omega)
        have e2 : IntKind.i64.wrap (a + v6 - 9) = a + v6 - 9 := IntWalk.i64_in _ (by omega)
        refine hK.out _ _ trivial (fun _ => ?_)
        clear hK K
        try simp only [Act.put, List.setIfInBounds_toArray, List.set_cons_zero, List.set_cons_succ]
        refine wpAnyH_ready (rs := [4]) (by kernel_rfl) (by simp) ?_
        refine AllReadyH.cons (by (simp only [List.getElem?_toArray, List.getElem?_cons_succ, List.getElem?_cons_zero]; rfl)) (fun K hK => ?_) AllReadyH.nil
        have hld := cell_of_row _ g (kk * 2) cs _ (0, 0) hh
        rw [HCA.out] at hld
        go_simp
        refine hK.out _ _ trivial (fun _ => ?_)
        clear hK K
        try simp only [Act.put, List.setIfInBounds_toArray, List.set_cons_zero, List.set_cons_succ]
        refine wpAnyH_take (i := 7) (v := ?_) (by (simp only [List.getElem?_toArray, List.getElem?_cons_succ, List.getElem?_cons_zero]; rfl)) (by kernel_rfl) (by kernel_rfl) (by kernel_rfl) (by exact fun _ _ _ h => h) (Or.inl ⟨by rfl, ?_⟩) (by trivial) ?_
        rotate_left
        · (intro wS hS; clear hS; go_simp; try with_reducible rfl)
        try simp only [Act.put, List.setIfInBounds_toArray, List.set_cons_zero, List.set_cons_succ]
        refine wpAnyH_take (i := 8) (v := ?_) (by (simp only [List.getElem?_toArray, List.getElem?_cons_succ, List.getElem?_cons_zero]; rfl)) (by kernel_rfl) (by kernel_rfl) (by kernel_rfl) (by exact fun _ _ _ h => h) (Or.inl ⟨by rfl, ?_⟩) (by trivial) ?_
        rotate_left
        · (intro wS hS; clear hS; go_simp; try with_reducible rfl)
        try simp only [Act.put, List.setIfInBounds_toArray, List.set_cons_zero, List.set_cons_succ]
        refine wpAnyH_take (i := 9) (v := ?_) (by (simp only [List.getElem?_toArray, List.getElem?_cons_succ, List.getElem?_cons_zero]; rfl)) (by kernel_rfl) (by kernel_rfl) (by kernel_rfl) (by exact fun _ _ _ h => h) (Or.inl ⟨by rfl, ?_⟩) (by trivial) ?_
        rotate_left
        · (intro wS hS; clear hS; go_simp; try with_reducible rfl)
        try simp only [Act.put, List.setIfInBounds_toArray, List.set_cons_zero, List.set_cons_succ]
        refine wpAnyH_done (by kernel_rfl) ?_ _
        go_wp2_with fail
        go_meet
        exact ⟨_, rfl, by omega, by omega, hR.more (by omega), hF⟩
    case rest =>
      obtain ⟨x, rfl, x1, x2, hR, hO⟩ := hcut
      have hb3 := below_only hb2 hO hRs
      have ho : OwnK w1.heap.size wc (some ⟨g, 0, none⟩) n2 c2 l := OwnK.only ⟨HL.out, hcc, fun _ => ⟨g, rfl, hg, cs, hh, HCS.out⟩⟩ hO z1
      clear hO hF hh hb2
      go_upto_region 7 with fail
      refine wp_region_draw (m := 13) (r := 1) (U := 1) (R := R) (G := R) (N := (0+40+3+1)) (ks := [38, 39, 40, 41, 42, 43, 44, 45, 46, 47, 48, 49, 2]) (E := fun _ => True)
        (Fs := fun d => match d with | 2 => is (.slice (some ⟨g, 0, none⟩) n2 c2) | 38 => is (.slice (some ⟨g, 0, none⟩) n2 c2) | 39 => upto (-4000000) (4000001) | 40 => .lit 3 (fun x => (-9223372036854775808) ≤ x ∧ x < (9223372036854775808)) | 41 => is (.pointer (some ⟨R, 0, none⟩)) | 42 => upto (0) (24) | 43 => upto (0) (2) | 44 => is (.pointer (some ⟨R, 0, none⟩)) | 45 => upto (0) (24) | 46 => upto (0) (2) | 47 => upto (0) (3) | 48 => .cell (fun x => (-9223372036854775808) ≤ x ∧ x < (9223372036854775808)) | 49 => upto (-9223372036854775808) (9223372036854775808) | _ => .any) (A := ?A) (by kernel_rfl) (by kernel_rfl) (by kernel_rfl) ?hA (by first | exact hR | assumption) trivial (fun _ _ _ _ => trivial) ?steps ?after
      case hA => (intro tm; simp only [over, List.foldl_cons, List.foldl_nil, List.setIfInBounds_toArray, List.set_cons_zero, List.set_cons_succ]; exact rfl)
      case steps =>
        refine StepsR.cons (by (simp only [List.getElem?_toArray, List.getElem?_cons_zero]; rfl)) (fun K tm wc c hc hR hO hE hpre hK => ?_) ?_
        · go_simp
          exact hK.out _ _ (hR.more (by omega)) (.inl (only_refl _ _)) (by first | exact rfl | exact congrArg (Value.int .i64) (IntWalk.i64_in _ (by omega)))
        refine StepsR.cons (by (simp only [List.getElem?_toArray, List.getElem?_cons_succ, List.getElem?_cons_zero]; rfl)) (fun K tm wc c hc hR hO hE hpre hK => ?_) ?_
        · go_simp
          exact hK.out _ _ (hR.more (by omega)) (.inl (only_refl _ _)) ⟨_, rfl, by first | omega | (rw [IntWalk.i64_in _ (by omega)]; omega) | (rw [Int.tdiv_eq_ediv_of_nonneg (by omega), IntWalk.i64_in _ (by omega)]; omega) | (rw [Int.tdiv_eq_ediv_of_nonneg (by omega)]; omega), by first | omega | (rw [IntWalk.i64_in _ (by omega)]; omega) | (rw [Int.tdiv_eq_ediv_of_nonneg (by omega), IntWalk.i64_in _ (by omega)]; omega) | (rw [Int.tdiv_eq_ediv_of_nonneg (by omega)]; omega)⟩
        refine StepsR.cons (by (simp only [List.getElem?_toArray, List.getElem?_cons_succ, List.getElem?_cons_zero]; rfl)) (fun K tm wc c hc hR hO hE hpre hK => ?_) ?_
        · obtain ⟨u39, e39, a39, b39⟩ := (hpre 39 (by kernel_rfl))
          simp only [e39] at hK
          go_simp
          exact hK.out _ _ ((hR.alloc _).more (by omega)) (.inl (only_alloc (only_refl _ _) _)) (Fc.lit_new [u39, (9223372036854775807), (-9223372036854775808)] rfl hR.lt hR.lt rfl (by simp; omega))
        refine StepsR.cons (by (simp only [List.getElem?_toArray, List.getElem?_cons_succ, List.getElem?_cons_zero]; rfl)) (fun K tm wc c hc hR hO hE hpre hK => ?_) ?_
        · go_simp
          exact hK.out _ _ (hR.more (by omega)) (.inl (only_refl _ _)) (by first | exact rfl | exact congrArg (Value.int .i64) (IntWalk.i64_in _ (by omega)))
        refine StepsR.cons (by (simp only [List.getElem?_toArray, List.getElem?_cons_succ, List.getElem?_cons_zero]; rfl)) (fun K tm wc c hc hR hO hE hpre hK => ?_) ?_
        · have e41 : tm 41 = _ := (hpre 41 (by kernel_rfl))
          simp only [e41] at hK
          go_simp
          refine (pick_any R _ _ (by omega) (by omega) _ hR (by omega)).mono ?_
          rintro e w1 ⟨v, rfl, ⟨va, vb⟩, hR1, hO1⟩
          (try go_wp2_with fail)
          exact hK.out _ _ (hR1.more (by omega)) (.inl hO1) ⟨v, rfl, va, vb⟩
        refine StepsR.cons (by (simp only [List.getElem?_toArray, List.getElem?_cons_succ, List.getElem?_cons_zero]; rfl)) (fun K tm wc c hc hR hO hE hpre hK => ?_) ?_
        · obtain ⟨u42, e42, a42, b42⟩ := (hpre 42 (by kernel_rfl))
          simp only [e42] at hK
          go_simp
          exact hK.out _ _ (hR.more (by omega)) (.inl (only_refl _ _)) ⟨_, rfl, by first | omega | (rw [IntWalk.i64_in _ (by omega)]; omega) | (rw [Int.tdiv_eq_ediv_of_nonneg (by omega), IntWalk.i64_in _ (by omega)]; omega) | (rw [Int.tdiv_eq_ediv_of_nonneg (by omega)]; omega), by first | omega | (rw [IntWalk.i64_in _ (by omega)]; omega) | (rw [Int.tdiv_eq_ediv_of_nonneg (by omega), IntWalk.i64_in _ (by omega)]; omega) | (rw [Int.tdiv_eq_ediv_of_nonneg (by omega)]; omega)⟩
        refine StepsR.cons (by (simp only [List.getElem?_toArray, List.getElem?_cons_succ, List.getElem?_cons_zero]; rfl)) (fun K tm wc c hc hR hO hE hpre hK => ?_) ?_
        · go_simp
          exact hK.out _ _ (hR.more (by omega)) (.inl (only_refl _ _)) (by first | exact rfl | exact congrArg (Value.int .i64) (IntWalk.i64_in _ (by omega)))
        refine StepsR.cons (by (simp only [List.getElem?_toArray, List.getElem?_cons_succ, List.getElem?_cons_zero]; rfl)) (fun K tm wc c hc hR hO hE hpre hK => ?_) ?_
        · have e44 : tm 44 = _ := (hpre 44 (by kernel_rfl))
          simp only [e44] at hK
          go_simp
          refine (pick_any R _ _ (by omega) (by omega) _ hR (by omega)).mono ?_
          rintro e w1 ⟨v, rfl, ⟨va, vb⟩, hR1, hO1⟩
          (try go_wp2_with fail)
          exact hK.out _ _ (hR1.more (by omega)) (.inl hO1) ⟨v, rfl, va, vb⟩
        refine StepsR.cons (by (simp only [List.getElem?_toArray, List.getElem?_cons_succ, List.getElem?_cons_zero]; rfl)) (fun K tm wc c hc hR hO hE hpre hK => ?_) ?_
        · obtain ⟨u45, e45, a45, b45⟩ := (hpre 45 (by kernel_rfl))
          simp only [e45] at hK
          go_simp
          exact hK.out _ _ (hR.more (by omega)) (.inl (only_refl _ _)) ⟨_, rfl, by first | omega | (rw [IntWalk.i64_in _ (by omega)]; omega) | (rw [Int.tdiv_eq_ediv_of_nonneg (by omega), IntWalk.i64_in _ (by omega)]; omega) | (rw [Int.tdiv_eq_ediv_of_nonneg (by omega)]; omega), by first | omega | (rw [IntWalk.i64_in _ (by omega)]; omega) | (rw [Int.tdiv_eq_ediv_of_nonneg (by omega), IntWalk.i64_in _ (by omega)]; omega) | (rw [Int.tdiv_eq_ediv_of_nonneg (by omega)]; omega)⟩
        refine StepsR.cons (by (simp only [List.getElem?_toArray, List.getElem?_cons_succ, List.getElem?_cons_zero]; rfl)) (fun K tm wc c hc hR hO hE hpre hK => ?_) ?_
        · obtain ⟨u43, e43, a43, b43⟩ := (hpre 43 (by kernel_rfl))
          obtain ⟨u46, e46, a46, b46⟩ := (hpre 46 (by kernel_rfl))
          simp only [e43, e46] at hK
          go_simp
          exact hK.out _ _ (hR.more (by omega)) (.inl (only_refl _ _)) ⟨_, rfl, by first | omega | (rw [IntWalk.i64_in _ (by omega)]; omega) | (rw [Int.tdiv_eq_ediv_of_nonneg (by omega), IntWalk.i64_in _ (by omega)]; omega) | (rw [Int.tdiv_eq_ediv_of_nonneg (by omega)]; omega), by first | omega | (rw [IntWalk.i64_in _ (by omega)]; omega) | (rw [Int.tdiv_eq_ediv_of_nonneg (by omega), IntWalk.i64_in _ (by omega)]; omega) | (rw [Int.tdiv_eq_ediv_of_nonneg (by omega)]; omega)⟩
        refine StepsR.cons (by (simp only [List.getElem?_toArray, List.getElem?_cons_succ, List.getElem?_cons_zero]; rfl)) (fun K tm wc c hc hR hO hE hpre hK => ?_) ?_
        · obtain ⟨g40, e40, c40⟩ := Fc.at_lit (hpre 40 (by kernel_rfl))
          obtain ⟨u47, e47, a47, b47⟩ := (hpre 47 (by kernel_rfl))
          simp only [e40, e47] at hK
          have c40 := c40 u47 (by omega) (by omega)
          go_simp
          exact hK.out _ _ (hR.more (by omega)) (.inl (only_refl _ _)) c40
        refine StepsR.cons (by (simp only [List.getElem?_toArray, List.getElem?_cons_succ, List.getElem?_cons_zero]; rfl)) (fun K tm wc c hc hR hO hE hpre hK => ?_) ?_
        · obtain ⟨g48, k48, u48, e48, _, _, h48, p48⟩ := (hpre 48 (by kernel_rfl))
          simp only [e48] at hK
          go_simp
          exact hK.out _ _ (hR.more (by omega)) (.inl (only_refl _ _)) ⟨_, rfl, p48.1, p48.2⟩
        refine StepsR.cons (by (simp only [List.getElem?_toArray, List.getElem?_cons_succ, List.getElem?_cons_zero]; rfl)) (fun K tm wc c hc hR hO hE hpre hK => ?_) ?_
        · have f := hpre 38 (by kernel_rfl)
          go_simp
          exact hK.out _ _ (hR.more (by omega)) (.inl (only_refl _ _)) f
        exact StepsR.nil
      case after =>
        intro tm w' hR hO hE hf
        obtain ⟨u49, e49, a49, b49⟩ := (hf 49 (by kernel_rfl))
        have e2 : tm 2 = _ := (hf 2 (by kernel_rfl))
        replace hO := hO.one (.inl rfl)
        replace ho := ho.only hO z1
        replace hb3 := below_only hb3 hO hRs
        refine wpAnyH_ready (rs := [13]) (by kernel_rfl) (by simp) ?_
        refine AllReadyH.cons (by (simp only [List.getElem?_toArray, List.getElem?_cons_succ, List.getElem?_cons_zero]; rfl)) (fun K hK => ?_) AllReadyH.nil
        go_simp
        refine hK.out _ _ trivial (fun _ => ?_)
        clear hK K
        try simp only [Act.put, List.setIfInBounds_toArray, List.set_cons_zero, List.set_cons_succ]
        refine wpAnyH_done (by kernel_rfl) ?_ _
        go_wp2
        go_ret2
        exact ⟨_, n2, c2, l, _, rfl, h1, h13, ho.le hb.size, by omega, hb3⟩
  · have hq2 : decide (0 < q) = false := decide_eq_false hq
    have hR := hR5
    clear hR5
    go_upto_region 7 with fail
    refine wp_region_draw (m := 13) (r := 1) (U := 1) (R := R) (G := R) (N := (0+40+1+1+1)) (ks := [38, 39, 40, 41, 42, 43, 44, 45, 46, 47, 48, 49, 2]) (E := fun _ => True)
      (Fs := fun d => match d with | 2 => is (.slice A2 n2 c2) | 38 => is (.slice A2 n2 c2) | 39 => upto (-4000000) (4000001) | 40 => .lit 3 (fun x => (-9223372036854775808) ≤ x ∧ x < (9223372036854775808)) | 41 => is (.pointer (some ⟨R, 0, none⟩)) | 42 => upto (0) (24) | 43 => upto (0) (2) | 44 => is (.pointer (some ⟨R, 0, none⟩)) | 45 => upto (0) (24) | 46 => upto (0) (2) | 47 => upto (0) (3) | 48 => .cell (fun x => (-9223372036854775808) ≤ x ∧ x < (9223372036854775808)) | 49 => upto (-9223372036854775808) (9223372036854775808) | _ => .any) (A := ?A2) (by kernel_rfl) (by kernel_rfl) (by kernel_rfl) ?hA2 (by first | exact hR | assumption) trivial (fun _ _ _ _ => trivial) ?steps2 ?after2
    case hA2 => (intro tm; simp only [over, List.foldl_cons, List.foldl_nil, List.setIfInBounds_toArray, List.set_cons_zero, List.set_cons_succ]; exact rfl)
    case steps2 =>
      refine StepsR.cons (by (simp only [List.getElem?_toArray, List.getElem?_cons_zero]; rfl)) (fun K tm wc c hc hR hO hE hpre hK => ?_) ?_
      · go_simp
        exact hK.out _ _ (hR.more (by omega)) (.inl (only_refl _ _)) (by first | exact rfl | exact congrArg (Value.int .i64) (IntWalk.i64_in _ (by omega)))
      refine StepsR.cons (by (simp only [List.getElem?_toArray, List.getElem?_cons_succ, List.getElem?_cons_zero]; rfl)) (fun K tm wc c hc hR hO hE hpre hK => ?_) ?_
      · go_simp
        exact hK.out _ _ (hR.more (by omega)) (.inl (only_refl _ _)) ⟨_, rfl, by first | omega | (rw [IntWalk.i64_in _ (by omega)]; omega) | (rw [Int.tdiv_eq_ediv_of_nonneg (by omega), IntWalk.i64_in _ (by omega)]; omega) | (rw [Int.tdiv_eq_ediv_of_nonneg (by omega)]; omega), by first | omega | (rw [IntWalk.i64_in _ (by omega)]; omega) | (rw [Int.tdiv_eq_ediv_of_nonneg (by omega), IntWalk.i64_in _ (by omega)]; omega) | (rw [Int.tdiv_eq_ediv_of_nonneg (by omega)]; omega)⟩
      refine StepsR.cons (by (simp only [List.getElem?_toArray, List.getElem?_cons_succ, List.getElem?_cons_zero]; rfl)) (fun K tm wc c hc hR hO hE hpre hK => ?_) ?_
      · obtain ⟨u39, e39, a39, b39⟩ := (hpre 39 (by kernel_rfl))
        simp only [e39] at hK
        go_simp
        exact hK.out _ _ ((hR.alloc _).more (by omega)) (.inl (only_alloc (only_refl _ _) _)) (Fc.lit_new [u39, (9223372036854775807), (-9223372036854775808)] rfl hR.lt hR.lt rfl (by simp; omega))
      refine StepsR.cons (by (simp only [List.getElem?_toArray, List.getElem?_cons_succ, List.getElem?_cons_zero]; rfl)) (fun K tm wc c hc hR hO hE hpre hK => ?_) ?_
      · go_simp
        exact hK.out _ _ (hR.more (by omega)) (.inl (only_refl _ _)) (by first | exact rfl | exact congrArg (Value.int .i64) (IntWalk.i64_in _ (by omega)))
      refine StepsR.cons (by (simp only [List.getElem?_toArray, List.getElem?_cons_succ, List.getElem?_cons_zero]; rfl)) (fun K tm wc c hc hR hO hE hpre hK => ?_) ?_
      · have e41 : tm 41 = _ := (hpre 41 (by kernel_rfl))
        simp only [e41] at hK
        go_simp
        refine (pick_any R _ _ (by omega) (by omega) _ hR (by omega)).mono ?_
        rintro e w1 ⟨v, rfl, ⟨va, vb⟩, hR1, hO1⟩
        (try go_wp2_with fail)
        exact hK.out _ _ (hR1.more (by omega)) (.inl hO1) ⟨v, rfl, va, vb⟩
      refine StepsR.cons (by (simp only [List.getElem?_toArray, List.getElem?_cons_succ, List.getElem?_cons_zero]; rfl)) (fun K tm wc c hc hR hO hE hpre hK => ?_) ?_
      · obtain ⟨u42, e42, a42, b42⟩ := (hpre 42 (by kernel_rfl))
        simp only [e42] at hK
        go_simp
        exact hK.out _ _ (hR.more (by omega)) (.inl (only_refl _ _)) ⟨_, rfl, by first | omega | (rw [IntWalk.i64_in _ (by omega)]; omega) | (rw [Int.tdiv_eq_ediv_of_nonneg (by omega), IntWalk.i64_in _ (by omega)]; omega) | (rw [Int.tdiv_eq_ediv_of_nonneg (by omega)]; omega), by first | omega | (rw [IntWalk.i64_in _ (by omega)]; omega) | (rw [Int.tdiv_eq_ediv_of_nonneg (by omega), IntWalk.i64_in _ (by omega)]; omega) | (rw [Int.tdiv_eq_ediv_of_nonneg (by omega)]; omega)⟩
      refine StepsR.cons (by (simp only [List.getElem?_toArray, List.getElem?_cons_succ, List.getElem?_cons_zero]; rfl)) (fun K tm wc c hc hR hO hE hpre hK => ?_) ?_
      · go_simp
        exact hK.out _ _ (hR.more (by omega)) (.inl (only_refl _ _)) (by first | exact rfl | exact congrArg (Value.int .i64) (IntWalk.i64_in _ (by omega)))
      refine StepsR.cons (by (simp only [List.getElem?_toArray, List.getElem?_cons_succ, List.getElem?_cons_zero]; rfl)) (fun K tm wc c hc hR hO hE hpre hK => ?_) ?_
      · have e44 : tm 44 = _ := (hpre 44 (by kernel_rfl))
        simp only [e44] at hK
        go_simp
        refine (pick_any R _ _ (by omega) (by omega) _ hR (by omega)).mono ?_
        rintro e w1 ⟨v, rfl, ⟨va, vb⟩, hR1, hO1⟩
        (try go_wp2_with fail)
        exact hK.out _ _ (hR1.more (by omega)) (.inl hO1) ⟨v, rfl, va, vb⟩
      refine StepsR.cons (by (simp only [List.getElem?_toArray, List.getElem?_cons_succ, List.getElem?_cons_zero]; rfl)) (fun K tm wc c hc hR hO hE hpre hK => ?_) ?_
      · obtain ⟨u45, e45, a45, b45⟩ := (hpre 45 (by kernel_rfl))
        simp only [e45] at hK
        go_simp
        exact hK.out _ _ (hR.more (by omega)) (.inl (only_refl _ _)) ⟨_, rfl, by first | omega | (rw [IntWalk.i64_in _ (by omega)]; omega) | (rw [Int.tdiv_eq_ediv_of_nonneg (by omega), IntWalk.i64_in _ (by omega)]; omega) | (rw [Int.tdiv_eq_ediv_of_nonneg (by omega)]; omega), by first | omega | (rw [IntWalk.i64_in _ (by omega)]; omega) | (rw [Int.tdiv_eq_ediv_of_nonneg (by omega), IntWalk.i64_in _ (by omega)]; omega) | (rw [Int.tdiv_eq_ediv_of_nonneg (by omega)]; omega)⟩
      refine StepsR.cons (by (simp only [List.getElem?_toArray, List.getElem?_cons_succ, List.getElem?_cons_zero]; rfl)) (fun K tm wc c hc hR hO hE hpre hK => ?_) ?_
      · obtain ⟨u43, e43, a43, b43⟩ := (hpre 43 (by kernel_rfl))
        obtain ⟨u46, e46, a46, b46⟩ := (hpre 46 (by kernel_rfl))
        simp only [e43, e46] at hK
        go_simp
        exact hK.out _ _ (hR.more (by omega)) (.inl (only_refl _ _)) ⟨_, rfl, by first | omega | (rw [IntWalk.i64_in _ (by omega)]; omega) | (rw [Int.tdiv_eq_ediv_of_nonneg (by omega), IntWalk.i64_in _ (by omega)]; omega) | (rw [Int.tdiv_eq_ediv_of_nonneg (by omega)]; omega), by first | omega | (rw [IntWalk.i64_in _ (by omega)]; omega) | (rw [Int.tdiv_eq_ediv_of_nonneg (by omega), IntWalk.i64_in _ (by omega)]; omega) | (rw [Int.tdiv_eq_ediv_of_nonneg (by omega)]; omega)⟩
      refine StepsR.cons (by (simp only [List.getElem?_toArray, List.getElem?_cons_succ, List.getElem?_cons_zero]; rfl)) (fun K tm wc c hc hR hO hE hpre hK => ?_) ?_
      · obtain ⟨g40, e40, c40⟩ := Fc.at_lit (hpre 40 (by kernel_rfl))
        obtain ⟨u47, e47, a47, b47⟩ := (hpre 47 (by kernel_rfl))
        simp only [e40, e47] at hK
        have c40 := c40 u47 (by omega) (by omega)
        go_simp
        exact hK.out _ _ (hR.more (by omega)) (.inl (only_refl _ _)) c40
      refine StepsR.cons (by (simp only [List.getElem?_toArray, List.getElem?_cons_succ, List.getElem?_cons_zero]; rfl)) (fun K tm wc c hc hR hO hE hpre hK => ?_) ?_
      · obtain ⟨g48, k48, u48, e48, _, _, h48, p48⟩ := (hpre 48 (by kernel_rfl))
        simp only [e48] at hK
        go_simp
        exact hK.out _ _ (hR.more (by omega)) (.inl (only_refl _ _)) ⟨_, rfl, p48.1, p48.2⟩
      refine StepsR.cons (by (simp only [List.getElem?_toArray, List.getElem?_cons_succ, List.getElem?_cons_zero]; rfl)) (fun K tm wc c hc hR hO hE hpre hK => ?_) ?_
      · have f := hpre 38 (by kernel_rfl)
        go_simp
        exact hK.out _ _ (hR.more (by omega)) (.inl (only_refl _ _)) f
      exact StepsR.nil
    case after2 =>
      intro tm w' hR hO hE hf
      obtain ⟨u49, e49, a49, b49⟩ := (hf 49 (by kernel_rfl))
      have e2 : tm 2 = _ := (hf 2 (by kernel_rfl))
      replace hO := hO.one (.inl rfl)
      replace ho := ho.only hO z1
      replace hb2 := below_only hb2 hO hRs
      refine wpAnyH_ready (rs := [13]) (by kernel_rfl) (by simp) ?_
      refine AllReadyH.cons (by (simp only [List.getElem?_toArray, List.getElem?_cons_succ, List.getElem?_cons_zero]; rfl)) (fun K hK => ?_) AllReadyH.nil
      go_simp
      refine hK.out _ _ trivial (fun _ => ?_)
      clear hK K
      try simp only [Act.put, List.setIfInBounds_toArray, List.set_cons_zero, List.set_cons_succ]
      refine wpAnyH_done (by kernel_rfl) ?_ _
      go_wp2
      go_ret2
      exact ⟨_, n2, c2, l, _, rfl, h1, h13, ho.le hb.size, by omega, hb2⟩
end Go.Proofs.Ytiimaodphhaohaa
