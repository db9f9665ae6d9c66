/- The draws of the laws of series return some series (and some number); no condition. -/
import Derived.Test.YtpmojbdoiahodaaSerDraw
namespace Go.Proofs.Ytpmojbdoiahodaa
open Go.RowKit
set_option linter.unusedVariables false
set_option linter.unusedSimpArgs false
set_option maxHeartbeats 4000000

def GetsLI (w : World) (e : Ending) (w' : World) : Prop := ∃ (A : Option Addr) (c : Nat) (l : List Int) (k : Int), e = .returned (.tuple #[.slice A l.length c, .int .i64 k]) ∧ l.length ≤ 200 ∧ Own w.heap.size w' A l.length c l ∧ Below w.heap.size w w'
theorem drawSeriesValid_any (A : Option Addr) (n c : Nat) (xs : List Int) (w0 w : World) (h : Byts w0 w0.heap.size A xs) (hn : xs.length = n) (hc : n ≤ c) (hm : c ≤ maxLen) (hlen : n ≤ 1048576) (hb0 : Below w0.heap.size w0 w) :
    Calls Try.prog 28 #[.slice A n c] w (GetsL w) := by
  go_enter Try.func28, Try.ntmps28
  go_wp2_with fail
  refine (open_any A n c xs w0 _ h hn hc hm hlen hb0).mono ?_
  rintro e w1 ⟨R, rfl, hRs, hR, hb⟩
  go_wp2_with fail
  refine (l20Series_any R 0 _ (by omega) (by omega) _ hR (by omega)).mono ?_
  rintro e w2 ⟨A2, c2, l, rfl, hl, ho, hR2, hO⟩
  have hRl := hR.lt
  have hsz := hb.size
  have hb2 := below_only hb hO hRs
  go_wp2
  go_ret
  exact ⟨A2, c2, l, rfl, hl, ho.more hsz, hb2⟩
theorem drawMiddleFilter_any (A : Option Addr) (n c : Nat) (xs : List Int) (w0 w : World) (h : Byts w0 w0.heap.size A xs) (hn : xs.length = n) (hc : n ≤ c) (hm : c ≤ maxLen) (hlen : n ≤ 1048576) (hb0 : Below w0.heap.size w0 w) :
    Calls Try.prog 30 #[.slice A n c] w (GetsL w) := by
  go_enter Try.func30, Try.ntmps30
  go_wp2_with fail
  refine (open_any A n c xs w0 _ h hn hc hm hlen hb0).mono ?_
  rintro e w1 ⟨R, rfl, hRs, hR, hb⟩
  go_wp2_with fail
  refine (l20Series_any R 0 _ (by omega) (by omega) _ hR (by omega)).mono ?_
  rintro e w2 ⟨A2, c2, l, rfl, hl, ho, hR2, hO⟩
  have hRl := hR.lt
  have hsz := hb.size
  have hb2 := below_only hb hO hRs
  go_wp2
  go_ret
  exact ⟨A2, c2, l, rfl, hl, ho.more hsz, hb2⟩
theorem drawMeanFilter_any (A : Option Addr) (n c : Nat) (xs : List Int) (w0 w : World) (h : Byts w0 w0.heap.size A xs) (hn : xs.length = n) (hc : n ≤ c) (hm : c ≤ maxLen) (hlen : n ≤ 1048576) (hb0 : Below w0.heap.size w0 w) :
    Calls Try.prog 35 #[.slice A n c] w (GetsLI w) := by
  go_enter Try.func35, Try.ntmps35
  go_wp2_with fail
  refine (open_any A n c xs w0 _ h hn hc hm hlen hb0).mono ?_
  rintro e w1 ⟨R, rfl, hRs, hR, hb⟩
  go_wp2_with fail
  refine (l20Series_any R 0 _ (by omega) (by omega) _ hR (by omega)).mono ?_
  rintro e w2 ⟨A2, c2, l, rfl, hl, ho, hR2, hO⟩
  have hRl := hR.lt
  have hsz := hb.size
  have hb2 := below_only hb hO hRs
  clear hR
  have hR := hR2
  go_upto_region 3 with fail
  go_cut [2, 3] (fun s t wx => ∃ k : Int, s = .slice A2 l.length c2 ∧ t = .int .i64 k ∧ Own w.heap.size wx A2 l.length c2 l ∧ Below w.heap.size w wx)
  case first =>
    refine wp_region_draw (m := 14) (r := 0) (U := 1) (R := R) (G := R) (N := (0+400)) (ks := [10, 11, 12, 13, 14, 15, 16, 17, 18, 19, 20, 21, 2, 3]) (E := fun _ => True)
      (Fs := fun d => match d with | 2 => is (.slice A2 l.length c2) | 3 => num | 10 => is (.slice A2 l.length c2) | 11 => is (.pointer (some ⟨R, 0, none⟩)) | 12 => upto (0) (6) | 13 => num | 14 => .lit 4 (fun _ => True) | 15 => .lit 7 (fun x => (0) ≤ x ∧ x < (4)) | 16 => is (.pointer (some ⟨R, 0, none⟩)) | 17 => upto (0) (7) | 18 => .cell (fun x => (0) ≤ x ∧ x < (4)) | 19 => upto (0) (4) | 20 => .cell (fun _ => True) | 21 => num | _ => .any) (A := ?A) (by kernel_rfl) (by kernel_rfl) (by kernel_rfl) ?hA (by first | exact hR | assumption) trivial (fun _ _ _ _ => trivial) ?steps ?after
    case hA => (intro tm; simp only [over, List.foldl_cons, List.foldl_nil, List.setIfInBounds_toArray, List.set_cons_zero, List.set_cons_succ]; exact rfl)
    case steps =>
      refine StepsR.cons (by (simp only [List.getElem?_toArray, List.getElem?_cons_zero]; rfl)) (fun K tm wc c hc hR hO hE hpre hK => ?_) ?_
      · go_simp
        exact hK.out _ _ (hR.more (by omega)) (.inl (only_refl _ _)) (by first | exact rfl | exact congrArg (Value.int .i64) (IntWalk.i64_in _ (by omega)))
      refine StepsR.cons (by (simp only [List.getElem?_toArray, List.getElem?_cons_succ, List.getElem?_cons_zero]; rfl)) (fun K tm wc c hc hR hO hE hpre hK => ?_) ?_
      · go_simp
        exact hK.out _ _ (hR.more (by omega)) (.inl (only_refl _ _)) (by first | exact rfl | exact congrArg (Value.int .i64) (IntWalk.i64_in _ (by omega)))
      refine StepsR.cons (by (simp only [List.getElem?_toArray, List.getElem?_cons_succ, List.getElem?_cons_zero]; rfl)) (fun K tm wc c hc hR hO hE hpre hK => ?_) ?_
      · have e11 : tm 11 = _ := (hpre 11 (by kernel_rfl))
        simp only [e11] at hK
        go_simp
        refine (pick_any R _ _ (by omega) (by omega) _ hR (by omega)).mono ?_
        rintro e w1 ⟨v, rfl, ⟨va, vb⟩, hR1, hO1⟩
        (try go_wp2_with fail)
        exact hK.out _ _ (hR1.more (by omega)) (.inl hO1) ⟨v, rfl, va, vb⟩
      refine StepsR.cons (by (simp only [List.getElem?_toArray, List.getElem?_cons_succ, List.getElem?_cons_zero]; rfl)) (fun K tm wc c hc hR hO hE hpre hK => ?_) ?_
      · obtain ⟨u12, e12, a12, b12⟩ := (hpre 12 (by kernel_rfl))
        simp only [e12] at hK
        go_simp
        exact hK.out _ _ (hR.more (by omega)) (.inl (only_refl _ _)) ⟨_, rfl⟩
      refine StepsR.cons (by (simp only [List.getElem?_toArray, List.getElem?_cons_succ, List.getElem?_cons_zero]; rfl)) (fun K tm wc c hc hR hO hE hpre hK => ?_) ?_
      · obtain ⟨u13, e13⟩ := (hpre 13 (by kernel_rfl))
        simp only [e13] at hK
        go_simp
        exact hK.out _ _ ((hR.alloc _).more (by omega)) (.inl (only_alloc (only_refl _ _) _)) (Fc.lit_new [u13, (60), (0), (61)] rfl hR.lt hR.lt rfl (fun _ _ => trivial))
      refine StepsR.cons (by (simp only [List.getElem?_toArray, List.getElem?_cons_succ, List.getElem?_cons_zero]; rfl)) (fun K tm wc c hc hR hO hE hpre hK => ?_) ?_
      · go_simp
        exact hK.out _ _ ((hR.alloc _).more (by omega)) (.inl (only_alloc (only_refl _ _) _)) (Fc.lit_new [(0), (0), (0), (0), (1), (2), (3)] rfl hR.lt hR.lt rfl (by decide))
      refine StepsR.cons (by (simp only [List.getElem?_toArray, List.getElem?_cons_succ, List.getElem?_cons_zero]; rfl)) (fun K tm wc c hc hR hO hE hpre hK => ?_) ?_
      · go_simp
        exact hK.out _ _ (hR.more (by omega)) (.inl (only_refl _ _)) (by first | exact rfl | exact congrArg (Value.int .i64) (IntWalk.i64_in _ (by omega)))
      refine StepsR.cons (by (simp only [List.getElem?_toArray, List.getElem?_cons_succ, List.getElem?_cons_zero]; rfl)) (fun K tm wc c hc hR hO hE hpre hK => ?_) ?_
      · have e16 : tm 16 = _ := (hpre 16 (by kernel_rfl))
        simp only [e16] at hK
        go_simp
        refine (pick_any R _ _ (by omega) (by omega) _ hR (by omega)).mono ?_
        rintro e w1 ⟨v, rfl, ⟨va, vb⟩, hR1, hO1⟩
        (try go_wp2_with fail)
        exact hK.out _ _ (hR1.more (by omega)) (.inl hO1) ⟨v, rfl, va, vb⟩
      refine StepsR.cons (by (simp only [List.getElem?_toArray, List.getElem?_cons_succ, List.getElem?_cons_zero]; rfl)) (fun K tm wc c hc hR hO hE hpre hK => ?_) ?_
      · obtain ⟨g15, e15, c15⟩ := Fc.at_lit (hpre 15 (by kernel_rfl))
        obtain ⟨u17, e17, a17, b17⟩ := (hpre 17 (by kernel_rfl))
        simp only [e15, e17] at hK
        have c15 := c15 u17 (by omega) (by omega)
        go_simp
        exact hK.out _ _ (hR.more (by omega)) (.inl (only_refl _ _)) c15
      refine StepsR.cons (by (simp only [List.getElem?_toArray, List.getElem?_cons_succ, List.getElem?_cons_zero]; rfl)) (fun K tm wc c hc hR hO hE hpre hK => ?_) ?_
      · obtain ⟨g18, k18, u18, e18, _, _, h18, p18⟩ := (hpre 18 (by kernel_rfl))
        simp only [e18] at hK
        go_simp
        exact hK.out _ _ (hR.more (by omega)) (.inl (only_refl _ _)) ⟨_, rfl, p18.1, p18.2⟩
      refine StepsR.cons (by (simp only [List.getElem?_toArray, List.getElem?_cons_succ, List.getElem?_cons_zero]; rfl)) (fun K tm wc c hc hR hO hE hpre hK => ?_) ?_
      · obtain ⟨g14, e14, c14⟩ := Fc.at_lit (hpre 14 (by kernel_rfl))
        obtain ⟨u19, e19, a19, b19⟩ := (hpre 19 (by kernel_rfl))
        simp only [e14, e19] at hK
        have c14 := c14 u19 (by omega) (by omega)
        go_simp
        exact hK.out _ _ (hR.more (by omega)) (.inl (only_refl _ _)) c14
      refine StepsR.cons (by (simp only [List.getElem?_toArray, List.getElem?_cons_succ, List.getElem?_cons_zero]; rfl)) (fun K tm wc c hc hR hO hE hpre hK => ?_) ?_
      · obtain ⟨g20, k20, u20, e20, _, _, h20, p20⟩ := (hpre 20 (by kernel_rfl))
        simp only [e20] at hK
        go_simp
        exact hK.out _ _ (hR.more (by omega)) (.inl (only_refl _ _)) ⟨_, rfl⟩
      refine StepsR.cons (by (simp only [List.getElem?_toArray, List.getElem?_cons_succ, List.getElem?_cons_zero]; rfl)) (fun K tm wc c hc hR hO hE hpre hK => ?_) ?_
      · have f := hpre 10 (by kernel_rfl)
        go_simp
        exact hK.out _ _ (hR.more (by omega)) (.inl (only_refl _ _)) f
      refine StepsR.cons (by (simp only [List.getElem?_toArray, List.getElem?_cons_succ, List.getElem?_cons_zero]; rfl)) (fun K tm wc c hc hR hO hE hpre hK => ?_) ?_
      · have f := hpre 21 (by kernel_rfl)
        go_simp
        exact hK.out _ _ (hR.more (by omega)) (.inl (only_refl _ _)) f
      exact StepsR.nil
    case after =>
      intro tm w' hR hO hE hf
      have e2 : tm 2 = _ := (hf 2 (by kernel_rfl))
      obtain ⟨u3, e3⟩ := (hf 3 (by kernel_rfl))
      refine wpAnyH_done (by kernel_rfl) ?_ _
      go_wp2
      go_meet
      exact ⟨_, rfl, rfl, (ho.only (hO.one (.inl rfl)) hRl).more hsz, below_only hb2 (hO.one (.inl rfl)) hRs⟩
  case rest =>
    obtain ⟨k, rfl, rfl, ho2, hb3⟩ := hcut
    go_wp2
    go_ret2
    exact ⟨A2, c2, l, k, rfl, hl, ho2, hb3⟩
theorem drawSmoothFilter_any (A : Option Addr) (n c : Nat) (xs : List Int) (w0 w : World) (h : Byts w0 w0.heap.size A xs) (hn : xs.length = n) (hc : n ≤ c) (hm : c ≤ maxLen) (hlen : n ≤ 1048576) (hb0 : Below w0.heap.size w0 w) :
    Calls Try.prog 34 #[.slice A n c] w (GetsLI w) := by
  go_enter Try.func34, Try.ntmps34
  go_wp2_with fail
  refine (open_any A n c xs w0 _ h hn hc hm hlen hb0).mono ?_
  rintro e w1 ⟨R, rfl, hRs, hR, hb⟩
  go_wp2_with fail
  refine (l20Series_any R 0 _ (by omega) (by omega) _ hR (by omega)).mono ?_
  rintro e w2 ⟨A2, c2, l, rfl, hl, ho, hR2, hO⟩
  have hRl := hR.lt
  have hsz := hb.size
  have hb2 := below_only hb hO hRs
  go_wp2_with fail
  refine (pick_any R _ _ (by omega) (by omega) _ hR2 (by omega)).mono ?_
  rintro e w3 ⟨v, rfl, ⟨va, vb⟩, hR3, hO3⟩
  go_wp2
  go_ret2
  exact ⟨A2, c2, l, _, rfl, hl, (ho.only hO3 hRl).more hsz, below_only hb2 hO3 hRs⟩
theorem drawLimitSteps_any (A : Option Addr) (n c : Nat) (xs : List Int) (w0 w : World) (h : Byts w0 w0.heap.size A xs) (hn : xs.length = n) (hc : n ≤ c) (hm : c ≤ maxLen) (hlen : n ≤ 1048576) (hb0 : Below w0.heap.size w0 w) :
    Calls Try.prog 32 #[.slice A n c] w (GetsLI w) := by
  go_enter Try.func32, Try.ntmps32
  go_wp2_with fail
  refine (open_any A n c xs w0 _ h hn hc hm hlen hb0).mono ?_
  rintro e w1 ⟨R, rfl, hRs, hR, hb⟩
  go_wp2_with fail
  refine (l20Series_any R 0 _ (by omega) (by omega) _ hR (by omega)).mono ?_
  rintro e w2 ⟨A2, c2, l, rfl, hl, ho, hR2, hO⟩
  have hRl := hR.lt
  have hsz := hb.size
  have hb2 := below_only hb hO hRs
  clear hR
  have hR := hR2
  go_upto_region 3 with fail
  go_cut [2, 3] (fun s t wx => ∃ k : Int, s = .slice A2 l.length c2 ∧ t = .int .i64 k ∧ Own w.heap.size wx A2 l.length c2 l ∧ Below w.heap.size w wx)
  case first =>
    refine wp_region_draw (m := 16) (r := 0) (U := 1) (R := R) (G := R) (N := (0+400)) (ks := [10, 11, 12, 13, 14, 15, 16, 17, 18, 19, 20, 21, 22, 23, 2, 3]) (E := fun _ => True)
      (Fs := fun d => match d with | 2 => is (.slice A2 l.length c2) | 3 => num | 10 => is (.slice A2 l.length c2) | 11 => is (.pointer (some ⟨R, 0, none⟩)) | 12 => upto (0) (12) | 13 => is (.pointer (some ⟨R, 0, none⟩)) | 14 => upto (0) (256) | 15 => num | 16 => .lit 4 (fun _ => True) | 17 => .lit 7 (fun x => (0) ≤ x ∧ x < (4)) | 18 => is (.pointer (some ⟨R, 0, none⟩)) | 19 => upto (0) (7) | 20 => .cell (fun x => (0) ≤ x ∧ x < (4)) | 21 => upto (0) (4) | 22 => .cell (fun _ => True) | 23 => num | _ => .any) (A := ?A) (by kernel_rfl) (by kernel_rfl) (by kernel_rfl) ?hA (by first | exact hR | assumption) trivial (fun _ _ _ _ => trivial) ?steps ?after
    case hA => (intro tm; simp only [over, List.foldl_cons, List.foldl_nil, List.setIfInBounds_toArray, List.set_cons_zero, List.set_cons_succ]; exact rfl)
    case steps =>
      refine StepsR.cons (by (simp only [List.getElem?_toArray, List.getElem?_cons_zero]; rfl)) (fun K tm wc c hc hR hO hE hpre hK => ?_) ?_
      · go_simp
        exact hK.out _ _ (hR.more (by omega)) (.inl (only_refl _ _)) (by first | exact rfl | exact congrArg (Value.int .i64) (IntWalk.i64_in _ (by omega)))
      refine StepsR.cons (by (simp only [List.getElem?_toArray, List.getElem?_cons_succ, List.getElem?_cons_zero]; rfl)) (fun K tm wc c hc hR hO hE hpre hK => ?_) ?_
      · go_simp
        exact hK.out _ _ (hR.more (by omega)) (.inl (only_refl _ _)) (by first | exact rfl | exact congrArg (Value.int .i64) (IntWalk.i64_in _ (by omega)))
      refine StepsR.cons (by (simp only [List.getElem?_toArray, List.getElem?_cons_succ, List.getElem?_cons_zero]; rfl)) (fun K tm wc c hc hR hO hE hpre hK => ?_) ?_
      · have e11 : tm 11 = _ := (hpre 11 (by kernel_rfl))
        simp only [e11] at hK
        go_simp
        refine (pick_any R _ _ (by omega) (by omega) _ hR (by omega)).mono ?_
        rintro e w1 ⟨v, rfl, ⟨va, vb⟩, hR1, hO1⟩
        (try go_wp2_with fail)
        exact hK.out _ _ (hR1.more (by omega)) (.inl hO1) ⟨v, rfl, va, vb⟩
      refine StepsR.cons (by (simp only [List.getElem?_toArray, List.getElem?_cons_succ, List.getElem?_cons_zero]; rfl)) (fun K tm wc c hc hR hO hE hpre hK => ?_) ?_
      · go_simp
        exact hK.out _ _ (hR.more (by omega)) (.inl (only_refl _ _)) (by first | exact rfl | exact congrArg (Value.int .i64) (IntWalk.i64_in _ (by omega)))
      refine StepsR.cons (by (simp only [List.getElem?_toArray, List.getElem?_cons_succ, List.getElem?_cons_zero]; rfl)) (fun K tm wc c hc hR hO hE hpre hK => ?_) ?_
      · have e13 : tm 13 = _ := (hpre 13 (by kernel_rfl))
        simp only [e13] at hK
        go_simp
        refine (pick_any R _ _ (by omega) (by omega) _ hR (by omega)).mono ?_
        rintro e w1 ⟨v, rfl, ⟨va, vb⟩, hR1, hO1⟩
        (try go_wp2_with fail)
        exact hK.out _ _ (hR1.more (by omega)) (.inl hO1) ⟨v, rfl, va, vb⟩
      refine StepsR.cons (by (simp only [List.getElem?_toArray, List.getElem?_cons_succ, List.getElem?_cons_zero]; rfl)) (fun K tm wc c hc hR hO hE hpre hK => ?_) ?_
      · obtain ⟨u14, e14, a14, b14⟩ := (hpre 14 (by kernel_rfl))
        simp only [e14] at hK
        go_simp
        exact hK.out _ _ (hR.more (by omega)) (.inl (only_refl _ _)) ⟨_, rfl⟩
      refine StepsR.cons (by (simp only [List.getElem?_toArray, List.getElem?_cons_succ, List.getElem?_cons_zero]; rfl)) (fun K tm wc c hc hR hO hE hpre hK => ?_) ?_
      · obtain ⟨u12, e12, a12, b12⟩ := (hpre 12 (by kernel_rfl))
        obtain ⟨u15, e15⟩ := (hpre 15 (by kernel_rfl))
        simp only [e12, e15] at hK
        go_simp
        exact hK.out _ _ ((hR.alloc _).more (by omega)) (.inl (only_alloc (only_refl _ _) _)) (Fc.lit_new [u12, u15, (-1), (1000001)] rfl hR.lt hR.lt rfl (fun _ _ => trivial))
      refine StepsR.cons (by (simp only [List.getElem?_toArray, List.getElem?_cons_succ, List.getElem?_cons_zero]; rfl)) (fun K tm wc c hc hR hO hE hpre hK => ?_) ?_
      · go_simp
        exact hK.out _ _ ((hR.alloc _).more (by omega)) (.inl (only_alloc (only_refl _ _) _)) (Fc.lit_new [(0), (0), (0), (1), (1), (2), (3)] rfl hR.lt hR.lt rfl (by decide))
      refine StepsR.cons (by (simp only [List.getElem?_toArray, List.getElem?_cons_succ, List.getElem?_cons_zero]; rfl)) (fun K tm wc c hc hR hO hE hpre hK => ?_) ?_
      · go_simp
        exact hK.out _ _ (hR.more (by omega)) (.inl (only_refl _ _)) (by first | exact rfl | exact congrArg (Value.int .i64) (IntWalk.i64_in _ (by omega)))
      refine StepsR.cons (by (simp only [List.getElem?_toArray, List.getElem?_cons_succ, List.getElem?_cons_zero]; rfl)) (fun K tm wc c hc hR hO hE hpre hK => ?_) ?_
      · have e18 : tm 18 = _ := (hpre 18 (by kernel_rfl))
        simp only [e18] at hK
        go_simp
        refine (pick_any R _ _ (by omega) (by omega) _ hR (by omega)).mono ?_
        rintro e w1 ⟨v, rfl, ⟨va, vb⟩, hR1, hO1⟩
        (try go_wp2_with fail)
        exact hK.out _ _ (hR1.more (by omega)) (.inl hO1) ⟨v, rfl, va, vb⟩
      refine StepsR.cons (by (simp only [List.getElem?_toArray, List.getElem?_cons_succ, List.getElem?_cons_zero]; rfl)) (fun K tm wc c hc hR hO hE hpre hK => ?_) ?_
      · obtain ⟨g17, e17, c17⟩ := Fc.at_lit (hpre 17 (by kernel_rfl))
        obtain ⟨u19, e19, a19, b19⟩ := (hpre 19 (by kernel_rfl))
        simp only [e17, e19] at hK
        have c17 := c17 u19 (by omega) (by omega)
        go_simp
        exact hK.out _ _ (hR.more (by omega)) (.inl (only_refl _ _)) c17
      refine StepsR.cons (by (simp only [List.getElem?_toArray, List.getElem?_cons_succ, List.getElem?_cons_zero]; rfl)) (fun K tm wc c hc hR hO hE hpre hK => ?_) ?_
      · obtain ⟨g20, k20, u20, e20, _, _, h20, p20⟩ := (hpre 20 (by kernel_rfl))
        simp only [e20] at hK
        go_simp
        exact hK.out _ _ (hR.more (by omega)) (.inl (only_refl _ _)) ⟨_, rfl, p20.1, p20.2⟩
      refine StepsR.cons (by (simp only [List.getElem?_toArray, List.getElem?_cons_succ, List.getElem?_cons_zero]; rfl)) (fun K tm wc c hc hR hO hE hpre hK => ?_) ?_
      · obtain ⟨g16, e16, c16⟩ := Fc.at_lit (hpre 16 (by kernel_rfl))
        obtain ⟨u21, e21, a21, b21⟩ := (hpre 21 (by kernel_rfl))
        simp only [e16, e21] at hK
        have c16 := c16 u21 (by omega) (by omega)
        go_simp
        exact hK.out _ _ (hR.more (by omega)) (.inl (only_refl _ _)) c16
      refine StepsR.cons (by (simp only [List.getElem?_toArray, List.getElem?_cons_succ, List.getElem?_cons_zero]; rfl)) (fun K tm wc c hc hR hO hE hpre hK => ?_) ?_
      · obtain ⟨g22, k22, u22, e22, _, _, h22, p22⟩ := (hpre 22 (by kernel_rfl))
        simp only [e22] at hK
        go_simp
        exact hK.out _ _ (hR.more (by omega)) (.inl (only_refl _ _)) ⟨_, rfl⟩
      refine StepsR.cons (by (simp only [List.getElem?_toArray, List.getElem?_cons_succ, List.getElem?_cons_zero]; rfl)) (fun K tm wc c hc hR hO hE hpre hK => ?_) ?_
      · have f := hpre 10 (by kernel_rfl)
        go_simp
        exact hK.out _ _ (hR.more (by omega)) (.inl (only_refl _ _)) f
      refine StepsR.cons (by (simp only [List.getElem?_toArray, List.getElem?_cons_succ, List.getElem?_cons_zero]; rfl)) (fun K tm wc c hc hR hO hE hpre hK => ?_) ?_
      · have f := hpre 23 (by kernel_rfl)
        go_simp
        exact hK.out _ _ (hR.more (by omega)) (.inl (only_refl _ _)) f
      exact StepsR.nil
    case after =>
      intro tm w' hR hO hE hf
      have e2 : tm 2 = _ := (hf 2 (by kernel_rfl))
      obtain ⟨u3, e3⟩ := (hf 3 (by kernel_rfl))
      refine wpAnyH_done (by kernel_rfl) ?_ _
      go_wp2
      go_meet
      exact ⟨_, rfl, rfl, (ho.only (hO.one (.inl rfl)) hRl).more hsz, below_only hb2 (hO.one (.inl rfl)) hRs⟩
  case rest =>
    obtain ⟨k, rfl, rfl, ho2, hb3⟩ := hcut
    go_wp2
    go_ret2
    exact ⟨A2, c2, l, k, rfl, hl, ho2, hb3⟩
end Go.Proofs.Ytpmojbdoiahodaa
