/- The draws of the laws of polynomials return some factors (and some place); no condition. -/
import Derived.Test.YtdnklndemoinaaaPolyDraw
namespace Go.Proofs.Ytdnklndemoinaaa
open Go.RowKit
set_option linter.unusedVariables false
set_option linter.unusedSimpArgs false
set_option maxHeartbeats 4000000

def GetsLI (w : World) (e : Ending) (w' : World) : Prop := ∃ (A : Option Addr) (c : Nat) (l : List Int) (k : Int), e = .returned (.tuple #[.slice A l.length c, .int .i64 k]) ∧ l.length ≤ 200 ∧ Own w.heap.size w' A l.length c l ∧ Below w.heap.size w w'
theorem drawPolyValid_any (A : Option Addr) (n c : Nat) (xs : List Int) (w0 w : World) (h : Byts w0 w0.heap.size A xs) (hn : xs.length = n) (hc : n ≤ c) (hm : c ≤ maxLen) (hlen : n ≤ 1048576) (hb0 : Below w0.heap.size w0 w) :
    Calls Try.prog 25 #[.slice A n c] w (GetsL w) := by
  go_enter Try.func25, Try.ntmps25
  go_wp2_with fail
  refine (open_any A n c xs w0 _ h hn hc hm hlen hb0).mono ?_
  rintro e w1 ⟨R, rfl, hRs, hR, hb⟩
  go_wp2_with fail
  refine (l20Poly_any R 0 _ (by omega) (by omega) _ hR (by omega)).mono ?_
  rintro e w2 ⟨A2, c2, l, rfl, hl, ho, hR2, hO⟩
  have hRl := hR.lt
  have hsz := hb.size
  have hb2 := below_only hb hO hRs
  go_wp2
  go_ret
  exact ⟨A2, c2, l, rfl, hl, ho.more hsz, hb2⟩
theorem drawPolySlope_any (A : Option Addr) (n c : Nat) (xs : List Int) (w0 w : World) (h : Byts w0 w0.heap.size A xs) (hn : xs.length = n) (hc : n ≤ c) (hm : c ≤ maxLen) (hlen : n ≤ 1048576) (hb0 : Below w0.heap.size w0 w) :
    Calls Try.prog 28 #[.slice A n c] w (GetsL w) := by
  go_enter Try.func28, Try.ntmps28
  go_wp2_with fail
  refine (open_any A n c xs w0 _ h hn hc hm hlen hb0).mono ?_
  rintro e w1 ⟨R, rfl, hRs, hR, hb⟩
  go_wp2_with fail
  refine (l20Poly_any R 0 _ (by omega) (by omega) _ hR (by omega)).mono ?_
  rintro e w2 ⟨A2, c2, l, rfl, hl, ho, hR2, hO⟩
  have hRl := hR.lt
  have hsz := hb.size
  have hb2 := below_only hb hO hRs
  go_wp2
  go_ret
  exact ⟨A2, c2, l, rfl, hl, ho.more hsz, hb2⟩
theorem drawPolyAt_any (A : Option Addr) (n c : Nat) (xs : List Int) (w0 w : World) (h : Byts w0 w0.heap.size A xs) (hn : xs.length = n) (hc : n ≤ c) (hm : c ≤ maxLen) (hlen : n ≤ 1048576) (hb0 : Below w0.heap.size w0 w) :
    Calls Try.prog 27 #[.slice A n c] w (GetsLI w) := by
  go_enter Try.func27, Try.ntmps27
  go_wp2_with fail
  refine (open_any A n c xs w0 _ h hn hc hm hlen hb0).mono ?_
  rintro e w1 ⟨R, rfl, hRs, hR, hb⟩
  go_wp2_with fail
  refine (l20Poly_any R 0 _ (by omega) (by omega) _ hR (by omega)).mono ?_
  rintro e w2 ⟨A2, c2, l, rfl, hl, ho, hR2, hO⟩
  have hRl := hR.lt
  have hsz := hb.size
  have hb2 := below_only hb hO hRs
  clear hR
  have hR := hR2
  go_upto_region 3 with fail
  go_cut [2, 3] (fun s t wx => ∃ k : Int, s = .slice A2 l.length c2 ∧ t = .int .i64 k ∧ Own w.heap.size wx A2 l.length c2 l ∧ Below w.heap.size w wx)
  case first =>
    refine wp_region_draw (m := 17) (r := 0) (U := 1) (R := R) (G := R) (N := (0+400)) (ks := [10, 11, 12, 13, 14, 15, 16, 17, 18, 19, 20, 21, 22, 23, 24, 2, 3]) (E := fun _ => True)
      (Fs := fun d => match d with | 2 => is (.slice A2 l.length c2) | 3 => num | 10 => is (.slice A2 l.length c2) | 11 => is (.pointer (some ⟨R, 0, none⟩)) | 12 => upto (0) (9) | 13 => num | 14 => is (.pointer (some ⟨R, 0, none⟩)) | 15 => upto (0) (201) | 16 => num | 17 => .lit 4 (fun _ => True) | 18 => .lit 7 (fun x => (0) ≤ x ∧ x < (4)) | 19 => is (.pointer (some ⟨R, 0, none⟩)) | 20 => upto (0) (7) | 21 => .cell (fun x => (0) ≤ x ∧ x < (4)) | 22 => upto (0) (4) | 23 => .cell (fun _ => True) | 24 => num | _ => .any) (A := ?A) (by kernel_rfl) (by kernel_rfl) (by kernel_rfl) ?hA (by first | exact hR | assumption) trivial (fun _ _ _ _ => trivial) ?steps ?after
    case hA => (intro tm; simp only [over, List.foldl_cons, List.foldl_nil, List.setIfInBounds_toArray, List.set_cons_zero, List.set_cons_succ]; exact rfl)
    case steps =>
      refine StepsR.cons (by (simp only [List.getElem?_toArray, List.getElem?_cons_zero]; rfl)) (fun K tm wc c hc hR hO hE hpre hK => ?_) ?_
      · go_simp
        exact hK.out _ _ (hR.more (by omega)) (.inl (only_refl _ _)) (by first | exact rfl | exact congrArg (Value.int .i64) (IntWalk.i64_in _ (by omega)))
      refine StepsR.cons (by (simp only [List.getElem?_toArray, List.getElem?_cons_succ, List.getElem?_cons_zero]; rfl)) (fun K tm wc c hc hR hO hE hpre hK => ?_) ?_
      · go_simp
        exact hK.out _ _ (hR.more (by omega)) (.inl (only_refl _ _)) (by first | exact rfl | exact congrArg (Value.int .i64) (IntWalk.i64_in _ (by omega)))
      refine StepsR.cons (by (simp only [List.getElem?_toArray, List.getElem?_cons_succ, List.getElem?_cons_zero]; rfl)) (fun K tm wc c hc hR hO hE hpre hK => ?_) ?_
      · have e11 : tm 11 = _ := (hpre 11 (by kernel_rfl))
        simp only [e11] at hK
        go_simp
        refine (pick_any R _ _ (by omega) (by omega) _ hR (by omega)).mono ?_
        rintro e w1 ⟨v, rfl, ⟨va, vb⟩, hR1, hO1⟩
        (try go_wp2_with fail)
        exact hK.out _ _ (hR1.more (by omega)) (.inl hO1) ⟨v, rfl, va, vb⟩
      refine StepsR.cons (by (simp only [List.getElem?_toArray, List.getElem?_cons_succ, List.getElem?_cons_zero]; rfl)) (fun K tm wc c hc hR hO hE hpre hK => ?_) ?_
      · obtain ⟨u12, e12, a12, b12⟩ := (hpre 12 (by kernel_rfl))
        simp only [e12] at hK
        go_simp
        exact hK.out _ _ (hR.more (by omega)) (.inl (only_refl _ _)) ⟨_, rfl⟩
      refine StepsR.cons (by (simp only [List.getElem?_toArray, List.getElem?_cons_succ, List.getElem?_cons_zero]; rfl)) (fun K tm wc c hc hR hO hE hpre hK => ?_) ?_
      · go_simp
        exact hK.out _ _ (hR.more (by omega)) (.inl (only_refl _ _)) (by first | exact rfl | exact congrArg (Value.int .i64) (IntWalk.i64_in _ (by omega)))
      refine StepsR.cons (by (simp only [List.getElem?_toArray, List.getElem?_cons_succ, List.getElem?_cons_zero]; rfl)) (fun K tm wc c hc hR hO hE hpre hK => ?_) ?_
      · have e14 : tm 14 = _ := (hpre 14 (by kernel_rfl))
        simp only [e14] at hK
        go_simp
        refine (pick_any R _ _ (by omega) (by omega) _ hR (by omega)).mono ?_
        rintro e w1 ⟨v, rfl, ⟨va, vb⟩, hR1, hO1⟩
        (try go_wp2_with fail)
        exact hK.out _ _ (hR1.more (by omega)) (.inl hO1) ⟨v, rfl, va, vb⟩
      refine StepsR.cons (by (simp only [List.getElem?_toArray, List.getElem?_cons_succ, List.getElem?_cons_zero]; rfl)) (fun K tm wc c hc hR hO hE hpre hK => ?_) ?_
      · obtain ⟨u15, e15, a15, b15⟩ := (hpre 15 (by kernel_rfl))
        simp only [e15] at hK
        go_simp
        exact hK.out _ _ (hR.more (by omega)) (.inl (only_refl _ _)) ⟨_, rfl⟩
      refine StepsR.cons (by (simp only [List.getElem?_toArray, List.getElem?_cons_succ, List.getElem?_cons_zero]; rfl)) (fun K tm wc c hc hR hO hE hpre hK => ?_) ?_
      · obtain ⟨u13, e13⟩ := (hpre 13 (by kernel_rfl))
        obtain ⟨u16, e16⟩ := (hpre 16 (by kernel_rfl))
        simp only [e13, e16] at hK
        go_simp
        exact hK.out _ _ ((hR.alloc _).more (by omega)) (.inl (only_alloc (only_refl _ _) _)) (Fc.lit_new [u13, u16, (101), (-101)] rfl hR.lt hR.lt rfl (fun _ _ => trivial))
      refine StepsR.cons (by (simp only [List.getElem?_toArray, List.getElem?_cons_succ, List.getElem?_cons_zero]; rfl)) (fun K tm wc c hc hR hO hE hpre hK => ?_) ?_
      · go_simp
        exact hK.out _ _ ((hR.alloc _).more (by omega)) (.inl (only_alloc (only_refl _ _) _)) (Fc.lit_new [(0), (0), (0), (1), (1), (2), (3)] rfl hR.lt hR.lt rfl (by decide))
      refine StepsR.cons (by (simp only [List.getElem?_toArray, List.getElem?_cons_succ, List.getElem?_cons_zero]; rfl)) (fun K tm wc c hc hR hO hE hpre hK => ?_) ?_
      · go_simp
        exact hK.out _ _ (hR.more (by omega)) (.inl (only_refl _ _)) (by first | exact rfl | exact congrArg (Value.int .i64) (IntWalk.i64_in _ (by omega)))
      refine StepsR.cons (by (simp only [List.getElem?_toArray, List.getElem?_cons_succ, List.getElem?_cons_zero]; rfl)) (fun K tm wc c hc hR hO hE hpre hK => ?_) ?_
      · have e19 : tm 19 = _ := (hpre 19 (by kernel_rfl))
        simp only [e19] at hK
        go_simp
        refine (pick_any R _ _ (by omega) (by omega) _ hR (by omega)).mono ?_
        rintro e w1 ⟨v, rfl, ⟨va, vb⟩, hR1, hO1⟩
        (try go_wp2_with fail)
        exact hK.out _ _ (hR1.more (by omega)) (.inl hO1) ⟨v, rfl, va, vb⟩
      refine StepsR.cons (by (simp only [List.getElem?_toArray, List.getElem?_cons_succ, List.getElem?_cons_zero]; rfl)) (fun K tm wc c hc hR hO hE hpre hK => ?_) ?_
      · obtain ⟨g18, e18, c18⟩ := Fc.at_lit (hpre 18 (by kernel_rfl))
        obtain ⟨u20, e20, a20, b20⟩ := (hpre 20 (by kernel_rfl))
        simp only [e18, e20] at hK
        have c18 := c18 u20 (by omega) (by omega)
        go_simp
        exact hK.out _ _ (hR.more (by omega)) (.inl (only_refl _ _)) c18
      refine StepsR.cons (by (simp only [List.getElem?_toArray, List.getElem?_cons_succ, List.getElem?_cons_zero]; rfl)) (fun K tm wc c hc hR hO hE hpre hK => ?_) ?_
      · obtain ⟨g21, k21, u21, e21, _, _, h21, p21⟩ := (hpre 21 (by kernel_rfl))
        simp only [e21] at hK
        go_simp
        exact hK.out _ _ (hR.more (by omega)) (.inl (only_refl _ _)) ⟨_, rfl, p21.1, p21.2⟩
      refine StepsR.cons (by (simp only [List.getElem?_toArray, List.getElem?_cons_succ, List.getElem?_cons_zero]; rfl)) (fun K tm wc c hc hR hO hE hpre hK => ?_) ?_
      · obtain ⟨g17, e17, c17⟩ := Fc.at_lit (hpre 17 (by kernel_rfl))
        obtain ⟨u22, e22, a22, b22⟩ := (hpre 22 (by kernel_rfl))
        simp only [e17, e22] at hK
        have c17 := c17 u22 (by omega) (by omega)
        go_simp
        exact hK.out _ _ (hR.more (by omega)) (.inl (only_refl _ _)) c17
      refine StepsR.cons (by (simp only [List.getElem?_toArray, List.getElem?_cons_succ, List.getElem?_cons_zero]; rfl)) (fun K tm wc c hc hR hO hE hpre hK => ?_) ?_
      · obtain ⟨g23, k23, u23, e23, _, _, h23, p23⟩ := (hpre 23 (by kernel_rfl))
        simp only [e23] at hK
        go_simp
        exact hK.out _ _ (hR.more (by omega)) (.inl (only_refl _ _)) ⟨_, rfl⟩
      refine StepsR.cons (by (simp only [List.getElem?_toArray, List.getElem?_cons_succ, List.getElem?_cons_zero]; rfl)) (fun K tm wc c hc hR hO hE hpre hK => ?_) ?_
      · have f := hpre 10 (by kernel_rfl)
        go_simp
        exact hK.out _ _ (hR.more (by omega)) (.inl (only_refl _ _)) f
      refine StepsR.cons (by (simp only [List.getElem?_toArray, List.getElem?_cons_succ, List.getElem?_cons_zero]; rfl)) (fun K tm wc c hc hR hO hE hpre hK => ?_) ?_
      · have f := hpre 24 (by kernel_rfl)
        go_simp
        exact hK.out _ _ (hR.more (by omega)) (.inl (only_refl _ _)) f
      exact StepsR.nil
    case after =>
      intro tm w' hR hO hE hf
      have e2 : tm 2 = _ := (hf 2 (by kernel_rfl))
      obtain ⟨u3, e3⟩ := (hf 3 (by kernel_rfl))
      refine wpAnyH_done (by kernel_rfl) ?_ _
      go_wp2
      go_meet
      exact ⟨_, rfl, rfl, (ho.only (hO.one (.inl rfl)) hRl).more hsz, below_only hb2 (hO.one (.inl rfl)) hRs⟩
  case rest =>
    obtain ⟨k, rfl, rfl, ho2, hb3⟩ := hcut
    go_wp2
    go_ret2
    exact ⟨A2, c2, l, k, rfl, hl, ho2, hb3⟩
end Go.Proofs.Ytdnklndemoinaaa
