/- The draws of the laws of sines return some angle; no condition. -/
import Derived.Test.YtdojgkjgjfclaaaSinE
import Derived.Test.YtdojgkjgjfclaaaAlive
namespace Go.Proofs.Ytdojgkjgjfclaaa
open Go.RowKit
set_option linter.unusedVariables false
set_option linter.unusedSimpArgs false
set_option maxHeartbeats 4000000

theorem l20Eighth_any (R N : Nat) (w : World) (hR : Rd w R N) (hN : N ≤ 1073741824) : Calls Try.prog 29 #[.pointer (some ⟨R, 0, none⟩)] w (DrawsI (fun _ => True) w R (N + 60)) := by
  go_enter Try.func29, Try.ntmps29
  go_upto_region 1 with fail
  refine wp_text_draw (m := 13) (U := 1) (R := R) (G := R) (N := N) (ks := [3, 4, 5, 6, 7, 8, 9, 10, 11, 12, 13, 14, 15]) (E := fun _ => True)
    (Fs := fun d => match d with | 3 => is (.pointer (some ⟨R, 0, none⟩)) | 4 => upto (0) (256) | 5 => num | 6 => is (.pointer (some ⟨R, 0, none⟩)) | 7 => upto (0) (256) | 8 => .lit 5 (fun _ => True) | 9 => .lit 8 (fun x => (0) ≤ x ∧ x < (5)) | 10 => is (.pointer (some ⟨R, 0, none⟩)) | 11 => upto (0) (8) | 12 => .cell (fun x => (0) ≤ x ∧ x < (5)) | 13 => upto (0) (5) | 14 => .cell (fun _ => True) | 15 => num | _ => .any) (A := ?A) (rest := ?rest) (by kernel_rfl) ?hrest ?hA (by first | exact hR | assumption) trivial (fun _ _ _ _ => trivial) ?steps ?after
  case hrest => (simp only [List.drop_succ_cons, List.drop_zero]; exact rfl)
  case hA => (intro tm; simp only [over, List.foldl_cons, List.foldl_nil, List.setIfInBounds_toArray, List.set_cons_zero, List.set_cons_succ]; exact rfl)
  case steps =>
    refine StepsR.cons (by (simp only [List.getElem?_toArray, List.getElem?_cons_zero]; rfl)) (fun K tm wc c hc hR hO hE hpre hK => ?_) ?_
    · go_simp
      exact hK.out _ _ (hR.more (by omega)) (.inl (only_refl _ _)) (by first | exact rfl | exact congrArg (Value.int .i64) (IntWalk.i64_in _ (by omega)))
    refine StepsR.cons (by (simp only [List.getElem?_toArray, List.getElem?_cons_succ, List.getElem?_cons_zero]; rfl)) (fun K tm wc c hc hR hO hE hpre hK => ?_) ?_
    · have e3 : tm 3 = _ := (hpre 3 (by kernel_rfl))
      simp only [e3] at hK
      go_simp
      refine (pick_any R _ _ (by omega) (by omega) _ hR (by omega)).mono ?_
      rintro e w1 ⟨v, rfl, ⟨va, vb⟩, hR1, hO1⟩
      (try go_wp2_with fail)
      exact hK.out _ _ (hR1.more (by omega)) (.inl hO1) ⟨v, rfl, va, vb⟩
    refine StepsR.cons (by (simp only [List.getElem?_toArray, List.getElem?_cons_succ, List.getElem?_cons_zero]; rfl)) (fun K tm wc c hc hR hO hE hpre hK => ?_) ?_
    · obtain ⟨u4, e4, a4, b4⟩ := (hpre 4 (by kernel_rfl))
      simp only [e4] at hK
      go_simp
      exact hK.out _ _ (hR.more (by omega)) (.inl (only_refl _ _)) ⟨_, rfl⟩
    refine StepsR.cons (by (simp only [List.getElem?_toArray, List.getElem?_cons_succ, List.getElem?_cons_zero]; rfl)) (fun K tm wc c hc hR hO hE hpre hK => ?_) ?_
    · go_simp
      exact hK.out _ _ (hR.more (by omega)) (.inl (only_refl _ _)) (by first | exact rfl | exact congrArg (Value.int .i64) (IntWalk.i64_in _ (by omega)))
    refine StepsR.cons (by (simp only [List.getElem?_toArray, List.getElem?_cons_succ, List.getElem?_cons_zero]; rfl)) (fun K tm wc c hc hR hO hE hpre hK => ?_) ?_
    · have e6 : tm 6 = _ := (hpre 6 (by kernel_rfl))
      simp only [e6] at hK
      go_simp
      refine (pick_any R _ _ (by omega) (by omega) _ hR (by omega)).mono ?_
      rintro e w1 ⟨v, rfl, ⟨va, vb⟩, hR1, hO1⟩
      (try go_wp2_with fail)
      exact hK.out _ _ (hR1.more (by omega)) (.inl hO1) ⟨v, rfl, va, vb⟩
    refine StepsR.cons (by (simp only [List.getElem?_toArray, List.getElem?_cons_succ, List.getElem?_cons_zero]; rfl)) (fun K tm wc c hc hR hO hE hpre hK => ?_) ?_
    · obtain ⟨u5, e5⟩ := (hpre 5 (by kernel_rfl))
      obtain ⟨u7, e7, a7, b7⟩ := (hpre 7 (by kernel_rfl))
      simp only [e5, e7] at hK
      go_simp
      exact hK.out _ _ ((hR.alloc _).more (by omega)) (.inl (only_alloc (only_refl _ _) _)) (Fc.lit_new [u5, u7, (8192), (8193), (-1)] rfl hR.lt hR.lt rfl (fun _ _ => trivial))
    refine StepsR.cons (by (simp only [List.getElem?_toArray, List.getElem?_cons_succ, List.getElem?_cons_zero]; rfl)) (fun K tm wc c hc hR hO hE hpre hK => ?_) ?_
    · go_simp
      exact hK.out _ _ ((hR.alloc _).more (by omega)) (.inl (only_alloc (only_refl _ _) _)) (Fc.lit_new [(0), (0), (0), (0), (1), (2), (3), (4)] rfl hR.lt hR.lt rfl (by decide))
    refine StepsR.cons (by (simp only [List.getElem?_toArray, List.getElem?_cons_succ, List.getElem?_cons_zero]; rfl)) (fun K tm wc c hc hR hO hE hpre hK => ?_) ?_
    · go_simp
      exact hK.out _ _ (hR.more (by omega)) (.inl (only_refl _ _)) (by first | exact rfl | exact congrArg (Value.int .i64) (IntWalk.i64_in _ (by omega)))
    refine StepsR.cons (by (simp only [List.getElem?_toArray, List.getElem?_cons_succ, List.getElem?_cons_zero]; rfl)) (fun K tm wc c hc hR hO hE hpre hK => ?_) ?_
    · have e10 : tm 10 = _ := (hpre 10 (by kernel_rfl))
      simp only [e10] at hK
      go_simp
      refine (pick_any R _ _ (by omega) (by omega) _ hR (by omega)).mono ?_
      rintro e w1 ⟨v, rfl, ⟨va, vb⟩, hR1, hO1⟩
      (try go_wp2_with fail)
      exact hK.out _ _ (hR1.more (by omega)) (.inl hO1) ⟨v, rfl, va, vb⟩
    refine StepsR.cons (by (simp only [List.getElem?_toArray, List.getElem?_cons_succ, List.getElem?_cons_zero]; rfl)) (fun K tm wc c hc hR hO hE hpre hK => ?_) ?_
    · obtain ⟨g9, e9, c9⟩ := Fc.at_lit (hpre 9 (by kernel_rfl))
      obtain ⟨u11, e11, a11, b11⟩ := (hpre 11 (by kernel_rfl))
      simp only [e9, e11] at hK
      have c9 := c9 u11 (by omega) (by omega)
      go_simp
      exact hK.out _ _ (hR.more (by omega)) (.inl (only_refl _ _)) c9
    refine StepsR.cons (by (simp only [List.getElem?_toArray, List.getElem?_cons_succ, List.getElem?_cons_zero]; rfl)) (fun K tm wc c hc hR hO hE hpre hK => ?_) ?_
    · obtain ⟨g12, k12, u12, e12, _, _, h12, p12⟩ := (hpre 12 (by kernel_rfl))
      simp only [e12] at hK
      go_simp
      exact hK.out _ _ (hR.more (by omega)) (.inl (only_refl _ _)) ⟨_, rfl, p12.1, p12.2⟩
    refine StepsR.cons (by (simp only [List.getElem?_toArray, List.getElem?_cons_succ, List.getElem?_cons_zero]; rfl)) (fun K tm wc c hc hR hO hE hpre hK => ?_) ?_
    · obtain ⟨g8, e8, c8⟩ := Fc.at_lit (hpre 8 (by kernel_rfl))
      obtain ⟨u13, e13, a13, b13⟩ := (hpre 13 (by kernel_rfl))
      simp only [e8, e13] at hK
      have c8 := c8 u13 (by omega) (by omega)
      go_simp
      exact hK.out _ _ (hR.more (by omega)) (.inl (only_refl _ _)) c8
    refine StepsR.cons (by (simp only [List.getElem?_toArray, List.getElem?_cons_succ, List.getElem?_cons_zero]; rfl)) (fun K tm wc c hc hR hO hE hpre hK => ?_) ?_
    · obtain ⟨g14, k14, u14, e14, _, _, h14, p14⟩ := (hpre 14 (by kernel_rfl))
      simp only [e14] at hK
      go_simp
      exact hK.out _ _ (hR.more (by omega)) (.inl (only_refl _ _)) ⟨_, rfl⟩
    exact StepsR.nil
  case after =>
    intro tm w' hR hO hE hf
    obtain ⟨u15, e15⟩ := (hf 15 (by kernel_rfl))
    replace hO := hO.one (.inl rfl)
    go_wp2
    go_ret
    exact ⟨_, rfl, trivial, hR.more (by omega), hO⟩
def GetsI (w : World) (e : Ending) (w' : World) : Prop := ∃ v : Int, e = .returned (.int .i64 v) ∧ Below w.heap.size w w'
theorem drawSineSpan_any (A : Option Addr) (n c : Nat) (xs : List Int) (w0 w : World) (h : Byts w0 w0.heap.size A xs) (hn : xs.length = n) (hc : n ≤ c) (hm : c ≤ maxLen) (hlen : n ≤ 1048576) (hb0 : Below w0.heap.size w0 w) :
    Calls Try.prog 18 #[.slice A n c] w (GetsI w) := by
  go_enter Try.func18, Try.ntmps18
  go_wp2_with fail
  refine (open_any A n c xs w0 _ h hn hc hm hlen hb0).mono ?_
  rintro e w1 ⟨R, rfl, hRs, hR, hb⟩
  go_wp2_with fail
  refine (l20Eighth_any R _ _ hR (by omega)).mono ?_
  rintro e w2 ⟨v, rfl, -, hR2, hO⟩
  have hb2 := below_only hb hO hRs
  go_wp2
  go_ret
  exact ⟨v, rfl, hb2⟩
theorem drawCosineSpan_any (A : Option Addr) (n c : Nat) (xs : List Int) (w0 w : World) (h : Byts w0 w0.heap.size A xs) (hn : xs.length = n) (hc : n ≤ c) (hm : c ≤ maxLen) (hlen : n ≤ 1048576) (hb0 : Below w0.heap.size w0 w) :
    Calls Try.prog 20 #[.slice A n c] w (GetsI w) := by
  go_enter Try.func20, Try.ntmps20
  go_wp2_with fail
  refine (open_any A n c xs w0 _ h hn hc hm hlen hb0).mono ?_
  rintro e w1 ⟨R, rfl, hRs, hR, hb⟩
  go_wp2_with fail
  refine (l20Eighth_any R _ _ hR (by omega)).mono ?_
  rintro e w2 ⟨v, rfl, -, hR2, hO⟩
  have hb2 := below_only hb hO hRs
  go_wp2
  go_ret
  exact ⟨v, rfl, hb2⟩
theorem drawSineFar_any (A : Option Addr) (n c : Nat) (xs : List Int) (w0 w : World) (h : Byts w0 w0.heap.size A xs) (hn : xs.length = n) (hc : n ≤ c) (hm : c ≤ maxLen) (hlen : n ≤ 1048576) (hb0 : Below w0.heap.size w0 w) :
    Calls Try.prog 11 #[.slice A n c] w (GetsI w) := by
  go_enter Try.func11, Try.ntmps11
  go_wp2_with fail
  refine (open_any A n c xs w0 _ h hn hc hm hlen hb0).mono ?_
  rintro e w1 ⟨R, rfl, hRs, hR, hb⟩
  go_wp2_with fail
  refine (l20Eighth_any R _ _ hR (by omega)).mono ?_
  rintro e w2 ⟨v, rfl, -, hR2, hO⟩
  have hb2 := below_only hb hO hRs
  go_wp2
  go_ret
  exact ⟨v, rfl, hb2⟩
end Go.Proofs.Ytdojgkjgjfclaaa
