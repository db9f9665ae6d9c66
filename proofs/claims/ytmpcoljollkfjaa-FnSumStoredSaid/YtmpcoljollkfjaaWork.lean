/- The contract of the drawing function l20Work; condition: the reader's place is below 2^30. -/
import Derived.Test.YtmpcoljollkfjaaReg
namespace Go.Proofs.Ytmpcoljollkfjaa
open Go.RowKit
set_option linter.unusedVariables false
set_option linter.unusedSimpArgs false
set_option maxHeartbeats 4000000

theorem l20Work_any (R N : Nat) (w : World) (hR : Rd w R N) (hN : N ≤ 1073741824) : Calls Try.prog 57 #[.pointer (some ⟨R, 0, none⟩)] w (DrawsI (fun _ => True) w R (N + 60)) := by
  go_enter Try.func57, Try.ntmps57
  go_upto_region 1 with fail
  refine wp_text_draw (m := 29) (U := 1) (R := R) (G := R) (N := N) (ks := [4, 5, 6, 7, 8, 9, 10, 11, 12, 13, 14, 15, 16, 17, 18, 19, 20, 21, 22, 23, 24, 25, 26, 27, 28, 29, 30, 31, 32]) (E := fun _ => True)
    (Fs := fun d => match d with | 4 => is (.pointer (some ⟨R, 0, none⟩)) | 5 => upto (0) (256) | 6 => is (.pointer (some ⟨R, 0, none⟩)) | 7 => upto (0) (256) | 8 => num | 9 => is (.pointer (some ⟨R, 0, none⟩)) | 10 => upto (0) (256) | 11 => num | 12 => is (.pointer (some ⟨R, 0, none⟩)) | 13 => upto (0) (256) | 14 => num | 15 => is (.pointer (some ⟨R, 0, none⟩)) | 16 => upto (0) (256) | 17 => num | 18 => is (.pointer (some ⟨R, 0, none⟩)) | 19 => upto (0) (256) | 20 => num | 21 => num | 22 => is (.pointer (some ⟨R, 0, none⟩)) | 23 => upto (0) (256) | 24 => num | 25 => .lit 7 (fun _ => True) | 26 => .lit 11 (fun x => (0) ≤ x ∧ x < (7)) | 27 => is (.pointer (some ⟨R, 0, none⟩)) | 28 => upto (0) (11) | 29 => .cell (fun x => (0) ≤ x ∧ x < (7)) | 30 => upto (0) (7) | 31 => .cell (fun _ => True) | 32 => num | _ => .any) (A := ?A) (rest := ?rest) (by kernel_rfl) ?hrest ?hA (by first | exact hR | assumption) trivial (fun _ _ _ _ => trivial) ?steps ?after
  case hrest => (simp only [List.drop_succ_cons, List.drop_zero]; exact rfl)
  case hA => (intro tm; simp only [over, List.foldl_cons, List.foldl_nil, List.setIfInBounds_toArray, List.set_cons_zero, List.set_cons_succ]; exact rfl)
  case steps =>
    refine StepsR.cons (by (simp only [List.getElem?_toArray, List.getElem?_cons_zero]; rfl)) (fun K tm wc c hc hR hO hE hpre hK => ?_) ?_
    · go_simp
      exact hK.out _ _ (hR.more (by omega)) (.inl (only_refl _ _)) (by first | exact rfl | exact congrArg (Value.int .i64) (IntWalk.i64_in _ (by omega)))
    refine StepsR.cons (by (simp only [List.getElem?_toArray, List.getElem?_cons_succ, List.getElem?_cons_zero]; rfl)) (fun K tm wc c hc hR hO hE hpre hK => ?_) ?_
    · have e4 : tm 4 = _ := (hpre 4 (by kernel_rfl))
      simp only [e4] at hK
      go_simp
      refine (pick_any R _ _ (by omega) (by omega) _ hR (by omega)).mono ?_
      rintro e w1 ⟨v, rfl, ⟨va, vb⟩, hR1, hO1⟩
      (try go_wp2_with fail)
      exact hK.out _ _ (hR1.more (by omega)) (.inl hO1) ⟨v, rfl, va, vb⟩
    refine StepsR.cons (by (simp only [List.getElem?_toArray, List.getElem?_cons_succ, List.getElem?_cons_zero]; rfl)) (fun K tm wc c hc hR hO hE hpre hK => ?_) ?_
    · go_simp
      exact hK.out _ _ (hR.more (by omega)) (.inl (only_refl _ _)) (by first | exact rfl | exact congrArg (Value.int .i64) (IntWalk.i64_in _ (by omega)))
    refine StepsR.cons (by (simp only [List.getElem?_toArray, List.getElem?_cons_succ, List.getElem?_cons_zero]; rfl)) (fun K tm wc c hc hR hO hE hpre hK => ?_) ?_
    · have e6 : tm 6 = _ := (hpre 6 (by kernel_rfl))
      simp only [e6] at hK
      go_simp
      refine (pick_any R _ _ (by omega) (by omega) _ hR (by omega)).mono ?_
      rintro e w1 ⟨v, rfl, ⟨va, vb⟩, hR1, hO1⟩
      (try go_wp2_with fail)
      exact hK.out _ _ (hR1.more (by omega)) (.inl hO1) ⟨v, rfl, va, vb⟩
    refine StepsR.cons (by (simp only [List.getElem?_toArray, List.getElem?_cons_succ, List.getElem?_cons_zero]; rfl)) (fun K tm wc c hc hR hO hE hpre hK => ?_) ?_
    · obtain ⟨u7, e7, a7, b7⟩ := (hpre 7 (by kernel_rfl))
      simp only [e7] at hK
      go_simp
      exact hK.out _ _ (hR.more (by omega)) (.inl (only_refl _ _)) ⟨_, rfl⟩
    refine StepsR.cons (by (simp only [List.getElem?_toArray, List.getElem?_cons_succ, List.getElem?_cons_zero]; rfl)) (fun K tm wc c hc hR hO hE hpre hK => ?_) ?_
    · go_simp
      exact hK.out _ _ (hR.more (by omega)) (.inl (only_refl _ _)) (by first | exact rfl | exact congrArg (Value.int .i64) (IntWalk.i64_in _ (by omega)))
    refine StepsR.cons (by (simp only [List.getElem?_toArray, List.getElem?_cons_succ, List.getElem?_cons_zero]; rfl)) (fun K tm wc c hc hR hO hE hpre hK => ?_) ?_
    · have e9 : tm 9 = _ := (hpre 9 (by kernel_rfl))
      simp only [e9] at hK
      go_simp
      refine (pick_any R _ _ (by omega) (by omega) _ hR (by omega)).mono ?_
      rintro e w1 ⟨v, rfl, ⟨va, vb⟩, hR1, hO1⟩
      (try go_wp2_with fail)
      exact hK.out _ _ (hR1.more (by omega)) (.inl hO1) ⟨v, rfl, va, vb⟩
    refine StepsR.cons (by (simp only [List.getElem?_toArray, List.getElem?_cons_succ, List.getElem?_cons_zero]; rfl)) (fun K tm wc c hc hR hO hE hpre hK => ?_) ?_
    · obtain ⟨u10, e10, a10, b10⟩ := (hpre 10 (by kernel_rfl))
      simp only [e10] at hK
      go_simp
      exact hK.out _ _ (hR.more (by omega)) (.inl (only_refl _ _)) ⟨_, rfl⟩
    refine StepsR.cons (by (simp only [List.getElem?_toArray, List.getElem?_cons_succ, List.getElem?_cons_zero]; rfl)) (fun K tm wc c hc hR hO hE hpre hK => ?_) ?_
    · go_simp
      exact hK.out _ _ (hR.more (by omega)) (.inl (only_refl _ _)) (by first | exact rfl | exact congrArg (Value.int .i64) (IntWalk.i64_in _ (by omega)))
    refine StepsR.cons (by (simp only [List.getElem?_toArray, List.getElem?_cons_succ, List.getElem?_cons_zero]; rfl)) (fun K tm wc c hc hR hO hE hpre hK => ?_) ?_
    · have e12 : tm 12 = _ := (hpre 12 (by kernel_rfl))
      simp only [e12] at hK
      go_simp
      refine (pick_any R _ _ (by omega) (by omega) _ hR (by omega)).mono ?_
      rintro e w1 ⟨v, rfl, ⟨va, vb⟩, hR1, hO1⟩
      (try go_wp2_with fail)
      exact hK.out _ _ (hR1.more (by omega)) (.inl hO1) ⟨v, rfl, va, vb⟩
    refine StepsR.cons (by (simp only [List.getElem?_toArray, List.getElem?_cons_succ, List.getElem?_cons_zero]; rfl)) (fun K tm wc c hc hR hO hE hpre hK => ?_) ?_
    · obtain ⟨u11, e11⟩ := (hpre 11 (by kernel_rfl))
      obtain ⟨u13, e13, a13, b13⟩ := (hpre 13 (by kernel_rfl))
      simp only [e11, e13] at hK
      go_simp
      exact hK.out _ _ (hR.more (by omega)) (.inl (only_refl _ _)) ⟨_, rfl⟩
    refine StepsR.cons (by (simp only [List.getElem?_toArray, List.getElem?_cons_succ, List.getElem?_cons_zero]; rfl)) (fun K tm wc c hc hR hO hE hpre hK => ?_) ?_
    · go_simp
      exact hK.out _ _ (hR.more (by omega)) (.inl (only_refl _ _)) (by first | exact rfl | exact congrArg (Value.int .i64) (IntWalk.i64_in _ (by omega)))
    refine StepsR.cons (by (simp only [List.getElem?_toArray, List.getElem?_cons_succ, List.getElem?_cons_zero]; rfl)) (fun K tm wc c hc hR hO hE hpre hK => ?_) ?_
    · have e15 : tm 15 = _ := (hpre 15 (by kernel_rfl))
      simp only [e15] at hK
      go_simp
      refine (pick_any R _ _ (by omega) (by omega) _ hR (by omega)).mono ?_
      rintro e w1 ⟨v, rfl, ⟨va, vb⟩, hR1, hO1⟩
      (try go_wp2_with fail)
      exact hK.out _ _ (hR1.more (by omega)) (.inl hO1) ⟨v, rfl, va, vb⟩
    refine StepsR.cons (by (simp only [List.getElem?_toArray, List.getElem?_cons_succ, List.getElem?_cons_zero]; rfl)) (fun K tm wc c hc hR hO hE hpre hK => ?_) ?_
    · obtain ⟨u16, e16, a16, b16⟩ := (hpre 16 (by kernel_rfl))
      simp only [e16] at hK
      go_simp
      exact hK.out _ _ (hR.more (by omega)) (.inl (only_refl _ _)) ⟨_, rfl⟩
    refine StepsR.cons (by (simp only [List.getElem?_toArray, List.getElem?_cons_succ, List.getElem?_cons_zero]; rfl)) (fun K tm wc c hc hR hO hE hpre hK => ?_) ?_
    · go_simp
      exact hK.out _ _ (hR.more (by omega)) (.inl (only_refl _ _)) (by first | exact rfl | exact congrArg (Value.int .i64) (IntWalk.i64_in _ (by omega)))
    refine StepsR.cons (by (simp only [List.getElem?_toArray, List.getElem?_cons_succ, List.getElem?_cons_zero]; rfl)) (fun K tm wc c hc hR hO hE hpre hK => ?_) ?_
    · have e18 : tm 18 = _ := (hpre 18 (by kernel_rfl))
      simp only [e18] at hK
      go_simp
      refine (pick_any R _ _ (by omega) (by omega) _ hR (by omega)).mono ?_
      rintro e w1 ⟨v, rfl, ⟨va, vb⟩, hR1, hO1⟩
      (try go_wp2_with fail)
      exact hK.out _ _ (hR1.more (by omega)) (.inl hO1) ⟨v, rfl, va, vb⟩
    refine StepsR.cons (by (simp only [List.getElem?_toArray, List.getElem?_cons_succ, List.getElem?_cons_zero]; rfl)) (fun K tm wc c hc hR hO hE hpre hK => ?_) ?_
    · obtain ⟨u19, e19, a19, b19⟩ := (hpre 19 (by kernel_rfl))
      simp only [e19] at hK
      go_simp
      exact hK.out _ _ (hR.more (by omega)) (.inl (only_refl _ _)) ⟨_, rfl⟩
    refine StepsR.cons (by (simp only [List.getElem?_toArray, List.getElem?_cons_succ, List.getElem?_cons_zero]; rfl)) (fun K tm wc c hc hR hO hE hpre hK => ?_) ?_
    · obtain ⟨u17, e17⟩ := (hpre 17 (by kernel_rfl))
      obtain ⟨u20, e20⟩ := (hpre 20 (by kernel_rfl))
      simp only [e17, e20] at hK
      go_simp
      exact hK.out _ _ (hR.more (by omega)) (.inl (only_refl _ _)) ⟨_, rfl⟩
    refine StepsR.cons (by (simp only [List.getElem?_toArray, List.getElem?_cons_succ, List.getElem?_cons_zero]; rfl)) (fun K tm wc c hc hR hO hE hpre hK => ?_) ?_
    · go_simp
      exact hK.out _ _ (hR.more (by omega)) (.inl (only_refl _ _)) (by first | exact rfl | exact congrArg (Value.int .i64) (IntWalk.i64_in _ (by omega)))
    refine StepsR.cons (by (simp only [List.getElem?_toArray, List.getElem?_cons_succ, List.getElem?_cons_zero]; rfl)) (fun K tm wc c hc hR hO hE hpre hK => ?_) ?_
    · have e22 : tm 22 = _ := (hpre 22 (by kernel_rfl))
      simp only [e22] at hK
      go_simp
      refine (pick_any R _ _ (by omega) (by omega) _ hR (by omega)).mono ?_
      rintro e w1 ⟨v, rfl, ⟨va, vb⟩, hR1, hO1⟩
      (try go_wp2_with fail)
      exact hK.out _ _ (hR1.more (by omega)) (.inl hO1) ⟨v, rfl, va, vb⟩
    refine StepsR.cons (by (simp only [List.getElem?_toArray, List.getElem?_cons_succ, List.getElem?_cons_zero]; rfl)) (fun K tm wc c hc hR hO hE hpre hK => ?_) ?_
    · obtain ⟨u21, e21⟩ := (hpre 21 (by kernel_rfl))
      obtain ⟨u23, e23, a23, b23⟩ := (hpre 23 (by kernel_rfl))
      simp only [e21, e23] at hK
      go_simp
      exact hK.out _ _ (hR.more (by omega)) (.inl (only_refl _ _)) ⟨_, rfl⟩
    refine StepsR.cons (by (simp only [List.getElem?_toArray, List.getElem?_cons_succ, List.getElem?_cons_zero]; rfl)) (fun K tm wc c hc hR hO hE hpre hK => ?_) ?_
    · obtain ⟨u5, e5, a5, b5⟩ := (hpre 5 (by kernel_rfl))
      obtain ⟨u8, e8⟩ := (hpre 8 (by kernel_rfl))
      obtain ⟨u14, e14⟩ := (hpre 14 (by kernel_rfl))
      obtain ⟨u24, e24⟩ := (hpre 24 (by kernel_rfl))
      simp only [e5, e8, e14, e24] at hK
      go_simp
      exact hK.out _ _ ((hR.alloc _).more (by omega)) (.inl (only_alloc (only_refl _ _) _)) (Fc.lit_new [u5, u8, u14, u24, (1152921504606846976), (1152921504606846975), (0)] rfl hR.lt hR.lt rfl (fun _ _ => trivial))
    refine StepsR.cons (by (simp only [List.getElem?_toArray, List.getElem?_cons_succ, List.getElem?_cons_zero]; rfl)) (fun K tm wc c hc hR hO hE hpre hK => ?_) ?_
    · go_simp
      exact hK.out _ _ ((hR.alloc _).more (by omega)) (.inl (only_alloc (only_refl _ _) _)) (Fc.lit_new [(0), (0), (1), (1), (2), (2), (3), (3), (4), (5), (6)] rfl hR.lt hR.lt rfl (by decide))
    refine StepsR.cons (by (simp only [List.getElem?_toArray, List.getElem?_cons_succ, List.getElem?_cons_zero]; rfl)) (fun K tm wc c hc hR hO hE hpre hK => ?_) ?_
    · go_simp
      exact hK.out _ _ (hR.more (by omega)) (.inl (only_refl _ _)) (by first | exact rfl | exact congrArg (Value.int .i64) (IntWalk.i64_in _ (by omega)))
    refine StepsR.cons (by (simp only [List.getElem?_toArray, List.getElem?_cons_succ, List.getElem?_cons_zero]; rfl)) (fun K tm wc c hc hR hO hE hpre hK => ?_) ?_
    · have e27 : tm 27 = _ := (hpre 27 (by kernel_rfl))
      simp only [e27] at hK
      go_simp
      refine (pick_any R _ _ (by omega) (by omega) _ hR (by omega)).mono ?_
      rintro e w1 ⟨v, rfl, ⟨va, vb⟩, hR1, hO1⟩
      (try go_wp2_with fail)
      exact hK.out _ _ (hR1.more (by omega)) (.inl hO1) ⟨v, rfl, va, vb⟩
    refine StepsR.cons (by (simp only [List.getElem?_toArray, List.getElem?_cons_succ, List.getElem?_cons_zero]; rfl)) (fun K tm wc c hc hR hO hE hpre hK => ?_) ?_
    · obtain ⟨g26, e26, c26⟩ := Fc.at_lit (hpre 26 (by kernel_rfl))
      obtain ⟨u28, e28, a28, b28⟩ := (hpre 28 (by kernel_rfl))
      simp only [e26, e28] at hK
      have c26 := c26 u28 (by omega) (by omega)
      go_simp
      exact hK.out _ _ (hR.more (by omega)) (.inl (only_refl _ _)) c26
    refine StepsR.cons (by (simp only [List.getElem?_toArray, List.getElem?_cons_succ, List.getElem?_cons_zero]; rfl)) (fun K tm wc c hc hR hO hE hpre hK => ?_) ?_
    · obtain ⟨g29, k29, u29, e29, _, _, h29, p29⟩ := (hpre 29 (by kernel_rfl))
      simp only [e29] at hK
      go_simp
      exact hK.out _ _ (hR.more (by omega)) (.inl (only_refl _ _)) ⟨_, rfl, p29.1, p29.2⟩
    refine StepsR.cons (by (simp only [List.getElem?_toArray, List.getElem?_cons_succ, List.getElem?_cons_zero]; rfl)) (fun K tm wc c hc hR hO hE hpre hK => ?_) ?_
    · obtain ⟨g25, e25, c25⟩ := Fc.at_lit (hpre 25 (by kernel_rfl))
      obtain ⟨u30, e30, a30, b30⟩ := (hpre 30 (by kernel_rfl))
      simp only [e25, e30] at hK
      have c25 := c25 u30 (by omega) (by omega)
      go_simp
      exact hK.out _ _ (hR.more (by omega)) (.inl (only_refl _ _)) c25
    refine StepsR.cons (by (simp only [List.getElem?_toArray, List.getElem?_cons_succ, List.getElem?_cons_zero]; rfl)) (fun K tm wc c hc hR hO hE hpre hK => ?_) ?_
    · obtain ⟨g31, k31, u31, e31, _, _, h31, p31⟩ := (hpre 31 (by kernel_rfl))
      simp only [e31] at hK
      go_simp
      exact hK.out _ _ (hR.more (by omega)) (.inl (only_refl _ _)) ⟨_, rfl⟩
    exact StepsR.nil
  case after =>
    intro tm w' hR hO hE hf
    obtain ⟨u32, e32⟩ := (hf 32 (by kernel_rfl))
    replace hO := hO.one (.inl rfl)
    go_wp2_with (go_at_call 58; refine (pick_any R _ _ (by omega) (by omega) _ hR (by omega)).mono ?_; rintro e w1 ⟨v, rfl, ⟨va, vb⟩, hR1, hO1⟩)
    all_goals (go_ret; exact ⟨_, rfl, trivial, hR1.more (by omega), only_trans hO hO1⟩)
end Go.Proofs.Ytmpcoljollkfjaa
