/- The contract of the drawing function l20Two; condition: the reader's place is below 2^30. -/
import Derived.Test.YtmpcoljollkfjaaFDraw
namespace Go.Proofs.Ytmpcoljollkfjaa
open Go.RowKit
set_option linter.unusedVariables false
set_option linter.unusedSimpArgs false
set_option maxHeartbeats 4000000

def DrawsFII (w : World) (R N : Nat) (e : Ending) (w' : World) : Prop := ∃ W P a b : Int, e = .returned (.tuple #[.agg #[.int .i64 W, .int .i64 P], .int .i64 a, .int .i64 b]) ∧ Drew w w' R N
theorem only_below_trans {w w1 w2 : World} {R G : Nat} (hF : Only w w1 R) (h : Only2 w1 w2 R G) (hG : w.heap.size ≤ G) : Only w w2 R := 
  ⟨h.os.trans hF.os, h.tape.trans hF.tape, h.output.trans hF.output, Nat.le_trans hF.size h.size, fun i hi hne => (h.block i (Nat.lt_of_lt_of_le hi hF.size) (fun e => hne (by rw [e])) (by omega)).trans (hF.block i hi hne)⟩
def isFmt (g t : Nat) (w : World) : Prop := ∃ a b : Int, Blk w g t #[.int .i64 a, .int .i64 b]
theorem isFmt.keep {g t R : Nat} (hg : g ≠ R) {w1 w2 : World} (h : Only w1 w2 R) (k : isFmt g t w1) : isFmt g t w2 := by
  obtain ⟨a, b, k⟩ := k
  exact ⟨a, b, only_keep h k hg⟩
theorem l20Two_any (R N : Nat) (w : World) (hR : Rd w R N) (hN : N ≤ 1073700000) : Calls Try.prog 60 #[.pointer (some ⟨R, 0, none⟩)] w (DrawsFII w R (N + 700)) := by
  have hRl := hR.lt
  have l2 := Blk.new w 40 #[.int .i64 0, .int .i64 0]
  have hR := hR.alloc (.cells #[.int .i64 0, .int .i64 0] 40)
  have hF := only_alloc (only_refl w R) (.cells #[.int .i64 0, .int .i64 0] 40)
  go_enter Try.func60, Try.ntmps60
  go_wp2_with fail
  refine (l20Format_any R _ _ (by omega) (by omega) _ hR (by omega)).mono ?_
  rintro e w1 ⟨W, P, rfl, hR1, hO⟩
  have hg1 : w.heap.size < w1.heap.size := by have := hO.size; rw [World.size_alloc] at this; omega
  replace l2 := Blk.alloc (only_keep hO l2 (by omega)) (.cells #[.int .i64 W, .int .i64 P] 40)
  replace hF := only_alloc (only_trans hF hO) (.cells #[.int .i64 W, .int .i64 P] 40)
  have l5 := Blk.new w1 40 #[.int .i64 W, .int .i64 P]
  replace hR1 := hR1.alloc (.cells #[.int .i64 W, .int .i64 P] 40)
  clear hO hR
  go_upto_region 2 with fail
  obtain ⟨g5, hg5e⟩ : ∃ g, w1.heap.size = g := ⟨_, rfl⟩
  rw [hg5e] at hg1 l5 ⊢
  clear hg5e
  have hR := hR1
  go_cut [3, 4] (fun s t wx => ∃ x y : Int, s = .int .i64 x ∧ t = .int .i64 y ∧ Rd wx R (N + 650) ∧ Only w wx R ∧ isFmt w.heap.size 40 wx)
  case first =>
    refine wp_region_draw (m := 10) (r := 0) (U := 60) (R := R) (G := w.heap.size) (N := (N+10)) (ks := [8, 9, 10, 11, 12, 13, 14, 3, 4]) (E := isFmt w.heap.size 40)
      (Fs := fun d => match d with | 3 => num | 4 => num | 8 => is (.agg #[.int .i64 W, .int .i64 P]) | 9 => is (.pointer (some ⟨R, 0, none⟩)) | 10 => is (.agg #[.int .i64 W, .int .i64 P]) | 11 => num | 12 => is (.pointer (some ⟨R, 0, none⟩)) | 13 => is (.agg #[.int .i64 W, .int .i64 P]) | 14 => num | _ => .any) (A := ?A) (by kernel_rfl) (by kernel_rfl) (by kernel_rfl) ?hA (by first | exact hR | assumption) ⟨_, _, l2⟩ (fun w1 w2 h k => isFmt.keep (by omega) h k) ?steps ?after
    case hA => (intro tm; simp only [over, List.foldl_cons, List.foldl_nil, List.setIfInBounds_toArray, List.set_cons_zero, List.set_cons_succ]; exact rfl)
    case steps =>
      refine StepsR.cons (by (simp only [List.getElem?_toArray, List.getElem?_cons_zero]; rfl)) (fun K tm wc c hc hR hO hE hpre hK => ?_) ?_
      · have l5c := hO.keep l5 (by omega) (by omega)
        obtain ⟨n0, n1, m0, m1⟩ := fcell2 l5c
        go_simp
        exact hK.out _ _ (hR.more (by omega)) (.inl (only_refl _ _)) rfl
      refine StepsR.cons (by (simp only [List.getElem?_toArray, List.getElem?_cons_succ, List.getElem?_cons_zero]; rfl)) (fun K tm wc c hc hR hO hE hpre hK => ?_) ?_
      · go_simp
        exact hK.out _ _ (hR.more (by omega)) (.inl (only_refl _ _)) (by first | exact rfl | exact congrArg (Value.int .i64) (IntWalk.i64_in _ (by omega)))
      refine StepsR.cons (by (simp only [List.getElem?_toArray, List.getElem?_cons_succ, List.getElem?_cons_zero]; rfl)) (fun K tm wc c hc hR hO hE hpre hK => ?_) ?_
      · have l5c := hO.keep l5 (by omega) (by omega)
        obtain ⟨n0, n1, m0, m1⟩ := fcell2 l5c
        go_simp
        exact hK.out _ _ (hR.more (by omega)) (.inl (only_refl _ _)) rfl
      refine StepsR.cons (by (simp only [List.getElem?_toArray, List.getElem?_cons_succ, List.getElem?_cons_zero]; rfl)) (fun K tm wc c hc hR hO hE hpre hK => ?_) ?_
      · have e9 : tm 9 = _ := hpre 9 (by kernel_rfl)
        have e10 : tm 10 = _ := hpre 10 (by kernel_rfl)
        simp only [e9, e10] at hK
        go_simp
        refine (l20Stored_any R _ W P _ (by omega) (by omega) _ hR (by omega)).mono ?_
        rintro e w1 ⟨v, rfl, _, hR1, hO1⟩
        (try go_wp2_with fail)
        exact hK.out _ _ (hR1.more (by omega)) (.inl hO1) ⟨v, rfl⟩
      refine StepsR.cons (by (simp only [List.getElem?_toArray, List.getElem?_cons_succ, List.getElem?_cons_zero]; rfl)) (fun K tm wc c hc hR hO hE hpre hK => ?_) ?_
      · go_simp
        exact hK.out _ _ (hR.more (by omega)) (.inl (only_refl _ _)) (by first | exact rfl | exact congrArg (Value.int .i64) (IntWalk.i64_in _ (by omega)))
      refine StepsR.cons (by (simp only [List.getElem?_toArray, List.getElem?_cons_succ, List.getElem?_cons_zero]; rfl)) (fun K tm wc c hc hR hO hE hpre hK => ?_) ?_
      · have l5c := hO.keep l5 (by omega) (by omega)
        obtain ⟨n0, n1, m0, m1⟩ := fcell2 l5c
        go_simp
        exact hK.out _ _ (hR.more (by omega)) (.inl (only_refl _ _)) rfl
      refine StepsR.cons (by (simp only [List.getElem?_toArray, List.getElem?_cons_succ, List.getElem?_cons_zero]; rfl)) (fun K tm wc c hc hR hO hE hpre hK => ?_) ?_
      · have e12 : tm 12 = _ := hpre 12 (by kernel_rfl)
        have e13 : tm 13 = _ := hpre 13 (by kernel_rfl)
        simp only [e12, e13] at hK
        go_simp
        refine (l20Stored_any R _ W P _ (by omega) (by omega) _ hR (by omega)).mono ?_
        rintro e w1 ⟨v, rfl, _, hR1, hO1⟩
        (try go_wp2_with fail)
        exact hK.out _ _ (hR1.more (by omega)) (.inl hO1) ⟨v, rfl⟩
      refine StepsR.cons (by (simp only [List.getElem?_toArray, List.getElem?_cons_succ, List.getElem?_cons_zero]; rfl)) (fun K tm wc c hc hR hO hE hpre hK => ?_) ?_
      · have e8 : tm 8 = _ := hpre 8 (by kernel_rfl)
        simp only [e8] at hK
        obtain ⟨a, b, l2c⟩ := hE
        obtain ⟨n0, n1, m0, m1⟩ := fcell2 l2c
        go_simp
        exact hK.out undef _ (((hR.far (p := ⟨w.heap.size, 0, none⟩) hRl _).far (p := ⟨w.heap.size, 1, none⟩) hRl _).more (by omega)) (.inr ⟨only_set (only_set (only_refl _ _) (p := ⟨w.heap.size, 0, none⟩) (.inl rfl) _) (p := ⟨w.heap.size, 1, none⟩) (.inl rfl) _, _, _, Blk.two l2c _ _⟩) trivial
      refine StepsR.cons (by (simp only [List.getElem?_toArray, List.getElem?_cons_succ, List.getElem?_cons_zero]; rfl)) (fun K tm wc c hc hR hO hE hpre hK => ?_) ?_
      · have f := hpre 11 (by kernel_rfl)
        go_simp
        exact hK.out _ _ (hR.more (by omega)) (.inl (only_refl _ _)) f
      refine StepsR.cons (by (simp only [List.getElem?_toArray, List.getElem?_cons_succ, List.getElem?_cons_zero]; rfl)) (fun K tm wc c hc hR hO hE hpre hK => ?_) ?_
      · have f := hpre 14 (by kernel_rfl)
        go_simp
        exact hK.out _ _ (hR.more (by omega)) (.inl (only_refl _ _)) f
      exact StepsR.nil
    case after =>
      intro tm w' hR hO hE hf
      obtain ⟨u3, e3⟩ := (hf 3 (by kernel_rfl))
      obtain ⟨u4, e4⟩ := (hf 4 (by kernel_rfl))
      refine wpAnyH_done (by kernel_rfl) ?_ _
      go_wp2
      go_meet
      exact ⟨_, _, rfl, rfl, hR.more (by omega), only_below_trans hF hO (Nat.le_refl _), hE⟩
  case rest =>
    obtain ⟨x, y, rfl, rfl, hR, hF, W2, P2, l2⟩ := hcut
    obtain ⟨n0, n1, m0, m1⟩ := fcell2 l2
    go_wp2
    refine bodyPost_ret (by simp only [results, Try.results60]; go_simp; all_goals (first | exact rfl | exact ⟨rfl, rfl⟩ | skip)) rfl ⟨W2, P2, x, y, rfl, hR.more (by omega), hF⟩
end Go.Proofs.Ytmpcoljollkfjaa
