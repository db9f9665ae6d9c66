/- The drawn vectors of rotations are bounded; condition: the reader's place is below 2^30. -/
import Derived.Test.YtndpmcegealhiaaVDraw
namespace Go.Proofs.Ytndpmcegealhiaa
open Go.RowKit
set_option linter.unusedVariables false
set_option maxHeartbeats 4000000

def Sm (x y : Int) : Prop := (-1048577 ≤ x ∧ x ≤ 1048577) ∧ (-1048577 ≤ y ∧ y ≤ 1048577)
def DrawsVB (w : World) (R N : Nat) (e : Ending) (w' : World) : Prop := ∃ X Y : Int, e = .returned (.agg #[.int .i64 X, .int .i64 Y]) ∧ Rd w' R N ∧ Only w w' R ∧ Sm X Y
theorem lit2_eq {w : World} {g : Nat} {t : TypeId} {fr : Nat × Nat} {a b : Int} (h : w.heap[g]? = some (.cells #[.int .i64 a, .int .i64 b] t fr)) (v : Int) (v0 : 0 ≤ v) (v1 : v < 2) (ha : -1048577 ≤ a ∧ a ≤ 1048577) (hb : -1048577 ≤ b ∧ b ≤ 1048577) : ∃ u, w.cell? ⟨g, v.toNat, none⟩ = some (.int .i64 u) ∧ -1048577 ≤ u ∧ u ≤ 1048577 := by
  rw [cell_of_row w g _ _ t fr h]
  have hv : v = 0 ∨ v = 1 := by omega
  rcases hv with rfl | rfl
  · exact ⟨a, rfl, ha⟩
  · exact ⟨b, rfl, hb⟩
theorem l20VectorB_any (R N : Nat) (w : World) (hR : Rd w R N) (hN : N ≤ 1073741824) :
    Calls Try.prog 21 #[.pointer (some ⟨R, 0, none⟩), .int .i64 1048576, .int .i64 12] w (DrawsVB w R (N + 40)) := by
  have hRl := hR.lt
  have hF := only_refl w R
  have hq : (1048576 : Int).tdiv 128 = 8192 := by decide
  have w1 : IntKind.i64.wrap 8192 = 8192 := by decide
  have w2 : IntKind.i64.wrap (1048576 + 1) = 1048577 := by decide
  have w3 : IntKind.i64.wrap (-1048576) = -1048576 := by decide
  have w4 : IntKind.i64.wrap (-1048576 - 1) = -1048577 := by decide
  have w5 : IntKind.i64.wrap 1048577 = 1048577 := by decide
  have w6 : IntKind.i64.wrap (-1048577) = -1048577 := by decide
  have l6 : Blk (w.alloc (.cells #[.int .i64 0, .int .i64 0] 24)) w.heap.size 24 #[.int .i64 0, .int .i64 0] := Blk.new _ _ _
  go_enter Try.func21, Try.ntmps21
  go_upto_region 2 with (go_at_call 39; refine (pick_any R _ _ (by omega) (by omega) _ (by first | exact hR | exact hR.alloc _ | exact (hR.alloc _).alloc _) (by omega)).mono ?_; rintro e w1 ⟨v, rfl, ⟨va, vb⟩, hR, hO⟩; have ew1 : IntKind.i64.wrap (v - 128) = v - 128 := IntWalk.i64_in _ (by omega); have ew2 : IntKind.i64.wrap ((v - 128) * 8192) = (v - 128) * 8192 := IntWalk.i64_in _ (by omega); replace hF := only_trans (by first | exact hF | exact only_alloc hF _ | exact only_alloc (only_alloc hF _) _) hO; replace l6 := only_keep hO (by first | exact l6 | exact Blk.alloc l6 _ | exact Blk.new _ _ _) (by omega))
  have hg7 := hR.lt
  have hgF : w.heap.size < w1.heap.size := Blk.lt l6
  go_cut [7, 22] (fun s t wx => ∃ (g : Nat) (v2 x y : Int), s = .pointer (some ⟨g, 0, none⟩) ∧ t = .int .i64 v2 ∧ 0 ≤ v2 ∧ v2 < 6 ∧ R < g ∧ w.heap.size < g ∧ Blk wx g 24 #[.int .i64 x, .int .i64 y] ∧ Blk wx w.heap.size 24 #[.int .i64 0, .int .i64 0] ∧ Rd wx R (N + 3) ∧ Only w wx R ∧ Sm x y)
  case first =>
    go_wp2_with (go_at_call 39; refine (pick_any R _ _ (by omega) (by omega) _ (by first | exact hR | exact hR.alloc _) (by omega)).mono ?_; rintro e w2 ⟨v2, rfl, ⟨va2, vb2⟩, hR, hO⟩; replace hF := only_trans (by first | exact hF | exact only_alloc hF _) hO; replace l6 := only_keep hO (Blk.alloc l6 _) (by omega))
    go_meet
    exact ⟨w1.heap.size, v2, _, _, rfl, rfl, va2, vb2, hg7, hgF, only_new hO hg7, l6, hR, hF, ⟨by omega, by omega⟩⟩
  case rest =>
    obtain ⟨g7, v2, x7, y7, rfl, rfl, va2, vb2, hg7, hgF, l7, l6, hR, hF, hsm⟩ := hcut
    refine ‹∀ (a : Act) (w : World), _ → _› _ _ ?_
    go_cut [7] (fun s wx => s = .pointer (some ⟨g7, 0, none⟩) ∧ (∃ x y, Blk wx g7 24 #[.int .i64 x, .int .i64 y] ∧ Sm x y) ∧ Blk wx w.heap.size 24 #[.int .i64 0, .int .i64 0] ∧ Rd wx R (N + 30) ∧ Only w wx R)
    case first =>
      have hv : v2 = 0 ∨ v2 = 1 ∨ v2 = 2 ∨ 3 ≤ v2 := by omega
      rcases hv with rfl | rfl | rfl | hv
      · go_wp2_with (go_at_call 39; refine (pick_any R _ _ (by omega) (by omega) _ hR (by omega)).mono ?_; rintro e w3 ⟨v3, rfl, ⟨va3, vb3⟩, hR, hO⟩; have ew1 : IntKind.i64.wrap (v3 - 128) = v3 - 128 := IntWalk.i64_in _ (by omega); have ew2 : IntKind.i64.wrap (v3 - 1) = v3 - 1 := IntWalk.i64_in _ (by omega); replace hF := only_trans hF hO; replace l6 := only_keep hO l6 (by omega); replace l7 := only_keep hO l7 (by omega); have n0 := Blk.cell l7 0; have n1 := Blk.cell l7 1; have m0 := Blk.frozen l7 0; have m1 := Blk.frozen l7 1; simp at n0 n1)
        go_meet
        exact ⟨rfl, ⟨_, _, Blk.two l7 _ _, ⟨by omega, by omega⟩⟩, (Blk.far (p := ⟨g7, 1, none⟩) (Blk.far (p := ⟨g7, 0, none⟩) l6 (by simp; omega) _) (by simp; omega) _), ((hR.far (p := ⟨g7, 0, none⟩) hg7 _).far (p := ⟨g7, 1, none⟩) hg7 _).more (by omega), only_set (only_set hF (p := ⟨g7, 0, none⟩) (.inr (by simp; omega)) _) (p := ⟨g7, 1, none⟩) (.inr (by simp; omega)) _⟩
      · go_wp2_with (go_at_call 39; refine (pick_any R _ _ (by omega) (by omega) _ hR (by omega)).mono ?_; rintro e w3 ⟨v3, rfl, ⟨va3, vb3⟩, hR, hO⟩; have ew1 : IntKind.i64.wrap (v3 - 128) = v3 - 128 := IntWalk.i64_in _ (by omega); have ew2 : IntKind.i64.wrap (v3 - 1) = v3 - 1 := IntWalk.i64_in _ (by omega); replace hF := only_trans hF hO; replace l6 := only_keep hO l6 (by omega); replace l7 := only_keep hO l7 (by omega); have n0 := Blk.cell l7 0; have n1 := Blk.cell l7 1; have m0 := Blk.frozen l7 0; have m1 := Blk.frozen l7 1; simp at n0 n1)
        go_meet
        exact ⟨rfl, ⟨_, _, Blk.two l7 _ _, ⟨by omega, by omega⟩⟩, (Blk.far (p := ⟨g7, 1, none⟩) (Blk.far (p := ⟨g7, 0, none⟩) l6 (by simp; omega) _) (by simp; omega) _), ((hR.far (p := ⟨g7, 0, none⟩) hg7 _).far (p := ⟨g7, 1, none⟩) hg7 _).more (by omega), only_set (only_set hF (p := ⟨g7, 0, none⟩) (.inr (by simp; omega)) _) (p := ⟨g7, 1, none⟩) (.inr (by simp; omega)) _⟩
      · go_upto_region 8 with fail
        refine wp_region_draw (m := 17) (r := 1) (U := 1) (R := R) (G := R) (N := (N+3)) (ks := [43, 44, 45, 46, 47, 48, 49, 50, 51, 52, 53, 54, 55, 56, 57, 58, 59]) (E := fun _ => True)
          (Fs := fun d => match d with | 43 => upto (1048576) (1048577) | 44 => upto (1048576) (1048577) | 45 => upto (-1048576) (-1048575) | 46 => .lit 3 (fun x => (-1048576) ≤ x ∧ x < (1048577)) | 47 => is (.pointer (some ⟨R, 0, none⟩)) | 48 => upto (0) (3) | 49 => .cell (fun x => (-1048576) ≤ x ∧ x < (1048577)) | 50 => upto (-1048576) (1048577) | 51 => upto (1048576) (1048577) | 52 => upto (1048576) (1048577) | 53 => upto (-1048576) (-1048575) | 54 => .lit 3 (fun x => (-1048576) ≤ x ∧ x < (1048577)) | 55 => is (.pointer (some ⟨R, 0, none⟩)) | 56 => upto (0) (3) | 57 => .cell (fun x => (-1048576) ≤ x ∧ x < (1048577)) | 58 => upto (-1048576) (1048577) | 59 => (.val fun v => ∃ x y : Int, v = .agg #[.int .i64 x, .int .i64 y] ∧ Sm x y) | _ => .any) (A := ?A) (by kernel_rfl) (by kernel_rfl) (by kernel_rfl) ?hA (by first | exact hR | assumption) trivial (fun _ _ _ _ => trivial) ?steps ?after
        case hA => (intro tm; simp only [over, List.foldl_cons, List.foldl_nil, List.setIfInBounds_toArray, List.set_cons_zero, List.set_cons_succ]; exact rfl)
        case steps =>
          refine StepsR.cons (by (simp only [List.getElem?_toArray, List.getElem?_cons_zero]; rfl)) (fun K tm wc c hc hR hO hE hpre hK => ?_) ?_
          · go_simp
            exact hK.out _ _ (hR.more (by omega)) (.inl (only_refl _ _)) ⟨_, rfl, by first | omega | (rw [IntWalk.i64_in _ (by omega)]; omega) | (rw [Int.tdiv_eq_ediv_of_nonneg (by omega), IntWalk.i64_in _ (by omega)]; omega) | (rw [Int.tdiv_eq_ediv_of_nonneg (by omega)]; omega), by first | omega | (rw [IntWalk.i64_in _ (by omega)]; omega) | (rw [Int.tdiv_eq_ediv_of_nonneg (by omega), IntWalk.i64_in _ (by omega)]; omega) | (rw [Int.tdiv_eq_ediv_of_nonneg (by omega)]; omega)⟩
          refine StepsR.cons (by (simp only [List.getElem?_toArray, List.getElem?_cons_succ, List.getElem?_cons_zero]; rfl)) (fun K tm wc c hc hR hO hE hpre hK => ?_) ?_
          · go_simp
            exact hK.out _ _ (hR.more (by omega)) (.inl (only_refl _ _)) ⟨_, rfl, by first | omega | (rw [IntWalk.i64_in _ (by omega)]; omega) | (rw [Int.tdiv_eq_ediv_of_nonneg (by omega), IntWalk.i64_in _ (by omega)]; omega) | (rw [Int.tdiv_eq_ediv_of_nonneg (by omega)]; omega), by first | omega | (rw [IntWalk.i64_in _ (by omega)]; omega) | (rw [Int.tdiv_eq_ediv_of_nonneg (by omega), IntWalk.i64_in _ (by omega)]; omega) | (rw [Int.tdiv_eq_ediv_of_nonneg (by omega)]; omega)⟩
          refine StepsR.cons (by (simp only [List.getElem?_toArray, List.getElem?_cons_succ, List.getElem?_cons_zero]; rfl)) (fun K tm wc c hc hR hO hE hpre hK => ?_) ?_
          · obtain ⟨u44, e44, a44, b44⟩ := (hpre 44 (by kernel_rfl))
            simp only [e44] at hK
            go_simp
            exact hK.out _ _ (hR.more (by omega)) (.inl (only_refl _ _)) ⟨_, rfl, by first | omega | (rw [IntWalk.i64_in _ (by omega)]; omega) | (rw [Int.tdiv_eq_ediv_of_nonneg (by omega), IntWalk.i64_in _ (by omega)]; omega) | (rw [Int.tdiv_eq_ediv_of_nonneg (by omega)]; omega), by first | omega | (rw [IntWalk.i64_in _ (by omega)]; omega) | (rw [Int.tdiv_eq_ediv_of_nonneg (by omega), IntWalk.i64_in _ (by omega)]; omega) | (rw [Int.tdiv_eq_ediv_of_nonneg (by omega)]; omega)⟩
          refine StepsR.cons (by (simp only [List.getElem?_toArray, List.getElem?_cons_succ, List.getElem?_cons_zero]; rfl)) (fun K tm wc c hc hR hO hE hpre hK => ?_) ?_
          · obtain ⟨u43, e43, a43, b43⟩ := (hpre 43 (by kernel_rfl))
            obtain ⟨u45, e45, a45, b45⟩ := (hpre 45 (by kernel_rfl))
            simp only [e43, e45] at hK
            go_simp
            exact hK.out _ _ ((hR.alloc _).more (by omega)) (.inl (only_alloc (only_refl _ _) _)) (Fc.lit_new [u43, u45, (0)] rfl hR.lt hR.lt rfl (by simp; omega))
          refine StepsR.cons (by (simp only [List.getElem?_toArray, List.getElem?_cons_succ, List.getElem?_cons_zero]; rfl)) (fun K tm wc c hc hR hO hE hpre hK => ?_) ?_
          · go_simp
            exact hK.out _ _ (hR.more (by omega)) (.inl (only_refl _ _)) (by first | exact rfl | exact congrArg (Value.int .i64) (IntWalk.i64_in _ (by omega)))
          refine StepsR.cons (by (simp only [List.getElem?_toArray, List.getElem?_cons_succ, List.getElem?_cons_zero]; rfl)) (fun K tm wc c hc hR hO hE hpre hK => ?_) ?_
          · have e47 : tm 47 = _ := (hpre 47 (by kernel_rfl))
            simp only [e47] at hK
            go_simp
            refine (pick_any R _ _ (by omega) (by omega) _ hR (by omega)).mono ?_
            rintro e w1 ⟨v, rfl, ⟨va, vb⟩, hR1, hO1⟩
            (try go_wp2_with fail)
            exact hK.out _ _ (hR1.more (by omega)) (.inl hO1) ⟨v, rfl, va, vb⟩
          refine StepsR.cons (by (simp only [List.getElem?_toArray, List.getElem?_cons_succ, List.getElem?_cons_zero]; rfl)) (fun K tm wc c hc hR hO hE hpre hK => ?_) ?_
          · obtain ⟨g46, e46, c46⟩ := Fc.at_lit (hpre 46 (by kernel_rfl))
            obtain ⟨u48, e48, a48, b48⟩ := (hpre 48 (by kernel_rfl))
            simp only [e46, e48] at hK
            have c46 := c46 u48 (by omega) (by omega)
            go_simp
            exact hK.out _ _ (hR.more (by omega)) (.inl (only_refl _ _)) c46
          refine StepsR.cons (by (simp only [List.getElem?_toArray, List.getElem?_cons_succ, List.getElem?_cons_zero]; rfl)) (fun K tm wc c hc hR hO hE hpre hK => ?_) ?_
          · obtain ⟨g49, k49, u49, e49, _, _, h49, p49⟩ := (hpre 49 (by kernel_rfl))
            simp only [e49] at hK
            go_simp
            exact hK.out _ _ (hR.more (by omega)) (.inl (only_refl _ _)) ⟨_, rfl, p49.1, p49.2⟩
          refine StepsR.cons (by (simp only [List.getElem?_toArray, List.getElem?_cons_succ, List.getElem?_cons_zero]; rfl)) (fun K tm wc c hc hR hO hE hpre hK => ?_) ?_
          · go_simp
            exact hK.out _ _ (hR.more (by omega)) (.inl (only_refl _ _)) ⟨_, rfl, by first | omega | (rw [IntWalk.i64_in _ (by omega)]; omega) | (rw [Int.tdiv_eq_ediv_of_nonneg (by omega), IntWalk.i64_in _ (by omega)]; omega) | (rw [Int.tdiv_eq_ediv_of_nonneg (by omega)]; omega), by first | omega | (rw [IntWalk.i64_in _ (by omega)]; omega) | (rw [Int.tdiv_eq_ediv_of_nonneg (by omega), IntWalk.i64_in _ (by omega)]; omega) | (rw [Int.tdiv_eq_ediv_of_nonneg (by omega)]; omega)⟩
          refine StepsR.cons (by (simp only [List.getElem?_toArray, List.getElem?_cons_succ, List.getElem?_cons_zero]; rfl)) (fun K tm wc c hc hR hO hE hpre hK => ?_) ?_
          · go_simp
            exact hK.out _ _ (hR.more (by omega)) (.inl (only_refl _ _)) ⟨_, rfl, by first | omega | (rw [IntWalk.i64_in _ (by omega)]; omega) | (rw [Int.tdiv_eq_ediv_of_nonneg (by omega), IntWalk.i64_in _ (by omega)]; omega) | (rw [Int.tdiv_eq_ediv_of_nonneg (by omega)]; omega), by first | omega | (rw [IntWalk.i64_in _ (by omega)]; omega) | (rw [Int.tdiv_eq_ediv_of_nonneg (by omega), IntWalk.i64_in _ (by omega)]; omega) | (rw [Int.tdiv_eq_ediv_of_nonneg (by omega)]; omega)⟩
          refine StepsR.cons (by (simp only [List.getElem?_toArray, List.getElem?_cons_succ, List.getElem?_cons_zero]; rfl)) (fun K tm wc c hc hR hO hE hpre hK => ?_) ?_
          · obtain ⟨u52, e52, a52, b52⟩ := (hpre 52 (by kernel_rfl))
            simp only [e52] at hK
            go_simp
            exact hK.out _ _ (hR.more (by omega)) (.inl (only_refl _ _)) ⟨_, rfl, by first | omega | (rw [IntWalk.i64_in _ (by omega)]; omega) | (rw [Int.tdiv_eq_ediv_of_nonneg (by omega), IntWalk.i64_in _ (by omega)]; omega) | (rw [Int.tdiv_eq_ediv_of_nonneg (by omega)]; omega), by first | omega | (rw [IntWalk.i64_in _ (by omega)]; omega) | (rw [Int.tdiv_eq_ediv_of_nonneg (by omega), IntWalk.i64_in _ (by omega)]; omega) | (rw [Int.tdiv_eq_ediv_of_nonneg (by omega)]; omega)⟩
          refine StepsR.cons (by (simp only [List.getElem?_toArray, List.getElem?_cons_succ, List.getElem?_cons_zero]; rfl)) (fun K tm wc c hc hR hO hE hpre hK => ?_) ?_
          · obtain ⟨u51, e51, a51, b51⟩ := (hpre 51 (by kernel_rfl))
            obtain ⟨u53, e53, a53, b53⟩ := (hpre 53 (by kernel_rfl))
            simp only [e51, e53] at hK
            go_simp
            exact hK.out _ _ ((hR.alloc _).more (by omega)) (.inl (only_alloc (only_refl _ _) _)) (Fc.lit_new [u51, u53, (0)] rfl hR.lt hR.lt rfl (by simp; omega))
          refine StepsR.cons (by (simp only [List.getElem?_toArray, List.getElem?_cons_succ, List.getElem?_cons_zero]; rfl)) (fun K tm wc c hc hR hO hE hpre hK => ?_) ?_
          · go_simp
            exact hK.out _ _ (hR.more (by omega)) (.inl (only_refl _ _)) (by first | exact rfl | exact congrArg (Value.int .i64) (IntWalk.i64_in _ (by omega)))
          refine StepsR.cons (by (simp only [List.getElem?_toArray, List.getElem?_cons_succ, List.getElem?_cons_zero]; rfl)) (fun K tm wc c hc hR hO hE hpre hK => ?_) ?_
          · have e55 : tm 55 = _ := (hpre 55 (by kernel_rfl))
            simp only [e55] at hK
            go_simp
            refine (pick_any R _ _ (by omega) (by omega) _ hR (by omega)).mono ?_
            rintro e w1 ⟨v, rfl, ⟨va, vb⟩, hR1, hO1⟩
            (try go_wp2_with fail)
            exact hK.out _ _ (hR1.more (by omega)) (.inl hO1) ⟨v, rfl, va, vb⟩
          refine StepsR.cons (by (simp only [List.getElem?_toArray, List.getElem?_cons_succ, List.getElem?_cons_zero]; rfl)) (fun K tm wc c hc hR hO hE hpre hK => ?_) ?_
          · obtain ⟨g54, e54, c54⟩ := Fc.at_lit (hpre 54 (by kernel_rfl))
            obtain ⟨u56, e56, a56, b56⟩ := (hpre 56 (by kernel_rfl))
            simp only [e54, e56] at hK
            have c54 := c54 u56 (by omega) (by omega)
            go_simp
            exact hK.out _ _ (hR.more (by omega)) (.inl (only_refl _ _)) c54
          refine StepsR.cons (by (simp only [List.getElem?_toArray, List.getElem?_cons_succ, List.getElem?_cons_zero]; rfl)) (fun K tm wc c hc hR hO hE hpre hK => ?_) ?_
          · obtain ⟨g57, k57, u57, e57, _, _, h57, p57⟩ := (hpre 57 (by kernel_rfl))
            simp only [e57] at hK
            go_simp
            exact hK.out _ _ (hR.more (by omega)) (.inl (only_refl _ _)) ⟨_, rfl, p57.1, p57.2⟩
          refine StepsR.cons (by (simp only [List.getElem?_toArray, List.getElem?_cons_succ, List.getElem?_cons_zero]; rfl)) (fun K tm wc c hc hR hO hE hpre hK => ?_) ?_
          · obtain ⟨u50, e50, a50, b50⟩ := (hpre 50 (by kernel_rfl))
            obtain ⟨u58, e58, a58, b58⟩ := (hpre 58 (by kernel_rfl))
            simp only [e50, e58] at hK
            go_simp
            exact hK.out _ _ (hR.more (by omega)) (.inl (only_refl _ _)) ⟨_, _, rfl, ⟨by omega, by omega⟩, ⟨by omega, by omega⟩⟩
          exact StepsR.nil
        case after =>
          intro tm w' hR hO hE hf
          have f59 := hf 59 (by kernel_rfl)
          obtain ⟨x59_0, x59_1, e59, s590, s591⟩ := f59
          replace hF := only_trans hF (hO.one (.inl rfl))
          replace l6 := only_keep (hO.one (.inl rfl)) l6 (by omega)
          replace l7 := only_keep (hO.one (.inl rfl)) l7 (by omega)
          have n0 := Blk.cell l7 0; have n1 := Blk.cell l7 1; have m0 := Blk.frozen l7 0; have m1 := Blk.frozen l7 1; simp at n0 n1
          refine wpAnyH_ready (rs := [17]) (by kernel_rfl) (by simp) ?_
          refine AllReadyH.cons (by (simp only [List.getElem?_toArray, List.getElem?_cons_succ, List.getElem?_cons_zero]; rfl)) (fun K hK => ?_) AllReadyH.nil
          go_simp
          refine hK.out _ _ trivial (fun _ => ?_)
          clear hK K
          try simp only [Act.put, List.setIfInBounds_toArray, List.set_cons_zero, List.set_cons_succ]
          refine wpAnyH_done (by kernel_rfl) ?_ _
          go_wp2
          go_meet
          exact ⟨rfl, ⟨_, _, Blk.two l7 _ _, ⟨by omega, by omega⟩⟩, (Blk.far (p := ⟨g7, 1, none⟩) (Blk.far (p := ⟨g7, 0, none⟩) l6 (by simp; omega) _) (by simp; omega) _), ((hR.far (p := ⟨g7, 0, none⟩) hg7 _).far (p := ⟨g7, 1, none⟩) hg7 _).more (by omega), only_set (only_set hF (p := ⟨g7, 0, none⟩) (.inr (by simp; omega)) _) (p := ⟨g7, 1, none⟩) (.inr (by simp; omega)) _⟩
      · have q0 : (v2 == 0) = false := by simp; omega
        have q1 : (v2 == 1) = false := by simp; omega
        have q2 : (v2 == 2) = false := by simp; omega
        go_wp2
        go_meet
        exact ⟨rfl, ⟨_, _, l7, hsm⟩, l6, hR.more (by omega), hF⟩
    case rest =>
      obtain ⟨rfl, ⟨x8, y8, l8, hsm8⟩, l6b, hR8, hF8⟩ := hcut
      go_wp2_with (first
        | (go_at_call 40; refine (odd_any R _ _ (by omega) (by omega) _ hR8 (by omega)).mono ?_; rintro e w3 ⟨v3, rfl, hR, hO⟩; have hF := only_trans hF8 hO; have l6 := only_keep hO l6b (by omega); have l7 := only_keep hO l8 (by omega); have n0 := Blk.cell l7 0; have n1 := Blk.cell l7 1; have m0 := Blk.frozen l7 0; have m1 := Blk.frozen l7 1; have t0 := Blk.cell l6 0; have t1 := Blk.cell l6 1; have f0 := Blk.frozen l6 0; have f1 := Blk.frozen l6 1; simp at n0 n1 t0 t1)
        | (go_at_call 39; refine (pick_any R _ _ (by omega) (by omega) _ (hR.alloc _) (by omega)).mono ?_; rintro e w4 ⟨v4, rfl, ⟨va4, vb4⟩, hR4, hO4⟩; have hF4 := only_trans (only_alloc hF _) hO4; have k6 := only_keep hO4 (Blk.alloc l6 _) (by omega); have k7 := only_keep hO4 (Blk.alloc l7 _) (by omega); obtain ⟨u4, hu4, hu5⟩ := lit2_eq (only_new hO4 hR.lt) v4 va4 vb4 (by omega) (by omega); have n0 := Blk.cell k7 0; have n1 := Blk.cell k7 1; have m0 := Blk.frozen k7 0; have m1 := Blk.frozen k7 1; have t0 := Blk.cell k6 0; have t1 := Blk.cell k6 1; have f0 := Blk.frozen k6 0; have f1 := Blk.frozen k6 1; simp at n0 n1 t0 t1))
      · refine bodyPost_ret (by simp only [results, Try.results21]; go_simp; all_goals (first | exact rfl | exact ⟨rfl, rfl⟩ | skip)) rfl ⟨x8, u4, rfl, (((hR4.far (p := ⟨g7, 1, none⟩) hg7 _).far (p := ⟨w.heap.size, 0, none⟩) hRl _).far (p := ⟨w.heap.size, 1, none⟩) hRl _).more (by omega), only_set (only_set (only_set hF4 (p := ⟨g7, 1, none⟩) (.inr (by simp; omega)) _) (p := ⟨w.heap.size, 0, none⟩) (.inr (by simp)) _) (p := ⟨w.heap.size, 1, none⟩) (.inr (by simp)) _, ⟨hsm8.1, hu5⟩⟩
      · refine bodyPost_ret (by simp only [results, Try.results21]; go_simp; all_goals (first | exact rfl | exact ⟨rfl, rfl⟩ | skip)) rfl ⟨x8, y8, rfl, ((hR.far (p := ⟨w.heap.size, 0, none⟩) hRl _).far (p := ⟨w.heap.size, 1, none⟩) hRl _).more (by omega), only_set (only_set hF (p := ⟨w.heap.size, 0, none⟩) (.inr (by simp)) _) (p := ⟨w.heap.size, 1, none⟩) (.inr (by simp)) _, hsm8⟩
end Go.Proofs.Ytndpmcegealhiaa
