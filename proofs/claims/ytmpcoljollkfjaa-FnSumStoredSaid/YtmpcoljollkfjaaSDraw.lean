/- Contracts of the drawing functions of sums; condition: the reader's place is below 2^30. -/
import Derived.Test.YtmpcoljollkfjaaWork
import Derived.Test.YtmpcoljollkfjaaAlive
namespace Go.Proofs.Ytmpcoljollkfjaa
open Go.RowKit
set_option linter.unusedVariables false
set_option linter.unusedSimpArgs false
set_option maxHeartbeats 4000000

def DrawsS (w : World) (R N : Nat) (e : Ending) (w' : World) : Prop := ∃ (v : Int) (b : Bool), e = .returned (.agg #[.int .i64 v, .bool b]) ∧ Drew w w' R N
theorem cell2 {w : World} {g : Nat} {t : TypeId} {a b : Value} (h : Blk w g t #[a, b]) : w.cell? ⟨g, 0, none⟩ = some a ∧ w.cell? ⟨g, 1, none⟩ = some b ∧ w.frozen? ⟨g, 0, none⟩ = false ∧ w.frozen? ⟨g, 1, none⟩ = false :=
  ⟨h.cell 0, h.cell 1, h.frozen 0, h.frozen 1⟩
theorem lit2_at {w : World} {g : Nat} {t : TypeId} {fr : Nat × Nat} {a b : Int} (h : w.heap[g]? = some (.cells #[.int .i64 a, .int .i64 b] t fr)) (v : Int) (v0 : 0 ≤ v) (v1 : v < 2) : ∃ u, w.cell? ⟨g, v.toNat, none⟩ = some (.int .i64 u) := by
  rw [cell_of_row w g _ _ t fr h]
  have hv : v = 0 ∨ v = 1 := by omega
  rcases hv with rfl | rfl
  · exact ⟨a, rfl⟩
  · exact ⟨b, rfl⟩
theorem l20Sum_any (R N : Nat) (m : Int) (hm : 1 ≤ m) (hm2 : m ≤ 1000) (w : World) (hR : Rd w R N) (hN : N ≤ 1073741824) : Calls Try.prog 54 #[.pointer (some ⟨R, 0, none⟩), .int .i64 m] w (DrawsS w R (N + 40)) := by
  have hRl := hR.lt
  have l4 := Blk.new w 26 #[.int .i64 0, .bool false]
  have hR := hR.alloc (.cells #[.int .i64 0, .bool false] 26)
  have hF := only_alloc (only_refl w R) (.cells #[.int .i64 0, .bool false] 26)
  go_enter Try.func54, Try.ntmps54
  go_upto_region 1 with fail
  go_cut [5] (fun s wx => ∃ (g : Nat) (v : Int) (b : Bool), s = .pointer (some ⟨g, 0, none⟩) ∧ w.heap.size < g ∧ Blk wx g 26 #[.int .i64 v, .bool b] ∧ Blk wx w.heap.size 26 #[.int .i64 0, .bool false] ∧ Rd wx R (N + 20) ∧ Only w wx R)
  case first =>
    refine wp_region_draw (m := 16) (r := 1) (U := 1) (R := R) (G := R) (N := N) (ks := [6, 7, 8, 9, 10, 11, 12, 13, 14, 15, 16, 17, 18, 19, 20, 5]) (E := fun _ => True)
      (Fs := fun d => match d with | 5 => Fc.new #[.int .i64 0, .bool false] 26 (w.heap.size + 1) | 6 => is (.pointer (some ⟨R, 0, none⟩)) | 7 => upto (0) (256) | 8 => num | 9 => is (.pointer (some ⟨R, 0, none⟩)) | 10 => upto (0) (256) | 11 => num | 12 => .lit 4 (fun _ => True) | 13 => is (.pointer (some ⟨R, 0, none⟩)) | 14 => upto (0) (4) | 15 => .cell (fun _ => True) | 16 => num | 17 => is (.pointer (some ⟨R, 0, none⟩)) | 18 => upto (0) (4) | 19 => bool | 20 => .val fun v => ∃ (x0 : Int) (x1 : Bool), v = .agg #[.int .i64 x0, .bool x1] | _ => .any) (A := ?A) (by kernel_rfl) (by kernel_rfl) (by kernel_rfl) ?hA (by first | exact hR | assumption) trivial (fun _ _ _ _ => trivial) ?steps ?after
    case hA => (intro tm; simp only [over, List.foldl_cons, List.foldl_nil, List.setIfInBounds_toArray, List.set_cons_zero, List.set_cons_succ]; exact rfl)
    case steps =>
      refine StepsR.cons (by (simp only [List.getElem?_toArray, List.getElem?_cons_zero]; rfl)) (fun K tm wc c hc hR hO hE hpre hK => ?_) ?_
      · go_simp
        exact hK.out _ _ (hR.more (by omega)) (.inl (only_refl _ _)) (by first | exact rfl | exact congrArg (Value.int .i64) (IntWalk.i64_in _ (by omega)))
      refine StepsR.cons (by (simp only [List.getElem?_toArray, List.getElem?_cons_succ, List.getElem?_cons_zero]; rfl)) (fun K tm wc c hc hR hO hE hpre hK => ?_) ?_
      · have e6 : tm 6 = _ := (hpre 6 (by kernel_rfl))
        simp only [e6] at hK
        go_simp
        refine (pick_any R _ _ (by omega) (by omega) _ hR (by omega)).mono ?_
        rintro e w1 ⟨v, rfl, ⟨va, vb⟩, hR1, hO1⟩
        (try go_wp2_with fail)
        exact hK.out _ _ (hR1.more (by omega)) (.inl hO1) ⟨v, rfl, va, vb⟩
      refine StepsR.cons (by (simp only [List.getElem?_toArray, List.getElem?_cons_succ, List.getElem?_cons_zero]; rfl)) (fun K tm wc c hc hR hO hE hpre hK => ?_) ?_
      · obtain ⟨u7, e7, a7, b7⟩ := (hpre 7 (by kernel_rfl))
        simp only [e7] at hK
        go_simp
        exact hK.out _ _ (hR.more (by omega)) (.inl (only_refl _ _)) ⟨_, rfl⟩
      refine StepsR.cons (by (simp only [List.getElem?_toArray, List.getElem?_cons_succ, List.getElem?_cons_zero]; rfl)) (fun K tm wc c hc hR hO hE hpre hK => ?_) ?_
      · go_simp
        exact hK.out _ _ (hR.more (by omega)) (.inl (only_refl _ _)) (by first | exact rfl | exact congrArg (Value.int .i64) (IntWalk.i64_in _ (by omega)))
      refine StepsR.cons (by (simp only [List.getElem?_toArray, List.getElem?_cons_succ, List.getElem?_cons_zero]; rfl)) (fun K tm wc c hc hR hO hE hpre hK => ?_) ?_
      · have e9 : tm 9 = _ := (hpre 9 (by kernel_rfl))
        simp only [e9] at hK
        go_simp
        refine (pick_any R _ _ (by omega) (by omega) _ hR (by omega)).mono ?_
        rintro e w1 ⟨v, rfl, ⟨va, vb⟩, hR1, hO1⟩
        (try go_wp2_with fail)
        exact hK.out _ _ (hR1.more (by omega)) (.inl hO1) ⟨v, rfl, va, vb⟩
      refine StepsR.cons (by (simp only [List.getElem?_toArray, List.getElem?_cons_succ, List.getElem?_cons_zero]; rfl)) (fun K tm wc c hc hR hO hE hpre hK => ?_) ?_
      · obtain ⟨u10, e10, a10, b10⟩ := (hpre 10 (by kernel_rfl))
        simp only [e10] at hK
        go_simp
        exact hK.out _ _ (hR.more (by omega)) (.inl (only_refl _ _)) ⟨_, rfl⟩
      refine StepsR.cons (by (simp only [List.getElem?_toArray, List.getElem?_cons_succ, List.getElem?_cons_zero]; rfl)) (fun K tm wc c hc hR hO hE hpre hK => ?_) ?_
      · obtain ⟨u8, e8⟩ := (hpre 8 (by kernel_rfl))
        obtain ⟨u11, e11⟩ := (hpre 11 (by kernel_rfl))
        simp only [e8, e11] at hK
        go_simp
        exact hK.out _ _ ((hR.alloc _).more (by omega)) (.inl (only_alloc (only_refl _ _) _)) (Fc.lit_new [u8, u11, (1125899906842624), (-1125899906842624)] rfl hR.lt hR.lt rfl (fun _ _ => trivial))
      refine StepsR.cons (by (simp only [List.getElem?_toArray, List.getElem?_cons_succ, List.getElem?_cons_zero]; rfl)) (fun K tm wc c hc hR hO hE hpre hK => ?_) ?_
      · go_simp
        exact hK.out _ _ (hR.more (by omega)) (.inl (only_refl _ _)) (by first | exact rfl | exact congrArg (Value.int .i64) (IntWalk.i64_in _ (by omega)))
      refine StepsR.cons (by (simp only [List.getElem?_toArray, List.getElem?_cons_succ, List.getElem?_cons_zero]; rfl)) (fun K tm wc c hc hR hO hE hpre hK => ?_) ?_
      · have e13 : tm 13 = _ := (hpre 13 (by kernel_rfl))
        simp only [e13] at hK
        go_simp
        refine (pick_any R _ _ (by omega) (by omega) _ hR (by omega)).mono ?_
        rintro e w1 ⟨v, rfl, ⟨va, vb⟩, hR1, hO1⟩
        (try go_wp2_with fail)
        exact hK.out _ _ (hR1.more (by omega)) (.inl hO1) ⟨v, rfl, va, vb⟩
      refine StepsR.cons (by (simp only [List.getElem?_toArray, List.getElem?_cons_succ, List.getElem?_cons_zero]; rfl)) (fun K tm wc c hc hR hO hE hpre hK => ?_) ?_
      · obtain ⟨g12, e12, c12⟩ := Fc.at_lit (hpre 12 (by kernel_rfl))
        obtain ⟨u14, e14, a14, b14⟩ := (hpre 14 (by kernel_rfl))
        simp only [e12, e14] at hK
        have c12 := c12 u14 (by omega) (by omega)
        go_simp
        exact hK.out _ _ (hR.more (by omega)) (.inl (only_refl _ _)) c12
      refine StepsR.cons (by (simp only [List.getElem?_toArray, List.getElem?_cons_succ, List.getElem?_cons_zero]; rfl)) (fun K tm wc c hc hR hO hE hpre hK => ?_) ?_
      · obtain ⟨g15, k15, u15, e15, _, _, h15, p15⟩ := (hpre 15 (by kernel_rfl))
        simp only [e15] at hK
        go_simp
        exact hK.out _ _ (hR.more (by omega)) (.inl (only_refl _ _)) ⟨_, rfl⟩
      refine StepsR.cons (by (simp only [List.getElem?_toArray, List.getElem?_cons_succ, List.getElem?_cons_zero]; rfl)) (fun K tm wc c hc hR hO hE hpre hK => ?_) ?_
      · go_simp
        exact hK.out _ _ (hR.more (by omega)) (.inl (only_refl _ _)) (by first | exact rfl | exact congrArg (Value.int .i64) (IntWalk.i64_in _ (by omega)))
      refine StepsR.cons (by (simp only [List.getElem?_toArray, List.getElem?_cons_succ, List.getElem?_cons_zero]; rfl)) (fun K tm wc c hc hR hO hE hpre hK => ?_) ?_
      · have e17 : tm 17 = _ := (hpre 17 (by kernel_rfl))
        simp only [e17] at hK
        go_simp
        refine (pick_any R _ _ (by omega) (by omega) _ hR (by omega)).mono ?_
        rintro e w1 ⟨v, rfl, ⟨va, vb⟩, hR1, hO1⟩
        (try go_wp2_with fail)
        exact hK.out _ _ (hR1.more (by omega)) (.inl hO1) ⟨v, rfl, va, vb⟩
      refine StepsR.cons (by (simp only [List.getElem?_toArray, List.getElem?_cons_succ, List.getElem?_cons_zero]; rfl)) (fun K tm wc c hc hR hO hE hpre hK => ?_) ?_
      · obtain ⟨u18, e18, a18, b18⟩ := (hpre 18 (by kernel_rfl))
        simp only [e18] at hK
        go_simp
        exact hK.out _ _ (hR.more (by omega)) (.inl (only_refl _ _)) ⟨_, rfl⟩
      refine StepsR.cons (by (simp only [List.getElem?_toArray, List.getElem?_cons_succ, List.getElem?_cons_zero]; rfl)) (fun K tm wc c hc hR hO hE hpre hK => ?_) ?_
      · obtain ⟨u16, e16⟩ := (hpre 16 (by kernel_rfl))
        obtain ⟨u19, e19⟩ := (hpre 19 (by kernel_rfl))
        simp only [e16, e19] at hK
        go_simp
        exact hK.out _ _ (hR.more (by omega)) (.inl (only_refl _ _)) ⟨_, _, rfl⟩
      refine StepsR.cons (by (simp only [List.getElem?_toArray, List.getElem?_cons_succ, List.getElem?_cons_zero]; rfl)) (fun K tm wc c hc hR hO hE hpre hK => ?_) ?_
      · have hsz := hO.size
        rw [World.size_alloc] at hsz
        have hRl := hR.lt
        go_simp
        exact hK.out _ _ ((hR.alloc _).more (by omega)) (.inl (only_alloc (only_refl _ _) _)) ⟨_, rfl, by omega, by omega, by omega, Blk.new _ _ _⟩
      exact StepsR.nil
    case after =>
      intro tm w' hR hO hE hf
      obtain ⟨x20_0, x20_1, e20⟩ := (hf 20 (by kernel_rfl))
      obtain ⟨g5, e5, hg5, _, hB5, l5⟩ := hf 5 (by kernel_rfl)
      replace hO := hO.one (.inl rfl)
      replace hF := only_trans hF hO
      replace l4 := only_keep hO l4 (by omega)
      obtain ⟨n0, n1, m0, m1⟩ := cell2 l5
      refine wpAnyH_ready (rs := [16]) (by kernel_rfl) (by simp) ?_
      refine AllReadyH.cons (by (simp only [List.getElem?_toArray, List.getElem?_cons_succ, List.getElem?_cons_zero]; rfl)) (fun K hK => ?_) AllReadyH.nil
      go_simp
      refine hK.out _ _ trivial (fun _ => ?_)
      clear hK K
      try simp only [Act.put, List.setIfInBounds_toArray, List.set_cons_zero, List.set_cons_succ]
      refine wpAnyH_done (by kernel_rfl) ?_ _
      go_wp2
      go_meet
      exact ⟨g5, _, _, rfl, by omega, Blk.two l5 _ _, Blk.far (p := ⟨g5, 1, none⟩) (Blk.far (p := ⟨g5, 0, none⟩) l4 (by simp; omega) _) (by simp; omega) _, ((hR.far (p := ⟨g5, 0, none⟩) (by simp; omega) _).far (p := ⟨g5, 1, none⟩) (by simp; omega) _).more (by omega), only_set (only_set hF (p := ⟨g5, 0, none⟩) (.inr (by simp; omega)) _) (p := ⟨g5, 1, none⟩) (.inr (by simp; omega)) _⟩
  case rest =>
    obtain ⟨g5, v, b, rfl, hg5, l5, l4, hR, hF⟩ := hcut
    obtain ⟨n0, n1, m0, m1⟩ := cell2 l5
    obtain ⟨t0, t1, f0, f1⟩ := cell2 l4
    go_wp2_with fail
    refine (odd_any R _ _ hm (by omega) _ hR (by omega)).mono ?_
    rintro e w1 ⟨v1, rfl, hR1, hO1⟩
    replace l5 := only_keep hO1 l5 (by omega)
    replace l4 := only_keep hO1 l4 (by omega)
    replace hF := only_trans hF hO1
    clear n0 n1 m0 m1 t0 t1 f0 f1 hO1 hR
    obtain ⟨n0, n1, m0, m1⟩ := cell2 l5
    obtain ⟨t0, t1, f0, f1⟩ := cell2 l4
    cases v1
    · go_wp2
      refine bodyPost_ret (by simp only [results, Try.results54]; go_simp; all_goals (first | exact rfl | exact ⟨rfl, rfl⟩ | skip)) rfl ⟨v, b, rfl, ((hR1.far (p := ⟨w.heap.size, 0, none⟩) hRl _).far (p := ⟨w.heap.size, 1, none⟩) hRl _).more (by omega), only_set (only_set hF (p := ⟨w.heap.size, 0, none⟩) (.inr (by simp)) _) (p := ⟨w.heap.size, 1, none⟩) (.inr (by simp)) _⟩
    · go_wp2_with fail
      refine (pick_any R _ _ (by omega) (by omega) _ (hR1.alloc _) (by omega)).mono ?_
      rintro e w4 ⟨v4, rfl, ⟨va4, vb4⟩, hR4, hO4⟩
      have hF4 := only_trans (only_alloc hF _) hO4
      replace l4 := only_keep hO4 (Blk.alloc l4 _) (by omega)
      replace l5 := only_keep hO4 (Blk.alloc l5 _) (by omega)
      obtain ⟨u4, hu4⟩ := lit2_at (only_new hO4 hR1.lt) v4 va4 vb4
      clear n0 n1 m0 m1 t0 t1 f0 f1 hO4
      obtain ⟨n0, n1, m0, m1⟩ := cell2 l5
      obtain ⟨t0, t1, f0, f1⟩ := cell2 l4
      go_wp2
      refine bodyPost_ret (by simp only [results, Try.results54]; go_simp; all_goals (first | exact rfl | exact ⟨rfl, rfl⟩ | skip)) rfl ⟨u4, b, rfl, (((hR4.far (p := ⟨g5, 0, none⟩) (by simp; omega) _).far (p := ⟨w.heap.size, 0, none⟩) hRl _).far (p := ⟨w.heap.size, 1, none⟩) hRl _).more (by omega), only_set (only_set (only_set hF4 (p := ⟨g5, 0, none⟩) (.inr (by simp; omega)) _) (p := ⟨w.heap.size, 0, none⟩) (.inr (by simp)) _) (p := ⟨w.heap.size, 1, none⟩) (.inr (by simp)) _⟩
end Go.Proofs.Ytmpcoljollkfjaa
