/- Contracts of the drawing functions of formats and stored numbers; condition: the reader's place is below 2^30. -/
import Derived.Test.YtdnklndemoinaaaReg
import Derived.Test.YtdnklndemoinaaaFmt
namespace Go.Proofs.Ytdnklndemoinaaa
open Go.RowKit
set_option linter.unusedVariables false
set_option linter.unusedSimpArgs false
set_option maxHeartbeats 4000000

def DrawsF (w : World) (R N : Nat) (e : Ending) (w' : World) : Prop := ∃ W P : Int, e = .returned (.agg #[.int .i64 W, .int .i64 P]) ∧ Drew w w' R N
theorem fcell2 {w : World} {g : Nat} {t : TypeId} {a b : Value} (h : Blk w g t #[a, b]) : w.cell? ⟨g, 0, none⟩ = some a ∧ w.cell? ⟨g, 1, none⟩ = some b ∧ w.frozen? ⟨g, 0, none⟩ = false ∧ w.frozen? ⟨g, 1, none⟩ = false :=
  ⟨h.cell 0, h.cell 1, h.frozen 0, h.frozen 1⟩
theorem fmt_cells {w : World} {g : Nat} {t : TypeId} {fr : Nat × Nat} {a b c d e f i j : Value} (h : w.heap[g]? = some (.cells #[a, b, c, d, e, f, i, j] t fr)) :
    w.cell? ⟨g, 0, none⟩ = some a ∧ w.cell? ⟨g, 1, none⟩ = some b ∧ w.cell? ⟨g, 2, none⟩ = some c ∧ w.cell? ⟨g, 3, none⟩ = some d ∧ w.cell? ⟨g, 4, none⟩ = some e ∧ w.cell? ⟨g, 5, none⟩ = some f ∧ w.cell? ⟨g, 6, none⟩ = some i ∧ w.cell? ⟨g, 7, none⟩ = some j := by
  refine ⟨?_, ?_, ?_, ?_, ?_, ?_, ?_, ?_⟩ <;> (rw [cell_of_row w g _ _ t fr h]; rfl)
theorem int_cells3 {w : World} {g : Nat} {t : TypeId} {fr : Nat × Nat} {a b c : Value} (h : w.heap[g]? = some (.cells #[a, b, c] t fr)) :
    w.cell? ⟨g, 0, none⟩ = some a ∧ w.cell? ⟨g, 1, none⟩ = some b ∧ w.cell? ⟨g, 2, none⟩ = some c := by
  refine ⟨?_, ?_, ?_⟩ <;> (rw [cell_of_row w g _ _ t fr h]; rfl)
theorem l20Format_any (R N : Nat) (m : Int) (hm : 1 ≤ m) (hm2 : m ≤ 1000) (w : World) (hR : Rd w R N) (hN : N ≤ 1073741824) : Calls Try.prog 43 #[.pointer (some ⟨R, 0, none⟩), .int .i64 m] w (DrawsF w R (N + 10)) := by
  have hRl := hR.lt
  have l4 := Blk.new w 32 #[.int .i64 0, .int .i64 0]
  have hR := hR.alloc (.cells #[.int .i64 0, .int .i64 0] 32)
  have hF := only_alloc (only_refl w R) (.cells #[.int .i64 0, .int .i64 0] 32)
  go_enter Try.func43, Try.ntmps43
  go_wp2_with fail
  refine (pick_any R _ _ (by omega) (by omega) _ hR (by omega)).mono ?_
  rintro e w1 ⟨v1, rfl, ⟨va1, vb1⟩, hR1, hO⟩
  replace l4 := only_keep hO l4 (by omega)
  replace hF := only_trans hF hO
  clear hO hR
  go_wp2_with fail
  refine (pick_any R _ _ (by omega) (by omega) _ hR1 (by omega)).mono ?_
  rintro e w2 ⟨v2, rfl, ⟨va2, vb2⟩, hR2, hO⟩
  replace l4 := only_keep hO l4 (by omega)
  replace hF := only_trans hF hO
  clear hO hR1
  have l5 := Blk.new w2 32 #[.int .i64 (1 + v1), .int .i64 v2]
  have l4 := Blk.alloc l4 (.cells #[.int .i64 (1 + v1), .int .i64 v2] 32)
  replace hR2 := hR2.alloc (.cells #[.int .i64 (1 + v1), .int .i64 v2] 32)
  have hg5 : w.heap.size < w2.heap.size := by have h2 := hF.size; have h3 := Blk.lt l4; rw [World.size_alloc] at h3; have h4 := Blk.lt (show Blk w2 w.heap.size _ _ from ‹w2.heap[w.heap.size]? = _›); omega
  replace hF := only_alloc hF (.cells #[.int .i64 (1 + v1), .int .i64 v2] 32)
  obtain ⟨g5, hg5e⟩ : ∃ g, w2.heap.size = g := ⟨_, rfl⟩
  have K5 : Blk (w2.alloc (.cells #[.int .i64 (1 + v1), .int .i64 v2] 32)) g5 32 #[.int .i64 (1 + v1), .int .i64 v2] := hg5e ▸ l5
  clear l5
  rw [hg5e] at hg5
  go_wp2_with fail
  refine (pick_any R _ _ (by omega) (by omega) _ hR2 (by omega)).mono ?_
  rintro e w3 ⟨v3, rfl, ⟨va3, vb3⟩, hR3, hO⟩
  replace l4 := only_keep hO l4 (by omega)
  replace l5 := only_keep hO K5 (by omega)
  replace hF := only_trans hF hO
  clear hO hR2 K5
  by_cases h3 : v3 = 0
  · subst h3
    go_wp2_with fail
    refine (pick_any R _ _ (by omega) (by omega) _ hR3 (by omega)).mono ?_
    rintro e w4 ⟨v4, rfl, ⟨va4, vb4⟩, hR4, hO⟩
    replace l4 := only_keep hO l4 (by omega)
    replace l5 := only_keep hO l5 (by omega)
    replace hF := only_trans hF hO
    clear hO hR3
    go_wp2_with fail
    refine (pick_any R _ _ (by omega) (by omega) _ hR4 (by omega)).mono ?_
    rintro e w5 ⟨v5, rfl, ⟨va5, vb5⟩, hR5, hO⟩
    replace l4 := only_keep hO l4 (by omega)
    replace l5 := only_keep hO l5 (by omega)
    replace hF := only_trans hF hO
    clear hO hR4
    obtain ⟨n0, n1, m0, m1⟩ := fcell2 l5
    go_wp2_with fail
    replace l4 := Blk.far (p := ⟨g5, 1, none⟩) (Blk.far (p := ⟨g5, 0, none⟩) l4 (by simp; omega) (.int .i64 (1 + v4))) (by simp; omega) (.int .i64 v5)
    replace l5 := Blk.two l5 (.int .i64 (1 + v4)) (.int .i64 v5)
    replace hR5 := (hR5.far (p := ⟨g5, 0, none⟩) (by simp; omega) (.int .i64 (1 + v4))).far (p := ⟨g5, 1, none⟩) (by simp; omega) (.int .i64 v5)
    replace hF := only_set (only_set hF (p := ⟨g5, 0, none⟩) (.inr (by simp; omega)) (.int .i64 (1 + v4))) (p := ⟨g5, 1, none⟩) (.inr (by simp; omega)) (.int .i64 v5)
    clear n0 n1 m0 m1
    refine (odd_any R _ _ hm (by omega) _ hR5 (by omega)).mono ?_
    rintro e w6 ⟨v6, rfl, hR, hO⟩
    replace l4 := only_keep hO l4 (by omega)
    replace l5 := only_keep hO l5 (by omega)
    replace hF := only_trans hF hO
    clear hO hR5
    obtain ⟨n0, n1, m0, m1⟩ := fcell2 l5
    obtain ⟨t0, t1, f0, f1⟩ := fcell2 l4
    cases v6
    · go_wp2
      refine bodyPost_ret (by simp only [results, Try.results43]; go_simp; all_goals (first | exact rfl | exact ⟨rfl, rfl⟩ | skip)) rfl ⟨_, _, rfl, ((hR.far (p := ⟨w.heap.size, 0, none⟩) hRl _).far (p := ⟨w.heap.size, 1, none⟩) hRl _).more (by omega), only_set (only_set hF (p := ⟨w.heap.size, 0, none⟩) (.inr (by simp)) _) (p := ⟨w.heap.size, 1, none⟩) (.inr (by simp)) _⟩
    · go_wp2_with fail
      refine (pick_any R _ _ (by omega) (by omega) _ (hR.alloc _) (by omega)).mono ?_
      rintro e w7 ⟨v7, rfl, ⟨va7, vb7⟩, hR7, hO⟩
      have hF7 := only_trans (only_alloc hF _) hO
      replace l4 := only_keep hO (Blk.alloc l4 _) (by omega)
      replace l5 := only_keep hO (Blk.alloc l5 _) (by omega)
      obtain ⟨k0, k1, k2, k3, k4, k5, k6, k7⟩ := fmt_cells (only_new hO hR.lt)
      clear n0 n1 m0 m1 t0 t1 f0 f1 hO hF
      obtain ⟨n0, n1, m0, m1⟩ := fcell2 l5
      obtain ⟨t0, t1, f0, f1⟩ := fcell2 l4
      have hv : v7 = 0 ∨ v7 = 1 ∨ v7 = 2 ∨ v7 = 3 := by omega
      rcases hv with rfl | rfl | rfl | rfl
      all_goals
        go_wp2
        refine bodyPost_ret (by simp only [results, Try.results43]; go_simp; all_goals (first | exact rfl | exact ⟨rfl, rfl⟩ | skip)) rfl ⟨_, _, rfl, (((((hR7.far (p := ⟨g5, 0, none⟩) (by simp; omega) _).far (p := ⟨g5, 1, none⟩) (by simp; omega) _).far (p := ⟨w.heap.size, 0, none⟩) hRl _).far (p := ⟨w.heap.size, 1, none⟩) hRl _)).more (by omega), only_set (only_set (only_set (only_set hF7 (p := ⟨g5, 0, none⟩) (.inr (by simp; omega)) _) (p := ⟨g5, 1, none⟩) (.inr (by simp; omega)) _) (p := ⟨w.heap.size, 0, none⟩) (.inr (by simp)) _) (p := ⟨w.heap.size, 1, none⟩) (.inr (by simp)) _⟩
  · have h3' : (v3 == 0) = false := by simp; omega
    go_wp2_with fail
    refine (odd_any R _ _ hm (by omega) _ hR3 (by omega)).mono ?_
    rintro e w6 ⟨v6, rfl, hR, hO⟩
    replace l4 := only_keep hO l4 (by omega)
    replace l5 := only_keep hO l5 (by omega)
    replace hF := only_trans hF hO
    clear hO hR3
    obtain ⟨n0, n1, m0, m1⟩ := fcell2 l5
    obtain ⟨t0, t1, f0, f1⟩ := fcell2 l4
    cases v6
    · go_wp2
      refine bodyPost_ret (by simp only [results, Try.results43]; go_simp; all_goals (first | exact rfl | exact ⟨rfl, rfl⟩ | skip)) rfl ⟨_, _, rfl, ((hR.far (p := ⟨w.heap.size, 0, none⟩) hRl _).far (p := ⟨w.heap.size, 1, none⟩) hRl _).more (by omega), only_set (only_set hF (p := ⟨w.heap.size, 0, none⟩) (.inr (by simp)) _) (p := ⟨w.heap.size, 1, none⟩) (.inr (by simp)) _⟩
    · go_wp2_with fail
      refine (pick_any R _ _ (by omega) (by omega) _ (hR.alloc _) (by omega)).mono ?_
      rintro e w7 ⟨v7, rfl, ⟨va7, vb7⟩, hR7, hO⟩
      have hF7 := only_trans (only_alloc hF _) hO
      replace l4 := only_keep hO (Blk.alloc l4 _) (by omega)
      replace l5 := only_keep hO (Blk.alloc l5 _) (by omega)
      obtain ⟨k0, k1, k2, k3, k4, k5, k6, k7⟩ := fmt_cells (only_new hO hR.lt)
      clear n0 n1 m0 m1 t0 t1 f0 f1 hO hF
      obtain ⟨n0, n1, m0, m1⟩ := fcell2 l5
      obtain ⟨t0, t1, f0, f1⟩ := fcell2 l4
      have hv : v7 = 0 ∨ v7 = 1 ∨ v7 = 2 ∨ v7 = 3 := by omega
      rcases hv with rfl | rfl | rfl | rfl
      all_goals
        go_wp2
        refine bodyPost_ret (by simp only [results, Try.results43]; go_simp; all_goals (first | exact rfl | exact ⟨rfl, rfl⟩ | skip)) rfl ⟨_, _, rfl, (((((hR7.far (p := ⟨g5, 0, none⟩) (by simp; omega) _).far (p := ⟨g5, 1, none⟩) (by simp; omega) _).far (p := ⟨w.heap.size, 0, none⟩) hRl _).far (p := ⟨w.heap.size, 1, none⟩) hRl _)).more (by omega), only_set (only_set (only_set (only_set hF7 (p := ⟨g5, 0, none⟩) (.inr (by simp; omega)) _) (p := ⟨g5, 1, none⟩) (.inr (by simp; omega)) _) (p := ⟨w.heap.size, 0, none⟩) (.inr (by simp)) _) (p := ⟨w.heap.size, 1, none⟩) (.inr (by simp)) _⟩
theorem l20Stored_any (R N : Nat) (W P : Int) (m : Int) (hm : 1 ≤ m) (hm2 : m ≤ 1000) (w : World) (hR : Rd w R N) (hN : N ≤ 1073741824) :
    Calls Try.prog 44 #[.pointer (some ⟨R, 0, none⟩), .agg #[.int .i64 W, .int .i64 P], .int .i64 m] w (DrawsI (fun _ => True) w R (N + 60)) := by
  have hRl := hR.lt
  have l4 := Blk.new w 32 #[.int .i64 W, .int .i64 P]
  have hR := hR.alloc (.cells #[.int .i64 W, .int .i64 P] 32)
  have hF := only_alloc (only_refl w R) (.cells #[.int .i64 W, .int .i64 P] 32)
  rcases fmtB_cases W P with ⟨h, h0, h1, h2, h3⟩ | ⟨h, -⟩
  · have H := Lib.hid h
    clear h
    obtain ⟨b0, b1⟩ := pw_bd W P h0 h1 h2 h3
    have b2 : 2 ≤ (2 : Int) ^ (W + P).toNat := b0
    have b3 : (2 : Int) ^ (W + P).toNat ≤ 268435456 := b1
    clear b0 b1
    go_enter Try.func44, Try.ntmps44
    go_wp2_with fail
    refine (specFormatValid_any _ _ _).mono ?_
    rintro e w1 ⟨he, hb⟩
    rw [H.out] at he
    subst he
    replace hR := hR.below hb hR.lt
    replace l4 := heap_keep hb l4
    replace hF := only_trans hF (only_of_below hb)
    clear hb
    obtain ⟨n0, n1, m0, m1⟩ := fcell2 l4
    go_upto_region 4 with fail
    generalize (2 : Int) ^ (W + P).toNat = p at *
    have nz : ¬ (2 * (p - 1) + 2 = 0) := by omega
    go_cut [8] (fun s wx => ∃ x : Int, s = .int .i64 x ∧ Rd wx R (N + 45) ∧ Only w wx R)
    case first =>
      refine wp_region_draw (m := 35) (r := 1) (U := 1) (R := R) (G := R) (N := N) (ks := [21, 22, 23, 24, 25, 26, 27, 28, 29, 30, 31, 32, 33, 34, 35, 36, 37, 38, 39, 40, 41, 42, 43, 44, 45, 46, 47, 48, 49, 50, 51, 52, 53, 54, 55]) (E := fun _ => True)
        (Fs := fun d => match d with | 21 => is (.pointer (some ⟨R, 0, none⟩)) | 22 => upto (0) (256) | 23 => num | 24 => is (.pointer (some ⟨R, 0, none⟩)) | 25 => upto (0) (256) | 26 => num | 27 => is (.pointer (some ⟨R, 0, none⟩)) | 28 => upto (0) (256) | 29 => num | 30 => num | 31 => is (.pointer (some ⟨R, 0, none⟩)) | 32 => upto (0) (256) | 33 => num | 34 => is (.int .i64 (p - 1)) | 35 => is (.int .i64 (2 * (p - 1))) | 36 => is (.int .i64 (2 * (p - 1) + 2)) | 37 => num | 38 => is (.int .i64 (p - 1)) | 39 => num | 40 => num | 41 => is (.int .i64 (p - 1)) | 42 => is (.int .i64 (p - 1)) | 43 => num | 44 => num | 45 => is (.pointer (some ⟨w.heap.size, 1, none⟩)) | 46 => is (.int .i64 P) | 47 => num | 48 => .lit 5 (fun _ => True) | 49 => .lit 8 (fun x => (0) ≤ x ∧ x < (5)) | 50 => is (.pointer (some ⟨R, 0, none⟩)) | 51 => upto (0) (8) | 52 => .cell (fun x => (0) ≤ x ∧ x < (5)) | 53 => upto (0) (5) | 54 => .cell (fun _ => True) | 55 => num | _ => .any) (A := ?A) (by kernel_rfl) (by kernel_rfl) (by kernel_rfl) ?hA (by first | exact hR | assumption) trivial (fun _ _ _ _ => trivial) ?steps ?after
      case hA => (intro tm; simp only [over, List.foldl_cons, List.foldl_nil, List.setIfInBounds_toArray, List.set_cons_zero, List.set_cons_succ]; exact rfl)
      case steps =>
        refine StepsR.cons (by (simp only [List.getElem?_toArray, List.getElem?_cons_zero]; rfl)) (fun K tm wc c hc hR hO hE hpre hK => ?_) ?_
        · go_simp
          exact hK.out _ _ (hR.more (by omega)) (.inl (only_refl _ _)) (by first | exact rfl | exact congrArg (Value.int .i64) (IntWalk.i64_in _ (by omega)))
        refine StepsR.cons (by (simp only [List.getElem?_toArray, List.getElem?_cons_succ, List.getElem?_cons_zero]; rfl)) (fun K tm wc c hc hR hO hE hpre hK => ?_) ?_
        · have e21 : tm 21 = _ := (hpre 21 (by kernel_rfl))
          simp only [e21] at hK
          go_simp
          refine (pick_any R _ _ (by omega) (by omega) _ hR (by omega)).mono ?_
          rintro e w1 ⟨v, rfl, ⟨va, vb⟩, hR1, hO1⟩
          (try go_wp2_with fail)
          exact hK.out _ _ (hR1.more (by omega)) (.inl hO1) ⟨v, rfl, va, vb⟩
        refine StepsR.cons (by (simp only [List.getElem?_toArray, List.getElem?_cons_succ, List.getElem?_cons_zero]; rfl)) (fun K tm wc c hc hR hO hE hpre hK => ?_) ?_
        · obtain ⟨u22, e22, a22, b22⟩ := (hpre 22 (by kernel_rfl))
          simp only [e22] at hK
          go_simp
          exact hK.out _ _ (hR.more (by omega)) (.inl (only_refl _ _)) ⟨_, rfl⟩
        refine StepsR.cons (by (simp only [List.getElem?_toArray, List.getElem?_cons_succ, List.getElem?_cons_zero]; rfl)) (fun K tm wc c hc hR hO hE hpre hK => ?_) ?_
        · go_simp
          exact hK.out _ _ (hR.more (by omega)) (.inl (only_refl _ _)) (by first | exact rfl | exact congrArg (Value.int .i64) (IntWalk.i64_in _ (by omega)))
        refine StepsR.cons (by (simp only [List.getElem?_toArray, List.getElem?_cons_succ, List.getElem?_cons_zero]; rfl)) (fun K tm wc c hc hR hO hE hpre hK => ?_) ?_
        · have e24 : tm 24 = _ := (hpre 24 (by kernel_rfl))
          simp only [e24] at hK
          go_simp
          refine (pick_any R _ _ (by omega) (by omega) _ hR (by omega)).mono ?_
          rintro e w1 ⟨v, rfl, ⟨va, vb⟩, hR1, hO1⟩
          (try go_wp2_with fail)
          exact hK.out _ _ (hR1.more (by omega)) (.inl hO1) ⟨v, rfl, va, vb⟩
        refine StepsR.cons (by (simp only [List.getElem?_toArray, List.getElem?_cons_succ, List.getElem?_cons_zero]; rfl)) (fun K tm wc c hc hR hO hE hpre hK => ?_) ?_
        · obtain ⟨u25, e25, a25, b25⟩ := (hpre 25 (by kernel_rfl))
          simp only [e25] at hK
          go_simp
          exact hK.out _ _ (hR.more (by omega)) (.inl (only_refl _ _)) ⟨_, rfl⟩
        refine StepsR.cons (by (simp only [List.getElem?_toArray, List.getElem?_cons_succ, List.getElem?_cons_zero]; rfl)) (fun K tm wc c hc hR hO hE hpre hK => ?_) ?_
        · go_simp
          exact hK.out _ _ (hR.more (by omega)) (.inl (only_refl _ _)) (by first | exact rfl | exact congrArg (Value.int .i64) (IntWalk.i64_in _ (by omega)))
        refine StepsR.cons (by (simp only [List.getElem?_toArray, List.getElem?_cons_succ, List.getElem?_cons_zero]; rfl)) (fun K tm wc c hc hR hO hE hpre hK => ?_) ?_
        · have e27 : tm 27 = _ := (hpre 27 (by kernel_rfl))
          simp only [e27] at hK
          go_simp
          refine (pick_any R _ _ (by omega) (by omega) _ hR (by omega)).mono ?_
          rintro e w1 ⟨v, rfl, ⟨va, vb⟩, hR1, hO1⟩
          (try go_wp2_with fail)
          exact hK.out _ _ (hR1.more (by omega)) (.inl hO1) ⟨v, rfl, va, vb⟩
        refine StepsR.cons (by (simp only [List.getElem?_toArray, List.getElem?_cons_succ, List.getElem?_cons_zero]; rfl)) (fun K tm wc c hc hR hO hE hpre hK => ?_) ?_
        · obtain ⟨u28, e28, a28, b28⟩ := (hpre 28 (by kernel_rfl))
          simp only [e28] at hK
          go_simp
          exact hK.out _ _ (hR.more (by omega)) (.inl (only_refl _ _)) ⟨_, rfl⟩
        refine StepsR.cons (by (simp only [List.getElem?_toArray, List.getElem?_cons_succ, List.getElem?_cons_zero]; rfl)) (fun K tm wc c hc hR hO hE hpre hK => ?_) ?_
        · obtain ⟨u26, e26⟩ := (hpre 26 (by kernel_rfl))
          obtain ⟨u29, e29⟩ := (hpre 29 (by kernel_rfl))
          simp only [e26, e29] at hK
          go_simp
          exact hK.out _ _ (hR.more (by omega)) (.inl (only_refl _ _)) ⟨_, rfl⟩
        refine StepsR.cons (by (simp only [List.getElem?_toArray, List.getElem?_cons_succ, List.getElem?_cons_zero]; rfl)) (fun K tm wc c hc hR hO hE hpre hK => ?_) ?_
        · go_simp
          exact hK.out _ _ (hR.more (by omega)) (.inl (only_refl _ _)) (by first | exact rfl | exact congrArg (Value.int .i64) (IntWalk.i64_in _ (by omega)))
        refine StepsR.cons (by (simp only [List.getElem?_toArray, List.getElem?_cons_succ, List.getElem?_cons_zero]; rfl)) (fun K tm wc c hc hR hO hE hpre hK => ?_) ?_
        · have e31 : tm 31 = _ := (hpre 31 (by kernel_rfl))
          simp only [e31] at hK
          go_simp
          refine (pick_any R _ _ (by omega) (by omega) _ hR (by omega)).mono ?_
          rintro e w1 ⟨v, rfl, ⟨va, vb⟩, hR1, hO1⟩
          (try go_wp2_with fail)
          exact hK.out _ _ (hR1.more (by omega)) (.inl hO1) ⟨v, rfl, va, vb⟩
        refine StepsR.cons (by (simp only [List.getElem?_toArray, List.getElem?_cons_succ, List.getElem?_cons_zero]; rfl)) (fun K tm wc c hc hR hO hE hpre hK => ?_) ?_
        · obtain ⟨u30, e30⟩ := (hpre 30 (by kernel_rfl))
          obtain ⟨u32, e32, a32, b32⟩ := (hpre 32 (by kernel_rfl))
          simp only [e30, e32] at hK
          go_simp
          exact hK.out _ _ (hR.more (by omega)) (.inl (only_refl _ _)) ⟨_, rfl⟩
        refine StepsR.cons (by (simp only [List.getElem?_toArray, List.getElem?_cons_succ, List.getElem?_cons_zero]; rfl)) (fun K tm wc c hc hR hO hE hpre hK => ?_) ?_
        · go_simp
          exact hK.out _ _ (hR.more (by omega)) (.inl (only_refl _ _)) (by first | exact rfl | exact congrArg (Value.int .i64) (IntWalk.i64_in _ (by omega)))
        refine StepsR.cons (by (simp only [List.getElem?_toArray, List.getElem?_cons_succ, List.getElem?_cons_zero]; rfl)) (fun K tm wc c hc hR hO hE hpre hK => ?_) ?_
        · have e34 : tm 34 = _ := (hpre 34 (by kernel_rfl))
          simp only [e34] at hK
          go_simp
          exact hK.out _ _ (hR.more (by omega)) (.inl (only_refl _ _)) (by first | exact rfl | exact congrArg (Value.int .i64) (IntWalk.i64_in _ (by omega)))
        refine StepsR.cons (by (simp only [List.getElem?_toArray, List.getElem?_cons_succ, List.getElem?_cons_zero]; rfl)) (fun K tm wc c hc hR hO hE hpre hK => ?_) ?_
        · have e35 : tm 35 = _ := (hpre 35 (by kernel_rfl))
          simp only [e35] at hK
          go_simp
          exact hK.out _ _ (hR.more (by omega)) (.inl (only_refl _ _)) (by first | exact rfl | exact congrArg (Value.int .i64) (IntWalk.i64_in _ (by omega)))
        refine StepsR.cons (by (simp only [List.getElem?_toArray, List.getElem?_cons_succ, List.getElem?_cons_zero]; rfl)) (fun K tm wc c hc hR hO hE hpre hK => ?_) ?_
        · obtain ⟨u33, e33⟩ := (hpre 33 (by kernel_rfl))
          have e36 : tm 36 = _ := (hpre 36 (by kernel_rfl))
          simp only [e33, e36] at hK
          go_simp
          exact hK.out _ _ (hR.more (by omega)) (.inl (only_refl _ _)) ⟨_, rfl⟩
        refine StepsR.cons (by (simp only [List.getElem?_toArray, List.getElem?_cons_succ, List.getElem?_cons_zero]; rfl)) (fun K tm wc c hc hR hO hE hpre hK => ?_) ?_
        · go_simp
          exact hK.out _ _ (hR.more (by omega)) (.inl (only_refl _ _)) (by first | exact rfl | exact congrArg (Value.int .i64) (IntWalk.i64_in _ (by omega)))
        refine StepsR.cons (by (simp only [List.getElem?_toArray, List.getElem?_cons_succ, List.getElem?_cons_zero]; rfl)) (fun K tm wc c hc hR hO hE hpre hK => ?_) ?_
        · obtain ⟨u37, e37⟩ := (hpre 37 (by kernel_rfl))
          have e38 : tm 38 = _ := (hpre 38 (by kernel_rfl))
          simp only [e37, e38] at hK
          go_simp
          exact hK.out _ _ (hR.more (by omega)) (.inl (only_refl _ _)) ⟨_, rfl⟩
        refine StepsR.cons (by (simp only [List.getElem?_toArray, List.getElem?_cons_succ, List.getElem?_cons_zero]; rfl)) (fun K tm wc c hc hR hO hE hpre hK => ?_) ?_
        · obtain ⟨u39, e39⟩ := (hpre 39 (by kernel_rfl))
          simp only [e39] at hK
          go_simp
          exact hK.out _ _ (hR.more (by omega)) (.inl (only_refl _ _)) ⟨_, rfl⟩
        refine StepsR.cons (by (simp only [List.getElem?_toArray, List.getElem?_cons_succ, List.getElem?_cons_zero]; rfl)) (fun K tm wc c hc hR hO hE hpre hK => ?_) ?_
        · go_simp
          exact hK.out _ _ (hR.more (by omega)) (.inl (only_refl _ _)) (by first | exact rfl | exact congrArg (Value.int .i64) (IntWalk.i64_in _ (by omega)))
        refine StepsR.cons (by (simp only [List.getElem?_toArray, List.getElem?_cons_succ, List.getElem?_cons_zero]; rfl)) (fun K tm wc c hc hR hO hE hpre hK => ?_) ?_
        · go_simp
          exact hK.out _ _ (hR.more (by omega)) (.inl (only_refl _ _)) (by first | exact rfl | exact congrArg (Value.int .i64) (IntWalk.i64_in _ (by omega)))
        refine StepsR.cons (by (simp only [List.getElem?_toArray, List.getElem?_cons_succ, List.getElem?_cons_zero]; rfl)) (fun K tm wc c hc hR hO hE hpre hK => ?_) ?_
        · have e42 : tm 42 = _ := (hpre 42 (by kernel_rfl))
          simp only [e42] at hK
          go_simp
          exact hK.out _ _ (hR.more (by omega)) (.inl (only_refl _ _)) ⟨_, rfl⟩
        refine StepsR.cons (by (simp only [List.getElem?_toArray, List.getElem?_cons_succ, List.getElem?_cons_zero]; rfl)) (fun K tm wc c hc hR hO hE hpre hK => ?_) ?_
        · obtain ⟨u43, e43⟩ := (hpre 43 (by kernel_rfl))
          simp only [e43] at hK
          go_simp
          exact hK.out _ _ (hR.more (by omega)) (.inl (only_refl _ _)) ⟨_, rfl⟩
        refine StepsR.cons (by (simp only [List.getElem?_toArray, List.getElem?_cons_succ, List.getElem?_cons_zero]; rfl)) (fun K tm wc c hc hR hO hE hpre hK => ?_) ?_
        · go_simp
          exact hK.out _ _ (hR.more (by omega)) (.inl (only_refl _ _)) rfl
        refine StepsR.cons (by (simp only [List.getElem?_toArray, List.getElem?_cons_succ, List.getElem?_cons_zero]; rfl)) (fun K tm wc c hc hR hO hE hpre hK => ?_) ?_
        · have e45 : tm 45 = _ := (hpre 45 (by kernel_rfl))
          simp only [e45] at hK
          have l4c := hO.keep l4 (by omega) (by omega)
          obtain ⟨n0, n1, m0, m1⟩ := fcell2 l4c
          go_simp
          exact hK.out _ _ (hR.more (by omega)) (.inl (only_refl _ _)) rfl
        refine StepsR.cons (by (simp only [List.getElem?_toArray, List.getElem?_cons_succ, List.getElem?_cons_zero]; rfl)) (fun K tm wc c hc hR hO hE hpre hK => ?_) ?_
        · have e46 : tm 46 = _ := (hpre 46 (by kernel_rfl))
          simp only [e46] at hK
          go_simp
          exact hK.out _ _ (hR.more (by omega)) (.inl (only_refl _ _)) ⟨_, rfl⟩
        refine StepsR.cons (by (simp only [List.getElem?_toArray, List.getElem?_cons_succ, List.getElem?_cons_zero]; rfl)) (fun K tm wc c hc hR hO hE hpre hK => ?_) ?_
        · obtain ⟨u23, e23⟩ := (hpre 23 (by kernel_rfl))
          obtain ⟨u40, e40⟩ := (hpre 40 (by kernel_rfl))
          have e41 : tm 41 = _ := (hpre 41 (by kernel_rfl))
          obtain ⟨u44, e44⟩ := (hpre 44 (by kernel_rfl))
          obtain ⟨u47, e47⟩ := (hpre 47 (by kernel_rfl))
          simp only [e23, e40, e41, e44, e47] at hK
          go_simp
          exact hK.out _ _ ((hR.alloc _).more (by omega)) (.inl (only_alloc (only_refl _ _) _)) (Fc.lit_new [u23, u40, ((p - 1)), u44, u47] rfl hR.lt hR.lt rfl (fun _ _ => trivial))
        refine StepsR.cons (by (simp only [List.getElem?_toArray, List.getElem?_cons_succ, List.getElem?_cons_zero]; rfl)) (fun K tm wc c hc hR hO hE hpre hK => ?_) ?_
        · go_simp
          exact hK.out _ _ ((hR.alloc _).more (by omega)) (.inl (only_alloc (only_refl _ _) _)) (Fc.lit_new [(0), (0), (1), (1), (1), (2), (3), (4)] rfl hR.lt hR.lt rfl (by decide))
        refine StepsR.cons (by (simp only [List.getElem?_toArray, List.getElem?_cons_succ, List.getElem?_cons_zero]; rfl)) (fun K tm wc c hc hR hO hE hpre hK => ?_) ?_
        · go_simp
          exact hK.out _ _ (hR.more (by omega)) (.inl (only_refl _ _)) (by first | exact rfl | exact congrArg (Value.int .i64) (IntWalk.i64_in _ (by omega)))
        refine StepsR.cons (by (simp only [List.getElem?_toArray, List.getElem?_cons_succ, List.getElem?_cons_zero]; rfl)) (fun K tm wc c hc hR hO hE hpre hK => ?_) ?_
        · have e50 : tm 50 = _ := (hpre 50 (by kernel_rfl))
          simp only [e50] at hK
          go_simp
          refine (pick_any R _ _ (by omega) (by omega) _ hR (by omega)).mono ?_
          rintro e w1 ⟨v, rfl, ⟨va, vb⟩, hR1, hO1⟩
          (try go_wp2_with fail)
          exact hK.out _ _ (hR1.more (by omega)) (.inl hO1) ⟨v, rfl, va, vb⟩
        refine StepsR.cons (by (simp only [List.getElem?_toArray, List.getElem?_cons_succ, List.getElem?_cons_zero]; rfl)) (fun K tm wc c hc hR hO hE hpre hK => ?_) ?_
        · obtain ⟨g49, e49, c49⟩ := Fc.at_lit (hpre 49 (by kernel_rfl))
          obtain ⟨u51, e51, a51, b51⟩ := (hpre 51 (by kernel_rfl))
          simp only [e49, e51] at hK
          have c49 := c49 u51 (by omega) (by omega)
          go_simp
          exact hK.out _ _ (hR.more (by omega)) (.inl (only_refl _ _)) c49
        refine StepsR.cons (by (simp only [List.getElem?_toArray, List.getElem?_cons_succ, List.getElem?_cons_zero]; rfl)) (fun K tm wc c hc hR hO hE hpre hK => ?_) ?_
        · obtain ⟨g52, k52, u52, e52, _, _, h52, p52⟩ := (hpre 52 (by kernel_rfl))
          simp only [e52] at hK
          go_simp
          exact hK.out _ _ (hR.more (by omega)) (.inl (only_refl _ _)) ⟨_, rfl, p52.1, p52.2⟩
        refine StepsR.cons (by (simp only [List.getElem?_toArray, List.getElem?_cons_succ, List.getElem?_cons_zero]; rfl)) (fun K tm wc c hc hR hO hE hpre hK => ?_) ?_
        · obtain ⟨g48, e48, c48⟩ := Fc.at_lit (hpre 48 (by kernel_rfl))
          obtain ⟨u53, e53, a53, b53⟩ := (hpre 53 (by kernel_rfl))
          simp only [e48, e53] at hK
          have c48 := c48 u53 (by omega) (by omega)
          go_simp
          exact hK.out _ _ (hR.more (by omega)) (.inl (only_refl _ _)) c48
        refine StepsR.cons (by (simp only [List.getElem?_toArray, List.getElem?_cons_succ, List.getElem?_cons_zero]; rfl)) (fun K tm wc c hc hR hO hE hpre hK => ?_) ?_
        · obtain ⟨g54, k54, u54, e54, _, _, h54, p54⟩ := (hpre 54 (by kernel_rfl))
          simp only [e54] at hK
          go_simp
          exact hK.out _ _ (hR.more (by omega)) (.inl (only_refl _ _)) ⟨_, rfl⟩
        exact StepsR.nil
      case after =>
        intro tm w' hR hO hE hf
        obtain ⟨u55, e55⟩ := (hf 55 (by kernel_rfl))
        replace hO := hO.one (.inl rfl)
        replace hF := only_trans hF hO
        refine wpAnyH_ready (rs := [35]) (by kernel_rfl) (by simp) ?_
        refine AllReadyH.cons (by (simp only [List.getElem?_toArray, List.getElem?_cons_succ, List.getElem?_cons_zero]; rfl)) (fun K hK => ?_) AllReadyH.nil
        go_simp
        refine hK.out _ _ trivial (fun _ => ?_)
        clear hK K
        try simp only [Act.put, List.setIfInBounds_toArray, List.set_cons_zero, List.set_cons_succ]
        refine wpAnyH_done (by kernel_rfl) ?_ _
        go_wp2
        go_meet
        exact ⟨_, rfl, hR.more (by omega), hF⟩
    case rest =>
      obtain ⟨x, rfl, hR, hF⟩ := hcut
      clear nz
      go_upto_region 6 with fail
      go_cut [8, 65] (fun s t wx => ∃ (y : Int) (b : Bool), s = .int .i64 y ∧ t = .bool b ∧ Rd wx R (N + 46) ∧ Only w wx R)
      case first =>
        go_wp2_with fail
        all_goals
          refine (odd_any R _ _ hm (by omega) _ hR (by omega)).mono ?_
          rintro e w2 ⟨b, rfl, hR2, hO⟩
          go_wp2
          go_meet
          exact ⟨_, b, rfl, rfl, hR2.more (by omega), only_trans hF hO⟩
      case rest =>
        obtain ⟨y, b, rfl, rfl, hR, hF⟩ := hcut
        cases b
        · go_wp2
          go_ret
          exact ⟨_, rfl, trivial, hR.more (by omega), hF⟩
        · go_wp2_with fail
          refine (pick_any R _ _ (by omega) (by omega) _ (hR.alloc _) (by omega)).mono ?_
          rintro e w3 ⟨v, rfl, ⟨va, vb⟩, hR3, hO⟩
          have hv : v = 0 ∨ v = 1 ∨ v = 2 := by omega
          have hh := only_new hO hR.lt
          obtain ⟨k0, k1, k2⟩ := int_cells3 hh
          have hF3 := only_trans (only_alloc hF _) hO
          clear hO hh
          rcases hv with rfl | rfl | rfl
          all_goals
            go_wp2
            go_ret
            exact ⟨_, rfl, trivial, hR3.more (by omega), hF3⟩
  · have H := Lib.hid h
    clear h
    go_enter Try.func44, Try.ntmps44
    go_wp2_with fail
    refine (specFormatValid_any _ _ _).mono ?_
    rintro e w1 ⟨he, hb⟩
    rw [H.out] at he
    subst he
    replace hR := hR.below hb hR.lt
    replace hF := only_trans hF (only_of_below hb)
    clear hb
    go_wp2_with fail
    refine (pick_any R _ _ (by omega) (by omega) _ hR (by omega)).mono ?_
    rintro e w2 ⟨v, rfl, ⟨va, vb⟩, hR2, hO⟩
    go_wp2
    go_ret
    exact ⟨_, rfl, trivial, hR2.more (by omega), only_trans hF hO⟩
end Go.Proofs.Ytdnklndemoinaaa
