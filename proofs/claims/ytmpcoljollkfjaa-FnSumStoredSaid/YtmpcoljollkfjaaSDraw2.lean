/- The draws of the laws of sums return some values; no condition. -/
import Derived.Test.YtmpcoljollkfjaaSDraw
import Derived.Test.YtmpcoljollkfjaaFDraw2
import Derived.Test.YtmpcoljollkfjaaLDraw
import Derived.Test.YtmpcoljollkfjaaSums3
namespace Go.Proofs.Ytmpcoljollkfjaa
open Go.RowKit
set_option linter.unusedVariables false
set_option linter.unusedSimpArgs false
set_option maxHeartbeats 4000000

def GetsS (w : World) (e : Ending) (w' : World) : Prop := ∃ (v : Int) (b : Bool), e = .returned (.agg #[.int .i64 v, .bool b]) ∧ Below w.heap.size w w'
def GetsSI (w : World) (e : Ending) (w' : World) : Prop := ∃ (v : Int) (b : Bool) (n : Int), e = .returned (.tuple #[.agg #[.int .i64 v, .bool b], .int .i64 n]) ∧ Below w.heap.size w w'
def GetsSFII (w : World) (e : Ending) (w' : World) : Prop := ∃ (v : Int) (l : Bool) (W P a b : Int), e = .returned (.tuple #[.agg #[.int .i64 v, .bool l], .agg #[.int .i64 W, .int .i64 P], .int .i64 a, .int .i64 b]) ∧ Below w.heap.size w w'
def GetsSF (w : World) (e : Ending) (w' : World) : Prop := ∃ (v : Int) (l : Bool) (W P : Int), e = .returned (.tuple #[.agg #[.int .i64 v, .bool l], .agg #[.int .i64 W, .int .i64 P]]) ∧ Below w.heap.size w w'
theorem drawSumValid_any (A : Option Addr) (n c : Nat) (xs : List Int) (w0 w : World) (h : Byts w0 w0.heap.size A xs) (hn : xs.length = n) (hc : n ≤ c) (hm : c ≤ maxLen) (hlen : n ≤ 1048576) (hb0 : Below w0.heap.size w0 w) :
    Calls Try.prog 32 #[.slice A n c] w (GetsS w) := by
  have l2 := Blk.new w 26 #[.int .i64 0, .bool false]
  go_enter Try.func32, Try.ntmps32
  go_wp2_with fail
  refine (open_any A n c xs w0 _ h hn hc hm hlen (hb0.alloc hb0.size _)).mono ?_
  rintro e w1 ⟨R, rfl, hRs, hR, hb⟩
  have hb1 : Below w.heap.size w w1 := (by repeat (first | exact bw_refl _ | assumption | apply bw_alloc | apply bw_drew | apply bw_drewN | (refine bw_trans ?_ (by assumption)) | (refine bw_set ?_ (by simp only [go_sem]; omega) _)))
  replace l2 := heap_keep hb l2
  rw [World.size_alloc] at hRs
  clear hb
  go_wp2_with fail
  refine (l20Sum_any R 0 _ (by omega) (by omega) _ hR (by omega)).mono ?_
  rintro e w2 ⟨v, b, rfl, hR2, hO⟩
  have hb2 := below_only hb1 hO (by omega)
  replace l2 := only_keep hO l2 (by omega)
  clear hO hb1 hR hR2
  obtain ⟨n0, n1, m0, m1⟩ := cell2 l2
  go_wp2
  refine bodyPost_ret (by simp only [results, Try.results32]; go_simp; all_goals (first | exact rfl | exact ⟨rfl, rfl⟩ | skip)) rfl ⟨v, b, rfl, (by repeat (first | exact bw_refl _ | assumption | apply bw_alloc | apply bw_drew | apply bw_drewN | (refine bw_trans ?_ (by assumption)) | (refine bw_set ?_ (by simp only [go_sem]; omega) _)))⟩
def isSum (g t : Nat) (w : World) : Prop := ∃ (a : Int) (b : Bool), Blk w g t #[.int .i64 a, .bool b]
theorem isSum.keep {g t R : Nat} (hg : g ≠ R) {w1 w2 : World} (h : Only w1 w2 R) (k : isSum g t w1) : isSum g t w2 := by
  obtain ⟨a, b, k⟩ := k
  exact ⟨a, b, only_keep h k hg⟩
theorem below_only2 {w w1 w2 : World} {R G : Nat} (hb : Below w.heap.size w w1) (h : Only2 w1 w2 R G) (hR : w.heap.size ≤ R) (hG : w.heap.size ≤ G) : Below w.heap.size w w2 :=
  ⟨h.os.trans hb.os, h.tape.trans hb.tape, h.output.trans hb.output, Nat.le_trans hb.size h.size, fun i hi => (h.block i (Nat.lt_of_lt_of_le hi hb.size) (by omega) (by omega)).trans (hb.block i hi)⟩
theorem drawSumAdd_any (A : Option Addr) (n c : Nat) (xs : List Int) (w0 w : World) (h : Byts w0 w0.heap.size A xs) (hn : xs.length = n) (hc : n ≤ c) (hm : c ≤ maxLen) (hlen : n ≤ 1048576) (hb0 : Below w0.heap.size w0 w) :
    Calls Try.prog 34 #[.slice A n c] w (GetsSI w) := by
  have l2 := Blk.new w 26 #[.int .i64 0, .bool false]
  go_enter Try.func34, Try.ntmps34
  go_wp2_with fail
  refine (open_any A n c xs w0 _ h hn hc hm hlen (hb0.alloc hb0.size _)).mono ?_
  rintro e w1 ⟨R, rfl, hRs, hR, hb⟩
  have hb1 : Below w.heap.size w w1 := (by repeat (first | exact bw_refl _ | assumption | apply bw_alloc | apply bw_drew | apply bw_drewN | (refine bw_trans ?_ (by assumption)) | (refine bw_set ?_ (by simp only [go_sem]; omega) _)))
  replace l2 := heap_keep hb l2
  rw [World.size_alloc] at hRs
  clear hb
  go_wp2_with fail
  refine (l20Sum_any R 0 _ (by omega) (by omega) _ hR (by omega)).mono ?_
  rintro e w2 ⟨v, b, rfl, hR2, hO⟩
  have hb2 := below_only hb1 hO (by omega)
  replace l2 := Blk.alloc (only_keep hO l2 (by omega)) (.cells #[.int .i64 v, .bool b] 26)
  have hRl := hR2.lt
  replace hR2 := hR2.alloc (.cells #[.int .i64 v, .bool b] 26)
  have hb3 := bw_alloc hb2 (.cells #[.int .i64 v, .bool b] 26)
  have l5 := Blk.new w2 26 #[.int .i64 v, .bool b]
  clear hO hb1 hR hb2
  go_upto_region 3 with fail
  obtain ⟨g5, hg5e⟩ : ∃ g, w2.heap.size = g := ⟨_, rfl⟩
  rw [hg5e] at hRl l5 ⊢
  clear hg5e
  have hR := hR2
  go_cut [3] (fun s wx => ∃ x : Int, s = .int .i64 x ∧ Below w.heap.size w wx ∧ isSum w.heap.size 26 wx)
  case first =>
    refine wp_region_draw (m := 11) (r := 0) (U := 60) (R := R) (G := w.heap.size) (N := (0+40)) (ks := [10, 11, 12, 13, 14, 15, 16, 17, 18, 3]) (E := isSum w.heap.size 26)
      (Fs := fun d => match d with | 3 => num | 10 => is (.agg #[.int .i64 v, .bool b]) | 11 => is (.pointer (some ⟨R, 0, none⟩)) | 12 => num | 13 => .lit 2 (fun _ => True) | 14 => is (.pointer (some ⟨R, 0, none⟩)) | 15 => upto (0) (12) | 16 => upto (0) (2) | 17 => .cell (fun _ => True) | 18 => num | _ => .any) (A := ?A) (by kernel_rfl) (by kernel_rfl) (by kernel_rfl) ?hA (by first | exact hR | assumption) ⟨_, _, l2⟩ (fun w1 w2 h k => isSum.keep (by omega) h k) ?steps ?after
    case hA => (intro tm; simp only [over, List.foldl_cons, List.foldl_nil, List.setIfInBounds_toArray, List.set_cons_zero, List.set_cons_succ]; exact rfl)
    case steps =>
      refine StepsR.cons (by (simp only [List.getElem?_toArray, List.getElem?_cons_zero]; rfl)) (fun K tm wc c hc hR hO hE hpre hK => ?_) ?_
      · have l5c := hO.keep l5 (by omega) (by omega)
        obtain ⟨n0, n1, m0, m1⟩ := cell2 l5c
        go_simp
        exact hK.out _ _ (hR.more (by omega)) (.inl (only_refl _ _)) rfl
      refine StepsR.cons (by (simp only [List.getElem?_toArray, List.getElem?_cons_succ, List.getElem?_cons_zero]; rfl)) (fun K tm wc c hc hR hO hE hpre hK => ?_) ?_
      · go_simp
        exact hK.out _ _ (hR.more (by omega)) (.inl (only_refl _ _)) (by first | exact rfl | exact congrArg (Value.int .i64) (IntWalk.i64_in _ (by omega)))
      refine StepsR.cons (by (simp only [List.getElem?_toArray, List.getElem?_cons_succ, List.getElem?_cons_zero]; rfl)) (fun K tm wc c hc hR hO hE hpre hK => ?_) ?_
      · have e11 : tm 11 = _ := (hpre 11 (by kernel_rfl))
        simp only [e11] at hK
        go_simp
        refine (l20Work_any R _ _ hR (by omega)).mono ?_
        rintro e w1 ⟨v, rfl, _, hR1, hO1⟩
        (try go_wp2_with fail)
        exact hK.out _ _ (hR1.more (by omega)) (.inl hO1) ⟨v, rfl⟩
      refine StepsR.cons (by (simp only [List.getElem?_toArray, List.getElem?_cons_succ, List.getElem?_cons_zero]; rfl)) (fun K tm wc c hc hR hO hE hpre hK => ?_) ?_
      · obtain ⟨u12, e12⟩ := (hpre 12 (by kernel_rfl))
        simp only [e12] at hK
        go_simp
        exact hK.out _ _ ((hR.alloc _).more (by omega)) (.inl (only_alloc (only_refl _ _) _)) (Fc.lit_new [u12, (1152921504606846977)] rfl hR.lt (by have := hR.lt; omega) rfl (fun _ _ => trivial))
      refine StepsR.cons (by (simp only [List.getElem?_toArray, List.getElem?_cons_succ, List.getElem?_cons_zero]; rfl)) (fun K tm wc c hc hR hO hE hpre hK => ?_) ?_
      · go_simp
        exact hK.out _ _ (hR.more (by omega)) (.inl (only_refl _ _)) (by first | exact rfl | exact congrArg (Value.int .i64) (IntWalk.i64_in _ (by omega)))
      refine StepsR.cons (by (simp only [List.getElem?_toArray, List.getElem?_cons_succ, List.getElem?_cons_zero]; rfl)) (fun K tm wc c hc hR hO hE hpre hK => ?_) ?_
      · have e14 : tm 14 = _ := (hpre 14 (by kernel_rfl))
        simp only [e14] at hK
        go_simp
        refine (pick_any R _ _ (by omega) (by omega) _ hR (by omega)).mono ?_
        rintro e w1 ⟨v, rfl, ⟨va, vb⟩, hR1, hO1⟩
        (try go_wp2_with fail)
        exact hK.out _ _ (hR1.more (by omega)) (.inl hO1) ⟨v, rfl, va, vb⟩
      refine StepsR.cons (by (simp only [List.getElem?_toArray, List.getElem?_cons_succ, List.getElem?_cons_zero]; rfl)) (fun K tm wc c hc hR hO hE hpre hK => ?_) ?_
      · obtain ⟨u15, e15, a15, b15⟩ := (hpre 15 (by kernel_rfl))
        simp only [e15] at hK
        go_simp
        exact hK.out _ _ (hR.more (by omega)) (.inl (only_refl _ _)) ⟨_, rfl, by first | omega | (rw [IntWalk.i64_in _ (by omega)]; omega) | (rw [Int.tdiv_eq_ediv_of_nonneg (by omega), IntWalk.i64_in _ (by omega)]; omega) | (rw [Int.tdiv_eq_ediv_of_nonneg (by omega)]; omega), by first | omega | (rw [IntWalk.i64_in _ (by omega)]; omega) | (rw [Int.tdiv_eq_ediv_of_nonneg (by omega), IntWalk.i64_in _ (by omega)]; omega) | (rw [Int.tdiv_eq_ediv_of_nonneg (by omega)]; omega)⟩
      refine StepsR.cons (by (simp only [List.getElem?_toArray, List.getElem?_cons_succ, List.getElem?_cons_zero]; rfl)) (fun K tm wc c hc hR hO hE hpre hK => ?_) ?_
      · obtain ⟨g13, e13, c13⟩ := Fc.at_lit (hpre 13 (by kernel_rfl))
        obtain ⟨u16, e16, a16, b16⟩ := (hpre 16 (by kernel_rfl))
        simp only [e13, e16] at hK
        have c13 := c13 u16 (by omega) (by omega)
        go_simp
        exact hK.out _ _ (hR.more (by omega)) (.inl (only_refl _ _)) c13
      refine StepsR.cons (by (simp only [List.getElem?_toArray, List.getElem?_cons_succ, List.getElem?_cons_zero]; rfl)) (fun K tm wc c hc hR hO hE hpre hK => ?_) ?_
      · obtain ⟨g17, k17, u17, e17, _, _, h17, p17⟩ := (hpre 17 (by kernel_rfl))
        simp only [e17] at hK
        go_simp
        exact hK.out _ _ (hR.more (by omega)) (.inl (only_refl _ _)) ⟨_, rfl⟩
      refine StepsR.cons (by (simp only [List.getElem?_toArray, List.getElem?_cons_succ, List.getElem?_cons_zero]; rfl)) (fun K tm wc c hc hR hO hE hpre hK => ?_) ?_
      · have e10 : tm 10 = _ := hpre 10 (by kernel_rfl)
        simp only [e10] at hK
        obtain ⟨a, b, l2c⟩ := hE
        obtain ⟨n0, n1, m0, m1⟩ := cell2 l2c
        go_simp
        exact hK.out undef _ ((hR.store2 l2c (by simp) (by simp) (by omega) _ _).more (by omega)) (.inr ⟨only_set (only_set (only_refl _ _) (p := ⟨w.heap.size, 0, none⟩) (.inl rfl) _) (p := ⟨w.heap.size, 1, none⟩) (.inl rfl) _, _, _, Blk.two l2c _ _⟩) trivial
      refine StepsR.cons (by (simp only [List.getElem?_toArray, List.getElem?_cons_succ, List.getElem?_cons_zero]; rfl)) (fun K tm wc c hc hR hO hE hpre hK => ?_) ?_
      · have f := hpre 18 (by kernel_rfl)
        go_simp
        exact hK.out _ _ (hR.more (by omega)) (.inl (only_refl _ _)) f
      exact StepsR.nil
    case after =>
      intro tm w' hR hO hE hf
      obtain ⟨u3, e3⟩ := (hf 3 (by kernel_rfl))
      refine wpAnyH_done (by kernel_rfl) ?_ _
      go_wp2
      go_meet
      exact ⟨_, rfl, below_only2 hb3 hO (by omega) (Nat.le_refl _), hE⟩
  case rest =>
    obtain ⟨x, rfl, hb4, v2, b2, l2⟩ := hcut
    obtain ⟨n0, n1, m0, m1⟩ := cell2 l2
    go_wp2
    refine bodyPost_ret (by simp only [results, Try.results34]; go_simp; all_goals (first | exact rfl | exact ⟨rfl, rfl⟩ | skip)) rfl ⟨v2, b2, x, rfl, hb4⟩
end Go.Proofs.Ytmpcoljollkfjaa
