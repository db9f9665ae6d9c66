/- The draw of the law PolyStored, and its walk; no condition. -/
import Derived.Test.YtdnklndemoinaaaPStored
import Derived.Test.YtdnklndemoinaaaPolyLaws
import Derived.Test.YtdnklndemoinaaaFDraw
namespace Go.Proofs.Ytdnklndemoinaaa
open Go.RowKit
set_option linter.unusedVariables false
set_option linter.unusedSimpArgs false
set_option maxHeartbeats 4000000

def GetsFLI (w : World) (e : Ending) (w' : World) : Prop := ∃ (W P : Int) (A : Option Addr) (c : Nat) (l : List Int) (k : Int), e = .returned (.tuple #[.agg #[.int .i64 W, .int .i64 P], .slice A l.length c, .int .i64 k]) ∧ l.length ≤ 200 ∧ Own w.heap.size w' A l.length c l ∧ Below w.heap.size w w'
def isFmt (g t : Nat) (w : World) : Prop := ∃ a b : Int, Blk w g t #[.int .i64 a, .int .i64 b]
theorem isFmt.keep {g t R : Nat} (hg : g ≠ R) {w1 w2 : World} (h : Only w1 w2 R) (k : isFmt g t w1) : isFmt g t w2 := by
  obtain ⟨a, b, k⟩ := k
  exact ⟨a, b, only_keep h k hg⟩
theorem below_only2 {w w1 w2 : World} {R G : Nat} (hb : Below w.heap.size w w1) (h : Only2 w1 w2 R G) (hR : w.heap.size ≤ R) (hG : w.heap.size ≤ G) : Below w.heap.size w w2 :=
  ⟨h.os.trans hb.os, h.tape.trans hb.tape, h.output.trans hb.output, Nat.le_trans hb.size h.size, fun i hi => (h.block i (Nat.lt_of_lt_of_le hi hb.size) (by omega) (by omega)).trans (hb.block i hi)⟩
theorem Own.only2 {B n c R G : Nat} {w w' : World} {A : Option Addr} {l : List Int} (h : Own B w A n c l) (hO : Only2 w w' R G) (hR : R < B) (hG : G < B) : Own B w' A n c l :=
  ⟨h.1, h.2.1, fun hp => by
    obtain ⟨g, e, hg, hr⟩ := h.2.2 hp
    exact ⟨g, e, hg, hr.of_block (hO.block g hr.lt (by omega) (by omega))⟩⟩
theorem drawPolyStored_any (A : Option Addr) (n c : Nat) (xs : List Int) (w0 w : World) (h : Byts w0 w0.heap.size A xs) (hn : xs.length = n) (hc : n ≤ c) (hm : c ≤ maxLen) (hlen : n ≤ 1048576) (hb0 : Below w0.heap.size w0 w) :
    Calls Try.prog 30 #[.slice A n c] w (GetsFLI w) := by
  have l2 := Blk.new w 32 #[.int .i64 0, .int .i64 0]
  go_enter Try.func30, Try.ntmps30
  go_wp2_with fail
  refine (open_any A n c xs w0 _ h hn hc hm hlen (hb0.alloc hb0.size _)).mono ?_
  rintro e w1 ⟨R, rfl, hRs, hR, hb⟩
  have hb1 : Below w.heap.size w w1 := (by repeat (first | exact bw_refl _ | assumption | apply bw_alloc | apply bw_drew | apply bw_drewN | (refine bw_trans ?_ (by assumption)) | (refine bw_set ?_ (by simp only [go_sem]; omega) _)))
  replace l2 := heap_keep hb l2
  rw [World.size_alloc] at hRs
  clear hb
  go_upto_region 2 with fail
  go_cut [6] (fun s wx => ∃ (g6 : Nat) (W P : Int), s = .pointer (some ⟨g6, 0, none⟩) ∧ R < g6 ∧ g6 < wx.heap.size ∧ Blk wx g6 32 #[.int .i64 W, .int .i64 P] ∧ isFmt w.heap.size 32 wx ∧ Rd wx R 20 ∧ Below w.heap.size w wx)
  case first =>
    go_wp2_with fail
    refine (l20Format_any R 0 _ (by omega) (by omega) _ hR (by omega)).mono ?_
    rintro e w2 ⟨W, P, rfl, hR2, hO⟩
    have hRl := hR2.lt
    go_wp2
    go_meet
    exact ⟨w2.heap.size, W, P, rfl, hRl, by rw [World.size_alloc]; omega, Blk.new _ _ _, ⟨_, _, Blk.alloc (only_keep hO l2 (by omega)) _⟩, (hR2.alloc _).more (by omega), bw_alloc (below_only hb1 hO (by omega)) _⟩
  case rest =>
    obtain ⟨g6, W, P, rfl, hRg, hg6, l6, hf2, hR, hbc⟩ := hcut
    clear l2 hb1
    have hA := App.empty wc wc.heap.size (Nat.le_refl _)
    have hsz0 : wc.heap.size ≤ (wc.alloc (.cells #[] 3)).heap.size := by rw [World.size_alloc]; omega
    have hR1 := hR.alloc (.cells #[] 3)
    have l61 := Blk.alloc l6 (.cells #[] 3)
    have hf21 : isFmt w.heap.size 32 (wc.alloc (.cells #[] 3)) := by obtain ⟨a, b, k⟩ := hf2; exact ⟨a, b, Blk.alloc k _⟩
    have hbc1 := bw_alloc hbc (.cells #[] 3)
    go_upto_region 4 with fail
    go_cut [7, 8] (fun s t wx => ∃ (x : Value) (j B : Nat), s = x ∧ t = .int .i64 j ∧ j ≤ 8 ∧ R < B ∧ g6 < B ∧ App wx B x [] ∧ B ≤ wx.heap.size ∧ Blk wx g6 32 #[.int .i64 W, .int .i64 P] ∧ isFmt w.heap.size 32 wx ∧ Rd wx R 30 ∧ Below w.heap.size w wx)
    case first =>
      go_wp2_with fail
      refine (pick_any R _ _ (by omega) (by omega) _ hR1 (by omega)).mono ?_
      rintro e w3 ⟨v3, rfl, ⟨va3, vb3⟩, hR3, hO3⟩
      go_wp2_with fail
      refine (pick_any R _ _ (by omega) (by omega) _ hR3 (by omega)).mono ?_
      rintro e w4 ⟨v4, rfl, ⟨va4, vb4⟩, hR4, hO4⟩
      have hO := only_trans hO3 hO4
      have hq : 0 ≤ v4 / 8 ∧ v4 / 8 ≤ 1 := by omega
      have hq2 : v4.tdiv 8 = v4 / 8 := Int.tdiv_eq_ediv_of_nonneg va4
      have hsz := hO.size
      rw [World.size_alloc] at hsz
      obtain ⟨j, hj⟩ := Int.eq_ofNat_of_zero_le (show 0 ≤ v3 + v4 / 8 * 3 by omega)
      go_wp2
      go_meet
      exact ⟨_, j, wc.heap.size, rfl, by first | (rw [hj]) | (simp only [hj]), by omega, by omega, hg6, hA.only hO (by omega), by omega, l61.only hO (by omega), isFmt.keep (by omega) hO hf21, hR4.more (by omega), below_only hbc1 hO (by omega)⟩
    case rest =>
      obtain ⟨x, j, B, rfl, rfl, hj8, hRB, hgB, hP, hszx, l6, hf2, hR, hbx⟩ := hcut
      clear l61 hf21 hbc1 hR1 hA hsz0 hg6 hbc
      have hwB : w.heap.size < B := by omega
      go_wp2
      go_loopw [7, 8] (fun v i wr => ∃ (x : Value) (j : Nat) (l : List Int), x = v ∧ i = .int .i64 j ∧ j + l.length ≤ 8 ∧ App wr B x l ∧ B ≤ wr.heap.size ∧ Blk wr g6 32 #[.int .i64 W, .int .i64 P] ∧ isFmt w.heap.size 32 wr ∧ Rd wr R (30 + 70 * (8 - j)) ∧ Below w.heap.size w wr) (fun _ i _ => (intOf i).toNat)
      case atStart => exact ⟨_, j, [], rfl, rfl, by simp; omega, hP, hszx, l6, hf2, hR.more (by omega), hbx⟩
      case round =>
        obtain ⟨x, j, l, rfl, rfl, hj, hP, hszr, l6, hf2, hR, hbr⟩ := hrel
        clear hbx hszx
        obtain ⟨n0, n1, m0, m1⟩ := fcell2 l6
        by_cases hlt : 0 < j
        · go_wp2_with fail
          refine (l20Stored_any R _ W P _ (by omega) (by omega) _ hR (by omega)).mono ?_
          rintro e w3 ⟨u, rfl, _, hR3, hO⟩
          replace hP := hP.only hO hRB
          replace l6 := Blk.only l6 hO (by omega)
          replace hf2 := isFmt.keep (by omega) hO hf2
          have hb3 := below_only hbr hO (by omega)
          have hsz := hO.size
          have hszB : B ≤ w3.heap.size := by omega
          clear hO hR n0 n1 m0 m1
          go_wp2_with (at_builtin; refine wpList_append_int rfl (.tmp 25) (.tmp 29) rfl B x l u w3 w3 rfl rfl hP (by omega) (Below.refl _ _) hszB ?_; rintro v2 w4 hP2 hb4)
          go_roundw
          case rel => exact ⟨v2, j - 1, l ++ [u], rfl, by (have e : ((j - 1 : Nat) : Int) = (j : Int) - 1 := by omega); rw [e], by simp; omega, hP2, Nat.le_trans hszB hb4.size, l6.below hb4 hgB, (by obtain ⟨a, b, k⟩ := hf2; exact ⟨a, b, k.below hb4 hwB⟩), (hR3.below hb4 hRB).more (by omega), below_both hb3 hb4 (by omega)⟩
          case measure => simp [intOf] <;> omega
        · obtain ⟨A2, c2, rfl, ho⟩ := hP.form
          clear hP
          go_upto_region 8 with fail
          refine wp_region_draw (m := 8) (r := 0) (U := 60) (R := R) (G := w.heap.size) (N := (30+70*(8-j))) (ks := [31, 32, 33, 34, 35, 3, 4]) (E := isFmt w.heap.size 32)
            (Fs := fun d => match d with | 3 => is (.slice A2 l.length c2) | 4 => num | 31 => is (.agg #[.int .i64 W, .int .i64 P]) | 32 => is (.slice A2 l.length c2) | 33 => is (.pointer (some ⟨R, 0, none⟩)) | 34 => is (.agg #[.int .i64 W, .int .i64 P]) | 35 => num | _ => .any) (A := ?A) (by kernel_rfl) (by kernel_rfl) (by kernel_rfl) ?hA (by first | exact hR | assumption) hf2 (fun w1 w2 h k => isFmt.keep (by omega) h k) ?steps ?after
          case hA => (intro tm; simp only [over, List.foldl_cons, List.foldl_nil, List.setIfInBounds_toArray, List.set_cons_zero, List.set_cons_succ]; exact rfl)
          case steps =>
            refine StepsR.cons (by (simp only [List.getElem?_toArray, List.getElem?_cons_zero]; rfl)) (fun K tm wc c hc hR hO hE hpre hK => ?_) ?_
            · have l6c := hO.keep l6 (by omega) (by omega)
              obtain ⟨n0, n1, m0, m1⟩ := fcell2 l6c
              go_simp
              exact hK.out _ _ (hR.more (by omega)) (.inl (only_refl _ _)) rfl
            refine StepsR.cons (by (simp only [List.getElem?_toArray, List.getElem?_cons_succ, List.getElem?_cons_zero]; rfl)) (fun K tm wc c hc hR hO hE hpre hK => ?_) ?_
            · go_simp
              exact hK.out _ _ (hR.more (by omega)) (.inl (only_refl _ _)) (by first | exact rfl | exact congrArg (Value.int .i64) (IntWalk.i64_in _ (by omega)))
            refine StepsR.cons (by (simp only [List.getElem?_toArray, List.getElem?_cons_succ, List.getElem?_cons_zero]; rfl)) (fun K tm wc c hc hR hO hE hpre hK => ?_) ?_
            · go_simp
              exact hK.out _ _ (hR.more (by omega)) (.inl (only_refl _ _)) (by first | exact rfl | exact congrArg (Value.int .i64) (IntWalk.i64_in _ (by omega)))
            refine StepsR.cons (by (simp only [List.getElem?_toArray, List.getElem?_cons_succ, List.getElem?_cons_zero]; rfl)) (fun K tm wc c hc hR hO hE hpre hK => ?_) ?_
            · have l6c := hO.keep l6 (by omega) (by omega)
              obtain ⟨n0, n1, m0, m1⟩ := fcell2 l6c
              go_simp
              exact hK.out _ _ (hR.more (by omega)) (.inl (only_refl _ _)) rfl
            refine StepsR.cons (by (simp only [List.getElem?_toArray, List.getElem?_cons_succ, List.getElem?_cons_zero]; rfl)) (fun K tm wc c hc hR hO hE hpre hK => ?_) ?_
            · have e33 : tm 33 = _ := hpre 33 (by kernel_rfl)
              have e34 : tm 34 = _ := hpre 34 (by kernel_rfl)
              simp only [e33, e34] at hK
              go_simp
              refine (l20Stored_any R _ W P _ (by omega) (by omega) _ hR (by omega)).mono ?_
              rintro e w1 ⟨v, rfl, _, hR1, hO1⟩
              (try go_wp2_with fail)
              exact hK.out _ _ (hR1.more (by omega)) (.inl hO1) ⟨v, rfl⟩
            refine StepsR.cons (by (simp only [List.getElem?_toArray, List.getElem?_cons_succ, List.getElem?_cons_zero]; rfl)) (fun K tm wc c hc hR hO hE hpre hK => ?_) ?_
            · have e31 : tm 31 = _ := hpre 31 (by kernel_rfl)
              simp only [e31] at hK
              obtain ⟨a, b, l2c⟩ := hE
              obtain ⟨n0, n1, m0, m1⟩ := fcell2 l2c
              go_simp
              exact hK.out undef _ ((hR.store2 l2c (by simp) (by simp) (by omega) _ _).more (by omega)) (.inr ⟨only_set (only_set (only_refl _ _) (p := ⟨w.heap.size, 0, none⟩) (.inl rfl) _) (p := ⟨w.heap.size, 1, none⟩) (.inl rfl) _, _, _, Blk.two l2c _ _⟩) trivial
            refine StepsR.cons (by (simp only [List.getElem?_toArray, List.getElem?_cons_succ, List.getElem?_cons_zero]; rfl)) (fun K tm wc c hc hR hO hE hpre hK => ?_) ?_
            · have f := hpre 32 (by kernel_rfl)
              go_simp
              exact hK.out _ _ (hR.more (by omega)) (.inl (only_refl _ _)) f
            refine StepsR.cons (by (simp only [List.getElem?_toArray, List.getElem?_cons_succ, List.getElem?_cons_zero]; rfl)) (fun K tm wc c hc hR hO hE hpre hK => ?_) ?_
            · have f := hpre 35 (by kernel_rfl)
              go_simp
              exact hK.out _ _ (hR.more (by omega)) (.inl (only_refl _ _)) f
            exact StepsR.nil
          case after =>
            intro tm w' hR hO hE hf
            have e3 : tm 3 = _ := (hf 3 (by kernel_rfl))
            obtain ⟨u4, e4⟩ := (hf 4 (by kernel_rfl))
            refine wpAnyH_done (by kernel_rfl) ?_ _
            obtain ⟨W2, P2, l2⟩ := hE
            obtain ⟨t0, t1, f0, f1⟩ := fcell2 l2
            go_wp2
            refine bodyPost_ret (by simp only [results, Try.results30]; go_simp; all_goals (first | exact rfl | exact ⟨rfl, rfl⟩ | skip)) rfl ⟨W2, P2, A2, c2, l, u4, rfl, by omega, (ho.only2 hO hRB hwB).more (by omega), below_only2 hbr hO (by omega) (Nat.le_refl _)⟩
end Go.Proofs.Ytdnklndemoinaaa
