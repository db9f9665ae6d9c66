/- The draws of the laws of rotations return some vector and some angle; no condition. -/
import Derived.Test.YtndpmcegealhiaaVDraw
import Derived.Test.YtndpmcegealhiaaAlive
namespace Go.Proofs.Ytndpmcegealhiaa
open Go.RowKit
set_option linter.unusedVariables false
set_option linter.unusedSimpArgs false
set_option maxHeartbeats 4000000

theorem l20Angle_any (R N : Nat) (w : World) (hR : Rd w R N) (hN : N ≤ 1073741824) : Calls Try.prog 22 #[.pointer (some ⟨R, 0, none⟩)] w (DrawsI (fun _ => True) w R (N + 60)) := by
  go_enter Try.func22, Try.ntmps22
  go_upto_region 1 with fail
  refine wp_text_draw (m := 31) (U := 1) (R := R) (G := R) (N := N) (ks := [3, 4, 5, 6, 7, 8, 9, 10, 11, 12, 13, 14, 15, 16, 17, 18, 19, 20, 21, 22, 23, 24, 25, 26, 27, 28, 29, 30, 31, 32, 33]) (E := fun _ => True)
    (Fs := fun d => match d with | 3 => is (.pointer (some ⟨R, 0, none⟩)) | 4 => upto (0) (256) | 5 => num | 6 => is (.pointer (some ⟨R, 0, none⟩)) | 7 => upto (0) (256) | 8 => num | 9 => is (.pointer (some ⟨R, 0, none⟩)) | 10 => upto (0) (9) | 11 => num | 12 => is (.pointer (some ⟨R, 0, none⟩)) | 13 => upto (0) (9) | 14 => num | 15 => num | 16 => is (.pointer (some ⟨R, 0, none⟩)) | 17 => upto (0) (256) | 18 => num | 19 => is (.pointer (some ⟨R, 0, none⟩)) | 20 => upto (0) (256) | 21 => num | 22 => is (.pointer (some ⟨R, 0, none⟩)) | 23 => upto (0) (256) | 24 => num | 25 => num | 26 => .lit 8 (fun _ => True) | 27 => .lit 10 (fun x => (0) ≤ x ∧ x < (8)) | 28 => is (.pointer (some ⟨R, 0, none⟩)) | 29 => upto (0) (10) | 30 => .cell (fun x => (0) ≤ x ∧ x < (8)) | 31 => upto (0) (8) | 32 => .cell (fun _ => True) | 33 => num | _ => .any) (A := ?A) (rest := ?rest) (by kernel_rfl) ?hrest ?hA (by first | exact hR | assumption) trivial (fun _ _ _ _ => trivial) ?steps ?after
  case hrest => (simp only [List.drop_succ_cons, List.drop_zero]; exact rfl)
  case hA => (intro tm; simp only [over, List.foldl_cons, List.foldl_nil, List.setIfInBounds_toArray, List.set_cons_zero, List.set_cons_succ]; exact rfl)
  case steps =>
    refine StepsR.cons (by (simp only [List.getElem?_toArray, List.getElem?_cons_zero]; rfl)) (fun K tm wc c hc hR hO hE hpre hK => ?_) ?_
    · go_simp
      exact hK.out _ _ (hR.more (by omega)) (.inl (only_refl _ _)) (by first | exact rfl | exact congrArg (Value.int .i64) (IntWalk.i64_in _ (by omega)))
    refine StepsR.cons (by (simp only [List.getElem?_toArray, List.getElem?_cons_succ, List.getElem?_cons_zero]; rfl)) (fun K tm wc c hc hR hO hE hpre hK => ?_) ?_
    · have e3 : tm 3 = _ := (hpre 3 (by kernel_rfl))
      simp only [e3] at hK
      go_simp
      refine (pick_any R _ _ (by omega) (by omega) _ hR (by omega)).mono ?_
      rintro e w1 ⟨v, rfl, ⟨va, vb⟩, hR1, hO1⟩
      (try go_wp2_with fail)
      exact hK.out _ _ (hR1.more (by omega)) (.inl hO1) ⟨v, rfl, va, vb⟩
    refine StepsR.cons (by (simp only [List.getElem?_toArray, List.getElem?_cons_succ, List.getElem?_cons_zero]; rfl)) (fun K tm wc c hc hR hO hE hpre hK => ?_) ?_
    · obtain ⟨u4, e4, a4, b4⟩ := (hpre 4 (by kernel_rfl))
      simp only [e4] at hK
      go_simp
      exact hK.out _ _ (hR.more (by omega)) (.inl (only_refl _ _)) ⟨_, rfl⟩
    refine StepsR.cons (by (simp only [List.getElem?_toArray, List.getElem?_cons_succ, List.getElem?_cons_zero]; rfl)) (fun K tm wc c hc hR hO hE hpre hK => ?_) ?_
    · go_simp
      exact hK.out _ _ (hR.more (by omega)) (.inl (only_refl _ _)) (by first | exact rfl | exact congrArg (Value.int .i64) (IntWalk.i64_in _ (by omega)))
    refine StepsR.cons (by (simp only [List.getElem?_toArray, List.getElem?_cons_succ, List.getElem?_cons_zero]; rfl)) (fun K tm wc c hc hR hO hE hpre hK => ?_) ?_
    · have e6 : tm 6 = _ := (hpre 6 (by kernel_rfl))
      simp only [e6] at hK
      go_simp
      refine (pick_any R _ _ (by omega) (by omega) _ hR (by omega)).mono ?_
      rintro e w1 ⟨v, rfl, ⟨va, vb⟩, hR1, hO1⟩
      (try go_wp2_with fail)
      exact hK.out _ _ (hR1.more (by omega)) (.inl hO1) ⟨v, rfl, va, vb⟩
    refine StepsR.cons (by (simp only [List.getElem?_toArray, List.getElem?_cons_succ, List.getElem?_cons_zero]; rfl)) (fun K tm wc c hc hR hO hE hpre hK => ?_) ?_
    · obtain ⟨u7, e7, a7, b7⟩ := (hpre 7 (by kernel_rfl))
      simp only [e7] at hK
      go_simp
      exact hK.out _ _ (hR.more (by omega)) (.inl (only_refl _ _)) ⟨_, rfl⟩
    refine StepsR.cons (by (simp only [List.getElem?_toArray, List.getElem?_cons_succ, List.getElem?_cons_zero]; rfl)) (fun K tm wc c hc hR hO hE hpre hK => ?_) ?_
    · go_simp
      exact hK.out _ _ (hR.more (by omega)) (.inl (only_refl _ _)) (by first | exact rfl | exact congrArg (Value.int .i64) (IntWalk.i64_in _ (by omega)))
    refine StepsR.cons (by (simp only [List.getElem?_toArray, List.getElem?_cons_succ, List.getElem?_cons_zero]; rfl)) (fun K tm wc c hc hR hO hE hpre hK => ?_) ?_
    · have e9 : tm 9 = _ := (hpre 9 (by kernel_rfl))
      simp only [e9] at hK
      go_simp
      refine (pick_any R _ _ (by omega) (by omega) _ hR (by omega)).mono ?_
      rintro e w1 ⟨v, rfl, ⟨va, vb⟩, hR1, hO1⟩
      (try go_wp2_with fail)
      exact hK.out _ _ (hR1.more (by omega)) (.inl hO1) ⟨v, rfl, va, vb⟩
    refine StepsR.cons (by (simp only [List.getElem?_toArray, List.getElem?_cons_succ, List.getElem?_cons_zero]; rfl)) (fun K tm wc c hc hR hO hE hpre hK => ?_) ?_
    · obtain ⟨u10, e10, a10, b10⟩ := (hpre 10 (by kernel_rfl))
      simp only [e10] at hK
      go_simp
      exact hK.out _ _ (hR.more (by omega)) (.inl (only_refl _ _)) ⟨_, rfl⟩
    refine StepsR.cons (by (simp only [List.getElem?_toArray, List.getElem?_cons_succ, List.getElem?_cons_zero]; rfl)) (fun K tm wc c hc hR hO hE hpre hK => ?_) ?_
    · go_simp
      exact hK.out _ _ (hR.more (by omega)) (.inl (only_refl _ _)) (by first | exact rfl | exact congrArg (Value.int .i64) (IntWalk.i64_in _ (by omega)))
    refine StepsR.cons (by (simp only [List.getElem?_toArray, List.getElem?_cons_succ, List.getElem?_cons_zero]; rfl)) (fun K tm wc c hc hR hO hE hpre hK => ?_) ?_
    · have e12 : tm 12 = _ := (hpre 12 (by kernel_rfl))
      simp only [e12] at hK
      go_simp
      refine (pick_any R _ _ (by omega) (by omega) _ hR (by omega)).mono ?_
      rintro e w1 ⟨v, rfl, ⟨va, vb⟩, hR1, hO1⟩
      (try go_wp2_with fail)
      exact hK.out _ _ (hR1.more (by omega)) (.inl hO1) ⟨v, rfl, va, vb⟩
    refine StepsR.cons (by (simp only [List.getElem?_toArray, List.getElem?_cons_succ, List.getElem?_cons_zero]; rfl)) (fun K tm wc c hc hR hO hE hpre hK => ?_) ?_
    · obtain ⟨u13, e13, a13, b13⟩ := (hpre 13 (by kernel_rfl))
      simp only [e13] at hK
      go_simp
      exact hK.out _ _ (hR.more (by omega)) (.inl (only_refl _ _)) ⟨_, rfl⟩
    refine StepsR.cons (by (simp only [List.getElem?_toArray, List.getElem?_cons_succ, List.getElem?_cons_zero]; rfl)) (fun K tm wc c hc hR hO hE hpre hK => ?_) ?_
    · obtain ⟨u14, e14⟩ := (hpre 14 (by kernel_rfl))
      simp only [e14] at hK
      go_simp
      exact hK.out _ _ (hR.more (by omega)) (.inl (only_refl _ _)) ⟨_, rfl⟩
    refine StepsR.cons (by (simp only [List.getElem?_toArray, List.getElem?_cons_succ, List.getElem?_cons_zero]; rfl)) (fun K tm wc c hc hR hO hE hpre hK => ?_) ?_
    · go_simp
      exact hK.out _ _ (hR.more (by omega)) (.inl (only_refl _ _)) (by first | exact rfl | exact congrArg (Value.int .i64) (IntWalk.i64_in _ (by omega)))
    refine StepsR.cons (by (simp only [List.getElem?_toArray, List.getElem?_cons_succ, List.getElem?_cons_zero]; rfl)) (fun K tm wc c hc hR hO hE hpre hK => ?_) ?_
    · have e16 : tm 16 = _ := (hpre 16 (by kernel_rfl))
      simp only [e16] at hK
      go_simp
      refine (pick_any R _ _ (by omega) (by omega) _ hR (by omega)).mono ?_
      rintro e w1 ⟨v, rfl, ⟨va, vb⟩, hR1, hO1⟩
      (try go_wp2_with fail)
      exact hK.out _ _ (hR1.more (by omega)) (.inl hO1) ⟨v, rfl, va, vb⟩
    refine StepsR.cons (by (simp only [List.getElem?_toArray, List.getElem?_cons_succ, List.getElem?_cons_zero]; rfl)) (fun K tm wc c hc hR hO hE hpre hK => ?_) ?_
    · obtain ⟨u17, e17, a17, b17⟩ := (hpre 17 (by kernel_rfl))
      simp only [e17] at hK
      go_simp
      exact hK.out _ _ (hR.more (by omega)) (.inl (only_refl _ _)) ⟨_, rfl⟩
    refine StepsR.cons (by (simp only [List.getElem?_toArray, List.getElem?_cons_succ, List.getElem?_cons_zero]; rfl)) (fun K tm wc c hc hR hO hE hpre hK => ?_) ?_
    · go_simp
      exact hK.out _ _ (hR.more (by omega)) (.inl (only_refl _ _)) (by first | exact rfl | exact congrArg (Value.int .i64) (IntWalk.i64_in _ (by omega)))
    refine StepsR.cons (by (simp only [List.getElem?_toArray, List.getElem?_cons_succ, List.getElem?_cons_zero]; rfl)) (fun K tm wc c hc hR hO hE hpre hK => ?_) ?_
    · have e19 : tm 19 = _ := (hpre 19 (by kernel_rfl))
      simp only [e19] at hK
      go_simp
      refine (pick_any R _ _ (by omega) (by omega) _ hR (by omega)).mono ?_
      rintro e w1 ⟨v, rfl, ⟨va, vb⟩, hR1, hO1⟩
      (try go_wp2_with fail)
      exact hK.out _ _ (hR1.more (by omega)) (.inl hO1) ⟨v, rfl, va, vb⟩
    refine StepsR.cons (by (simp only [List.getElem?_toArray, List.getElem?_cons_succ, List.getElem?_cons_zero]; rfl)) (fun K tm wc c hc hR hO hE hpre hK => ?_) ?_
    · obtain ⟨u18, e18⟩ := (hpre 18 (by kernel_rfl))
      obtain ⟨u20, e20, a20, b20⟩ := (hpre 20 (by kernel_rfl))
      simp only [e18, e20] at hK
      go_simp
      exact hK.out _ _ (hR.more (by omega)) (.inl (only_refl _ _)) ⟨_, rfl⟩
    refine StepsR.cons (by (simp only [List.getElem?_toArray, List.getElem?_cons_succ, List.getElem?_cons_zero]; rfl)) (fun K tm wc c hc hR hO hE hpre hK => ?_) ?_
    · go_simp
      exact hK.out _ _ (hR.more (by omega)) (.inl (only_refl _ _)) (by first | exact rfl | exact congrArg (Value.int .i64) (IntWalk.i64_in _ (by omega)))
    refine StepsR.cons (by (simp only [List.getElem?_toArray, List.getElem?_cons_succ, List.getElem?_cons_zero]; rfl)) (fun K tm wc c hc hR hO hE hpre hK => ?_) ?_
    · have e22 : tm 22 = _ := (hpre 22 (by kernel_rfl))
      simp only [e22] at hK
      go_simp
      refine (pick_any R _ _ (by omega) (by omega) _ hR (by omega)).mono ?_
      rintro e w1 ⟨v, rfl, ⟨va, vb⟩, hR1, hO1⟩
      (try go_wp2_with fail)
      exact hK.out _ _ (hR1.more (by omega)) (.inl hO1) ⟨v, rfl, va, vb⟩
    refine StepsR.cons (by (simp only [List.getElem?_toArray, List.getElem?_cons_succ, List.getElem?_cons_zero]; rfl)) (fun K tm wc c hc hR hO hE hpre hK => ?_) ?_
    · obtain ⟨u23, e23, a23, b23⟩ := (hpre 23 (by kernel_rfl))
      simp only [e23] at hK
      go_simp
      exact hK.out _ _ (hR.more (by omega)) (.inl (only_refl _ _)) ⟨_, rfl⟩
    refine StepsR.cons (by (simp only [List.getElem?_toArray, List.getElem?_cons_succ, List.getElem?_cons_zero]; rfl)) (fun K tm wc c hc hR hO hE hpre hK => ?_) ?_
    · obtain ⟨u24, e24⟩ := (hpre 24 (by kernel_rfl))
      simp only [e24] at hK
      go_simp
      exact hK.out _ _ (hR.more (by omega)) (.inl (only_refl _ _)) ⟨_, rfl⟩
    refine StepsR.cons (by (simp only [List.getElem?_toArray, List.getElem?_cons_succ, List.getElem?_cons_zero]; rfl)) (fun K tm wc c hc hR hO hE hpre hK => ?_) ?_
    · obtain ⟨u5, e5⟩ := (hpre 5 (by kernel_rfl))
      obtain ⟨u8, e8⟩ := (hpre 8 (by kernel_rfl))
      obtain ⟨u11, e11⟩ := (hpre 11 (by kernel_rfl))
      obtain ⟨u15, e15⟩ := (hpre 15 (by kernel_rfl))
      obtain ⟨u21, e21⟩ := (hpre 21 (by kernel_rfl))
      obtain ⟨u25, e25⟩ := (hpre 25 (by kernel_rfl))
      simp only [e5, e8, e11, e15, e21, e25] at hK
      go_simp
      exact hK.out _ _ ((hR.alloc _).more (by omega)) (.inl (only_alloc (only_refl _ _) _)) (Fc.lit_new [u5, u8, u11, u15, u21, u25, (1152921504606846976), (1152921504606846977)] rfl hR.lt hR.lt rfl (fun _ _ => trivial))
    refine StepsR.cons (by (simp only [List.getElem?_toArray, List.getElem?_cons_succ, List.getElem?_cons_zero]; rfl)) (fun K tm wc c hc hR hO hE hpre hK => ?_) ?_
    · go_simp
      exact hK.out _ _ ((hR.alloc _).more (by omega)) (.inl (only_alloc (only_refl _ _) _)) (Fc.lit_new [(0), (0), (0), (1), (2), (3), (4), (5), (6), (7)] rfl hR.lt hR.lt rfl (by decide))
    refine StepsR.cons (by (simp only [List.getElem?_toArray, List.getElem?_cons_succ, List.getElem?_cons_zero]; rfl)) (fun K tm wc c hc hR hO hE hpre hK => ?_) ?_
    · go_simp
      exact hK.out _ _ (hR.more (by omega)) (.inl (only_refl _ _)) (by first | exact rfl | exact congrArg (Value.int .i64) (IntWalk.i64_in _ (by omega)))
    refine StepsR.cons (by (simp only [List.getElem?_toArray, List.getElem?_cons_succ, List.getElem?_cons_zero]; rfl)) (fun K tm wc c hc hR hO hE hpre hK => ?_) ?_
    · have e28 : tm 28 = _ := (hpre 28 (by kernel_rfl))
      simp only [e28] at hK
      go_simp
      refine (pick_any R _ _ (by omega) (by omega) _ hR (by omega)).mono ?_
      rintro e w1 ⟨v, rfl, ⟨va, vb⟩, hR1, hO1⟩
      (try go_wp2_with fail)
      exact hK.out _ _ (hR1.more (by omega)) (.inl hO1) ⟨v, rfl, va, vb⟩
    refine StepsR.cons (by (simp only [List.getElem?_toArray, List.getElem?_cons_succ, List.getElem?_cons_zero]; rfl)) (fun K tm wc c hc hR hO hE hpre hK => ?_) ?_
    · obtain ⟨g27, e27, c27⟩ := Fc.at_lit (hpre 27 (by kernel_rfl))
      obtain ⟨u29, e29, a29, b29⟩ := (hpre 29 (by kernel_rfl))
      simp only [e27, e29] at hK
      have c27 := c27 u29 (by omega) (by omega)
      go_simp
      exact hK.out _ _ (hR.more (by omega)) (.inl (only_refl _ _)) c27
    refine StepsR.cons (by (simp only [List.getElem?_toArray, List.getElem?_cons_succ, List.getElem?_cons_zero]; rfl)) (fun K tm wc c hc hR hO hE hpre hK => ?_) ?_
    · obtain ⟨g30, k30, u30, e30, _, _, h30, p30⟩ := (hpre 30 (by kernel_rfl))
      simp only [e30] at hK
      go_simp
      exact hK.out _ _ (hR.more (by omega)) (.inl (only_refl _ _)) ⟨_, rfl, p30.1, p30.2⟩
    refine StepsR.cons (by (simp only [List.getElem?_toArray, List.getElem?_cons_succ, List.getElem?_cons_zero]; rfl)) (fun K tm wc c hc hR hO hE hpre hK => ?_) ?_
    · obtain ⟨g26, e26, c26⟩ := Fc.at_lit (hpre 26 (by kernel_rfl))
      obtain ⟨u31, e31, a31, b31⟩ := (hpre 31 (by kernel_rfl))
      simp only [e26, e31] at hK
      have c26 := c26 u31 (by omega) (by omega)
      go_simp
      exact hK.out _ _ (hR.more (by omega)) (.inl (only_refl _ _)) c26
    refine StepsR.cons (by (simp only [List.getElem?_toArray, List.getElem?_cons_succ, List.getElem?_cons_zero]; rfl)) (fun K tm wc c hc hR hO hE hpre hK => ?_) ?_
    · obtain ⟨g32, k32, u32, e32, _, _, h32, p32⟩ := (hpre 32 (by kernel_rfl))
      simp only [e32] at hK
      go_simp
      exact hK.out _ _ (hR.more (by omega)) (.inl (only_refl _ _)) ⟨_, rfl⟩
    exact StepsR.nil
  case after =>
    intro tm w' hR hO hE hf
    obtain ⟨u33, e33⟩ := (hf 33 (by kernel_rfl))
    replace hO := hO.one (.inl rfl)
    go_wp2
    go_ret
    exact ⟨_, rfl, trivial, hR.more (by omega), hO⟩
def GetsI (w : World) (e : Ending) (w' : World) : Prop := ∃ v : Int, e = .returned (.int .i64 v) ∧ Below w.heap.size w w'
def GetsVI (w : World) (e : Ending) (w' : World) : Prop := ∃ X Y v : Int, e = .returned (.tuple #[.agg #[.int .i64 X, .int .i64 Y], .int .i64 v]) ∧ Below w.heap.size w w'
theorem drawCosSin_any (A : Option Addr) (n c : Nat) (xs : List Int) (w0 w : World) (h : Byts w0 w0.heap.size A xs) (hn : xs.length = n) (hc : n ≤ c) (hm : c ≤ maxLen) (hlen : n ≤ 1048576) (hb0 : Below w0.heap.size w0 w) :
    Calls Try.prog 15 #[.slice A n c] w (GetsI w) := by
  go_enter Try.func15, Try.ntmps15
  go_wp2_with fail
  refine (open_any A n c xs w0 _ h hn hc hm hlen hb0).mono ?_
  rintro e w1 ⟨R, rfl, hRs, hR, hb⟩
  go_wp2_with fail
  refine (l20Angle_any R _ _ hR (by omega)).mono ?_
  rintro e w2 ⟨v, rfl, -, hR2, hO⟩
  have hb2 := below_only hb hO hRs
  go_wp2
  go_ret
  exact ⟨v, rfl, hb2⟩
theorem drawRotateVector_any (A : Option Addr) (n c : Nat) (xs : List Int) (w0 w : World) (h : Byts w0 w0.heap.size A xs) (hn : xs.length = n) (hc : n ≤ c) (hm : c ≤ maxLen) (hlen : n ≤ 1048576) (hb0 : Below w0.heap.size w0 w) :
    Calls Try.prog 7 #[.slice A n c] w (GetsVI w) := by
  have l2 := Blk.new w 24 #[.int .i64 0, .int .i64 0]
  go_enter Try.func7, Try.ntmps7
  go_wp2_with fail
  refine (open_any A n c xs w0 _ h hn hc hm hlen (hb0.alloc hb0.size _)).mono ?_
  rintro e w1 ⟨R, rfl, hRs, hR, hb⟩
  have hb1 : Below w.heap.size w w1 := (by repeat (first | exact bw_refl _ | assumption | apply bw_alloc | apply bw_drew | apply bw_drewN | (refine bw_trans ?_ (by assumption)) | (refine bw_set ?_ (by simp only [go_sem]; omega) _)))
  replace l2 := heap_keep hb l2
  rw [World.size_alloc] at hRs
  clear hb
  go_wp2_with fail
  refine (l20Vector_any R 0 _ _ (by omega) (by omega) (by omega) (by omega) _ hR (by omega)).mono ?_
  rintro e w2 ⟨X, Y, rfl, hR2, hO⟩
  have hb2 := below_only hb1 hO (by omega)
  replace l2 := only_keep hO l2 (by omega)
  clear hO hb1 hR
  go_wp2_with fail
  refine (l20Angle_any R _ _ hR2 (by omega)).mono ?_
  rintro e w3 ⟨v, rfl, -, hR3, hO⟩
  have hb3 := below_only hb2 hO (by omega)
  replace l2 := only_keep hO l2 (by omega)
  clear hO hb2 hR2 hR3
  have n0 := Blk.cell l2 0
  have n1 := Blk.cell l2 1
  have m0 := Blk.frozen l2 0
  have m1 := Blk.frozen l2 1
  simp at n0 n1
  go_wp2
  refine bodyPost_ret (by simp only [results, Try.results7]; go_simp; all_goals (first | exact rfl | exact ⟨rfl, rfl⟩ | skip)) rfl ⟨X, Y, v, rfl, (by repeat (first | exact bw_refl _ | assumption | apply bw_alloc | apply bw_drew | apply bw_drewN | (refine bw_trans ?_ (by assumption)) | (refine bw_set ?_ (by simp only [go_sem]; omega) _)))⟩
end Go.Proofs.Ytndpmcegealhiaa
