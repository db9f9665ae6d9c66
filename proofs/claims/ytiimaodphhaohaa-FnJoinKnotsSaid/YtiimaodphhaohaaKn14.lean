/- The walk of the law ExactTurnKnots; no condition. -/
import Derived.Test.YtiimaodphhaohaaKn13
namespace Go.Proofs.Ytiimaodphhaohaa
open Go.RowKit
set_option linter.unusedVariables false
set_option linter.unusedSimpArgs false
set_option maxHeartbeats 2000000

theorem blk_eq {a b : Nat} (e : (some ⟨a, 0, none⟩ : Option Addr) = some ⟨b, 0, none⟩) : a = b := by cases e; rfl
theorem ite_blk {n g : Nat} {A : Option Addr} (e : (if n = 0 then none else A) = some ⟨g, 0, none⟩) : 0 < n ∧ A = some ⟨g, 0, none⟩ := by
  split at e
  · cases e
  · exact ⟨by omega, e⟩
theorem OwnK.ge {B n c g : Nat} {w : World} {A : Option Addr} {xs : List Int} (h : OwnK B w A n c xs) (e : A = some ⟨g, 0, none⟩) (hn : 0 < n) : B ≤ g := by
  obtain ⟨g', e', hB, _⟩ := h.2.2 hn
  have := blk_eq (e'.symm.trans e)
  omega
theorem OwnK.lt {B n c g : Nat} {w : World} {A : Option Addr} {xs : List Int} (h : OwnK B w A n c xs) (e : A = some ⟨g, 0, none⟩) (hn : 0 < n) : g < w.heap.size := by
  obtain ⟨g', e', _, hR⟩ := h.2.2 hn
  have := blk_eq (e'.symm.trans e)
  have := hR.lt
  omega
theorem walk_FnExactTurnKnots (A : Option Addr) (n c : Nat) (xs : List Int) (w : World) (h : Ints w w.heap.size A xs) (hn : xs.length = n * 2) (_ : n ≤ c) (_ : c ≤ maxLen) :
    Calls Try.prog 5 #[.slice A n c] w fun e w' => e = .returned (.bool true) ∧ Below w.heap.size w w' := by
  have HN := Lib.hid hn
  clear hn
  have hn63 : (n : Int) ≤ 9223372036854775807 := by simp [maxLen] at *; omega
  by_cases hbig : 1048576 < n
  · have e1 : IntKind.i64.wrap (1048576 - (n : Int)) = 1048576 - (n : Int) := IntWalk.i64_in _ (by omega)
    have e2 : (1048576 : Int) - (n : Int) < 0 := by omega
    go_enter Try.func5, Try.ntmps5
    go_wp2
    go_ret
    exact ⟨rfl, (by repeat (first | exact bw_refl _ | assumption | apply bw_alloc | apply bw_drew | apply bw_drewN | (refine bw_trans ?_ (by assumption)) | (refine bw_set ?_ (by simp only [go_sem]; omega) _)))⟩
  · have e1 : IntKind.i64.wrap (1048576 - (n : Int)) = 1048576 - (n : Int) := IntWalk.i64_in _ (by omega)
    have e2 : ¬ (1048576 : Int) - (n : Int) < 0 := by omega
    have hsame := eqIs_same xs
    have hS := fun (A : Option Addr) (c : Nat) (w : World) h' => specTurnKnots_any A n c xs w HN.out h' (by omega)
    have hI := fun (A : Option Addr) (c : Nat) (w : World) h' => implTurnKnots_any A n c xs w HN.out h' (by omega)
    have hL : turnN xs n ≤ 4294967296 := turnN_le xs n (by omega)
    generalize turnN xs n = N at hS hI hL
    generalize turnL xs n = R at hS hI
    generalize turnB xs n = b at hS hI
    have HS := Lib.hid hS
    have HI := Lib.hid hI
    clear hS hI
    have hsr := eqIs_same R
    have hbb : (b != b) = false := by cases b <;> rfl
    have m1 : ¬ (1 : Int) + (n : Int) * 2 < 0 := by omega
    have m2 : ¬ (1 : Int) + (N : Int) * 2 < 0 := by omega
    go_enter Try.func5, Try.ntmps5
    go_wp2_with fail
    refine (szKnotS_ok A n c 1048576 _ (by omega) (by omega)).mono ?_
    rintro e w0 ⟨rfl, rfl⟩
    go_wp2_with fail
    refine (toKnotS_any A n c xs _ HN.out h (by omega)).mono ?_
    rintro e w1 ⟨rfl, r1, b1⟩
    go_wp2_with fail
    refine (HS.out _ _ _ r1.is).mono ?_
    rintro e w2 ⟨⟨A2, c2, rfl, o2⟩, b2⟩
    go_wp2_with fail
    refine (toKnotS_any A n c xs _ HN.out (h.up (by repeat (first | exact bw_refl _ | assumption | apply bw_alloc | apply bw_drew | apply bw_drewN | (refine bw_trans ?_ (by assumption)) | (refine bw_set ?_ (by simp only [go_sem]; omega) _)))) (by omega)).mono ?_
    rintro e w3 ⟨rfl, r3, b3⟩
    go_wp2_with fail
    refine (HI.out _ _ _ r3.is).mono ?_
    rintro e w4 ⟨⟨A4, c4, rfl, o4⟩, b4⟩
    have HR := Lib.hid o4.1
    go_wp2_with fail
    refine (eqKnotS_any _ _ N N _ _ R R _ HR.out HR.out o4.ints (o2.up (by repeat (first | exact bw_refl _ | assumption | apply bw_alloc | apply bw_drew | apply bw_drewN | (refine bw_trans ?_ (by assumption)) | (refine bw_set ?_ (by simp only [go_sem]; omega) _)))).ints hL hL).mono ?_
    rintro e w5 ⟨rfl, b5⟩
    go_wp2_with fail
    refine (toKnotS_any A n c xs _ HN.out (h.up (by repeat (first | exact bw_refl _ | assumption | apply bw_alloc | apply bw_drew | apply bw_drewN | (refine bw_trans ?_ (by assumption)) | (refine bw_set ?_ (by simp only [go_sem]; omega) _)))) (by omega)).mono ?_
    rintro e w6 ⟨rfl, r6, b6⟩
    go_wp2_with fail
    refine (eqKnotS_any _ _ n n _ _ xs xs _ HN.out HN.out (r3.up (by repeat (first | exact bw_refl _ | assumption | apply bw_alloc | apply bw_drew | apply bw_drewN | (refine bw_trans ?_ (by assumption)) | (refine bw_set ?_ (by simp only [go_sem]; omega) _)))).is r6.is (by omega) (by omega)).mono ?_
    rintro e w7 ⟨rfl, b7⟩
    have z1 := b1.size
    have z2 := b2.size
    have z3 := r3.lt
    have x7 : OwnK w.heap.size w7 (some ⟨w2.heap.size, 0, none⟩) n n xs := ⟨HN.out, Nat.le_refl _, fun _ => ⟨_, rfl, by omega, r3.up (by repeat (first | exact bw_refl _ | assumption | apply bw_alloc | apply bw_drew | apply bw_drewN | (refine bw_trans ?_ (by assumption)) | (refine bw_set ?_ (by simp only [go_sem]; omega) _)))⟩⟩
    have o27 : OwnK w1.heap.size w7 A2 N c2 R := o2.up (by repeat (first | exact bw_refl _ | assumption | apply bw_alloc | apply bw_drew | apply bw_drewN | (refine bw_trans ?_ (by assumption)) | (refine bw_set ?_ (by simp only [go_sem]; omega) _)))
    have o47 : OwnK w3.heap.size w7 A4 N c4 R := o4.up (by repeat (first | exact bw_refl _ | assumption | apply bw_alloc | apply bw_drew | apply bw_drewN | (refine bw_trans ?_ (by assumption)) | (refine bw_set ?_ (by simp only [go_sem]; omega) _)))
    have c7 : Below w.heap.size w w7 := (by repeat (first | exact bw_refl _ | assumption | apply bw_alloc | apply bw_drew | apply bw_drewN | (refine bw_trans ?_ (by assumption)) | (refine bw_set ?_ (by simp only [go_sem]; omega) _)))
    go_wp2_with fail
    refine (markKnotS_any _ _ _ _ _ _ _ x7 (by omega) (by omega) (by omega)).mono ?_
    rintro e w8 ⟨rfl, x8, t8⟩
    have o28 := o27.tch t8 fun g e e' => by
      have := blk_eq (ite_blk e).2
      rcases Nat.eq_zero_or_pos N with h0 | h0
      · exact h0
      · have := o2.lt e' h0
        omega
    have o48 := o47.tch t8 fun g e e' => by
      have := blk_eq (ite_blk e).2
      rcases Nat.eq_zero_or_pos N with h0 | h0
      · exact h0
      · have := o4.ge e' h0
        omega
    have c8 : Below w.heap.size w w8 := c7.trans (t8.below fun g e => by have := blk_eq (ite_blk e).2; omega)
    clear x8
    go_wp2_with fail
    refine (eqKnotS_any _ _ N N _ _ R R _ HR.out HR.out o48.ints o28.ints hL hL).mono ?_
    rintro e w9 ⟨rfl, b9⟩
    have o49 := o48.up b9
    go_wp2_with fail
    refine (markKnotS_any _ _ _ _ _ _ _ o49 (by omega) (by omega) (by omega)).mono ?_
    rintro e w10 ⟨rfl, g10, t10⟩
    have o210 := (o28.up b9).tch t10 fun g e e' => by
      have h0 := ite_blk e
      have := o2.lt e' h0.1
      have := o4.ge h0.2 h0.1
      omega
    have c10 : Below w.heap.size w w10 := Below.trans ((by repeat (first | exact bw_refl _ | assumption | apply bw_alloc | apply bw_drew | apply bw_drewN | (refine bw_trans ?_ (by assumption)) | (refine bw_set ?_ (by simp only [go_sem]; omega) _))) : Below w.heap.size w w9) (t10.below fun g e => by have h0 := ite_blk e; have := o4.ge h0.2 h0.1; omega)
    go_wp2_with fail
    refine (heldKnotS_any _ _ _ _ _ g10.ints (by omega) (by omega) (by omega)).mono ?_
    rintro e w11 ⟨rfl, rfl⟩
    go_wp2_with fail
    refine (toKnotS_any A n c xs _ HN.out (h.up (by repeat (first | exact bw_refl _ | assumption | apply bw_alloc | apply bw_drew | apply bw_drewN | (refine bw_trans ?_ (by assumption)) | (refine bw_set ?_ (by simp only [go_sem]; omega) _)))) (by omega)).mono ?_
    rintro e w12 ⟨rfl, r12, b12⟩
    go_wp2_with fail
    refine (HI.out _ _ _ r12.is).mono ?_
    rintro e w13 ⟨⟨A13, c13, rfl, o13⟩, b13⟩
    go_wp2_with fail
    refine (eqKnotS_any _ _ N N _ _ R R _ HR.out HR.out o13.ints (o210.up (by repeat (first | exact bw_refl _ | assumption | apply bw_alloc | apply bw_drew | apply bw_drewN | (refine bw_trans ?_ (by assumption)) | (refine bw_set ?_ (by simp only [go_sem]; omega) _)))).ints hL hL).mono ?_
    rintro e w14 ⟨rfl, b14⟩
    go_wp2_with fail
    refine (heldKnotS_any _ _ _ _ _ (g10.up (by repeat (first | exact bw_refl _ | assumption | apply bw_alloc | apply bw_drew | apply bw_drewN | (refine bw_trans ?_ (by assumption)) | (refine bw_set ?_ (by simp only [go_sem]; omega) _)))).ints (by omega) (by omega) (by omega)).mono ?_
    rintro e w15 ⟨rfl, rfl⟩
    go_wp2
    go_ret
    exact ⟨rfl, (by repeat (first | exact bw_refl _ | assumption | apply bw_alloc | apply bw_drew | apply bw_drewN | (refine bw_trans ?_ (by assumption)) | (refine bw_set ?_ (by simp only [go_sem]; omega) _)))⟩
end Go.Proofs.Ytiimaodphhaohaa
