/- The walk of the law ExactKnotsRise; no condition. -/
import Derived.Test.YtiimaodphhaohaaKn8
namespace Go.Proofs.Ytiimaodphhaohaa
open Go.RowKit
set_option linter.unusedVariables false
set_option linter.unusedSimpArgs false
set_option maxHeartbeats 1000000

theorem walk_FnExactKnotsRise (A : Option Addr) (n c : Nat) (xs : List Int) (w : World) (h : Ints w w.heap.size A xs) (hn : xs.length = n * 2) (_ : n ≤ c) (_ : c ≤ maxLen) :
    Calls Try.prog 4 #[.slice A n c] w fun e w' => e = .returned (.bool true) ∧ Below w.heap.size w w' := by
  have HN := Lib.hid hn
  clear hn
  have hn63 : (n : Int) ≤ 9223372036854775807 := by simp [maxLen] at *; omega
  by_cases hbig : 1048576 < n
  · have e1 : IntKind.i64.wrap (1048576 - (n : Int)) = 1048576 - (n : Int) := IntWalk.i64_in _ (by omega)
    have e2 : (1048576 : Int) - (n : Int) < 0 := by omega
    go_enter Try.func4, Try.ntmps4
    go_wp2
    go_ret
    exact ⟨rfl, (by repeat (first | exact bw_refl _ | assumption | apply bw_alloc | apply bw_drew | apply bw_drewN | (refine bw_trans ?_ (by assumption)) | (refine bw_set ?_ (by simp only [go_sem]; omega) _)))⟩
  · have e1 : IntKind.i64.wrap (1048576 - (n : Int)) = 1048576 - (n : Int) := IntWalk.i64_in _ (by omega)
    have e2 : ¬ (1048576 : Int) - (n : Int) < 0 := by omega
    have hsame := eqIs_same xs
    go_enter Try.func4, Try.ntmps4
    go_wp2_with fail
    refine (szKnotS_ok A n c 1048576 _ (by omega) (by omega)).mono ?_
    rintro e w0 ⟨rfl, rfl⟩
    go_wp2_with fail
    refine (toKnotS_any A n c xs _ HN.out h (by omega)).mono ?_
    rintro e w1 ⟨rfl, r1, b1⟩
    go_wp2_with fail
    refine (specKnotsRise_any _ n _ xs _ HN.out r1.is (by omega)).mono ?_
    rintro e w2 ⟨rfl, b2⟩
    go_wp2_with fail
    refine (toKnotS_any A n c xs _ HN.out (h.up (by repeat (first | exact bw_refl _ | assumption | apply bw_alloc | apply bw_drew | apply bw_drewN | (refine bw_trans ?_ (by assumption)) | (refine bw_set ?_ (by simp only [go_sem]; omega) _)))) (by omega)).mono ?_
    rintro e w3 ⟨rfl, r3, b3⟩
    go_wp2_with fail
    refine (implKnotsRise_any _ n _ xs _ HN.out r3.is (by omega)).mono ?_
    rintro e w4 ⟨rfl, b4⟩
    go_wp2_with fail
    refine (toKnotS_any A n c xs _ HN.out (h.up (by repeat (first | exact bw_refl _ | assumption | apply bw_alloc | apply bw_drew | apply bw_drewN | (refine bw_trans ?_ (by assumption)) | (refine bw_set ?_ (by simp only [go_sem]; omega) _)))) (by omega)).mono ?_
    rintro e w5 ⟨rfl, r5, b5⟩
    go_wp2_with fail
    refine (eqKnotS_any _ _ n n _ _ xs xs _ HN.out HN.out ((r3.up b4).up b5).is r5.is (by omega) (by omega)).mono ?_
    rintro e w6 ⟨rfl, b6⟩
    go_wp2
    go_ret
    exact ⟨rfl, (by repeat (first | exact bw_refl _ | assumption | apply bw_alloc | apply bw_drew | apply bw_drewN | (refine bw_trans ?_ (by assumption)) | (refine bw_set ?_ (by simp only [go_sem]; omega) _)))⟩
end Go.Proofs.Ytiimaodphhaohaa
