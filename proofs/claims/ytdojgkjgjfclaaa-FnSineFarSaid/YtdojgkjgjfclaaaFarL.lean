/- The walk of the law SineFar; no condition. -/
import Derived.Test.YtdojgkjgjfclaaaFar
import Derived.Test.YtdojgkjgjfclaaaSinD
import Derived.Test.YtdojgkjgjfclaaaFactC
namespace Go.Proofs.Ytdojgkjgjfclaaa
open Go.RowKit
set_option linter.unusedVariables false
set_option linter.unusedSimpArgs false
set_option maxHeartbeats 2000000

theorem far_small {a : Int} (h0 : 0 ≤ a) (h1 : a ≤ 8192) : 0 ≤ farF a ∧ farF a ≤ 1 := by
  obtain ⟨k, rfl⟩ := Int.eq_ofNat_of_zero_le h0
  have f := factC_all k (by omega)
  unfold factCB at f
  simp only [Bool.and_eq_true, decide_eq_true_eq] at f
  obtain ⟨e1, e2, -, -⟩ := sinX_is h0 h1
  unfold farF
  rw [if_pos ⟨h0, h1⟩, e1, e2]
  unfold cdiv mx3
  omega
theorem walk_FnSineFar (A : Option Addr) (n c : Nat) (xs : List Int) (w : World) (h : Byts w w.heap.size A xs) (hn : xs.length = n) (hc : n ≤ c) (hm : c ≤ maxLen) :
    Calls Try.prog 4 #[.slice A n c] w fun e w' => e = .returned (.bool true) ∧ Below w.heap.size w w' := by
  by_cases hbig : 1048576 < n
  · unfold maxLen at hm
    clear hn
    go_enter Try.func4, Try.ntmps4
    go_wp2
    go_ret
    exact ⟨rfl, (by repeat (first | exact bw_refl _ | assumption | apply bw_alloc | apply bw_drew | apply bw_drewN | (refine bw_trans ?_ (by assumption)) | (refine bw_set ?_ (by simp only [go_sem]; omega) _)))⟩
  · have HN := Lib.hid hn
    clear hn
    go_enter Try.func4, Try.ntmps4
    go_wp2_with fail
    refine (drawSineFar_any A n c xs w _ h HN.out hc hm (by omega) (bw_refl w)).mono ?_
    rintro e w1 ⟨a, rfl, b1⟩
    have M1 := specFar_any a
    have M2 := implFar_any a
    have hs := Lib.hid (fun h0 h1 => far_small (a := a) h0 h1)
    have hno := Lib.hid (show ¬ (0 ≤ a ∧ a ≤ 8192) → farF a = -1 from fun h => by unfold farF; rw [if_neg h])
    unfold IsInt at M1 M2
    generalize farF a = v at *
    go_wp2_with fail
    refine (M2 _).mono ?_
    rintro e w2 ⟨rfl, b2⟩
    go_wp2_with fail
    refine (M1 _).mono ?_
    rintro e w3 ⟨rfl, b3⟩
    clear M1 M2
    by_cases hr : 0 ≤ a ∧ a ≤ 8192
    · obtain ⟨h0, h1⟩ := hr
      obtain ⟨v0, v1⟩ := hs.out h0 h1
      have n0 : ¬ a < 0 := by omega
      have n1 : ¬ 8192 < a := by omega
      clear hs hno
      go_wp2
      go_ret
      exact ⟨ret_bool (by simp <;> omega), (by repeat (first | exact bw_refl _ | assumption | apply bw_alloc | apply bw_drew | apply bw_drewN | (refine bw_trans ?_ (by assumption)) | (refine bw_set ?_ (by simp only [go_sem]; omega) _)))⟩
    · obtain rfl := hno.out hr
      clear hs hno
      by_cases h0 : a < 0
      · clear hr
        go_wp2_with (go_at_call 12; refine (alive_any _).mono ?_; rintro e w' ⟨rfl, rfl⟩)
        go_ret
        exact ⟨rfl, (by repeat (first | exact bw_refl _ | assumption | apply bw_alloc | apply bw_drew | apply bw_drewN | (refine bw_trans ?_ (by assumption)) | (refine bw_set ?_ (by simp only [go_sem]; omega) _)))⟩
      · have h1 : 8192 < a := by omega
        clear hr
        go_wp2_with (go_at_call 12; refine (alive_any _).mono ?_; rintro e w' ⟨rfl, rfl⟩)
        go_ret
        exact ⟨rfl, (by repeat (first | exact bw_refl _ | assumption | apply bw_alloc | apply bw_drew | apply bw_drewN | (refine bw_trans ?_ (by assumption)) | (refine bw_set ?_ (by simp only [go_sem]; omega) _)))⟩
end Go.Proofs.Ytdojgkjgjfclaaa
