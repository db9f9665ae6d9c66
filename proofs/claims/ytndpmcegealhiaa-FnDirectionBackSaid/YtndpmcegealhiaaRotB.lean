/- The walk of the law DirectionBack; no condition. -/
import Derived.Test.YtndpmcegealhiaaCos
import Derived.Test.YtndpmcegealhiaaDir2
import Derived.Test.YtndpmcegealhiaaRotD
import Derived.Test.YtndpmcegealhiaaFactD
namespace Go.Proofs.Ytndpmcegealhiaa
open Go.RowKit
set_option linter.unusedVariables false
set_option linter.unusedSimpArgs false
set_option maxHeartbeats 2000000

theorem dir_quarter (x y : Int) (hz : ¬ (x = 0 ∧ y = 0)) : dirF (-y) x = (dirF x y + 16384) % 65536 := by
  unfold dirF
  have b1 := quarD_bd x y
  have b2 := quarD_bd y (-x)
  have b3 := quarD_bd (-x) (-y)
  have b4 := quarD_bd (-y) x
  rw [if_neg hz, if_neg (show ¬ (-y = 0 ∧ x = 0) by omega), Int.neg_neg]
  repeat' split
  all_goals omega
theorem dirF_bd (x y : Int) : 0 ≤ dirF x y ∧ dirF x y < 65536 := by
  unfold dirF
  repeat' split
  all_goals omega
theorem eigh_facts (f : Int) (h0 : 0 ≤ f) (h1 : f ≤ 8192) : 0 < eighC f ∧ 0 ≤ eighS f ∧ eighS f ≤ eighC f ∧ eighC f ≤ 16384 ∧ eighD (eighC f) (eighS f) = f ∧ (f = 0 ∨ 0 < eighS f) := by
  obtain ⟨k, rfl⟩ := Int.eq_ofNat_of_zero_le h0
  have f := factD_all k (by omega)
  unfold factDB at f
  simp only [Bool.and_eq_true, decide_eq_true_eq] at f
  exact ⟨f.1.1.1.1.1, f.1.1.1.1.2, f.1.1.1.2, f.1.1.2, f.1.2, by have := f.2; omega⟩
theorem dir_base (b : Int) : dirF (baseP b).1 (baseP b).2 = b % 16384 ∧ ¬ ((baseP b).1 = 0 ∧ (baseP b).2 = 0) ∧ (-16384 ≤ (baseP b).1 ∧ (baseP b).1 ≤ 16384) ∧ (-16384 ≤ (baseP b).2 ∧ (baseP b).2 ≤ 16384) := by
  have hf := fold_bd b
  obtain ⟨c0, s0, sc, c1, hd, hp⟩ := eigh_facts (foldR b) hf.1 hf.2
  have hr := hd
  by_cases h : 8192 < b % 16384
  · have e1 : foldB b = true := decide_eq_true h
    have e2 : foldR b = 16384 - b % 16384 := by unfold foldR; rw [if_pos h]
    have hs : 0 < eighS (foldR b) := by omega
    have hne : ¬ eighS (foldR b) = eighC (foldR b) := fun he => by
      rw [← he] at hd
      unfold eighD at hd
      rw [if_neg (by omega), if_pos rfl] at hd
      omega
    unfold baseP
    rw [e1, if_pos rfl]
    simp only
    refine ⟨?_, by omega, by omega, by omega⟩
    unfold dirF quarD
    rw [if_neg (by omega), if_pos (by omega), if_pos (by omega), hr]
    omega
  · have e1 : foldB b = false := decide_eq_false h
    have e2 : foldR b = b % 16384 := by unfold foldR; rw [if_neg h]
    unfold baseP
    rw [e1, if_neg (by decide)]
    simp only
    refine ⟨?_, by omega, by omega, by omega⟩
    unfold dirF quarD
    rw [if_neg (by omega), if_pos (by omega), if_neg (by omega), hr]
    omega
theorem dir_rot {p : Int × Int} (hz : ¬ (p.1 = 0 ∧ p.2 = 0)) : ∀ n : Nat, dirF (rotQ p n).1 (rotQ p n).2 = (dirF p.1 p.2 + n * 16384) % 65536 ∧ ¬ ((rotQ p n).1 = 0 ∧ (rotQ p n).2 = 0)
  | 0 => by
    have := dirF_bd p.1 p.2
    refine ⟨?_, hz⟩
    show dirF p.1 p.2 = _
    omega
  | n + 1 => by
    obtain ⟨h1, h2⟩ := dir_rot hz n
    refine ⟨?_, ?_⟩
    · show dirF (-(rotQ p n).2) (rotQ p n).1 = _
      rw [dir_quarter _ _ h2, h1]
      have e : ((n + 1 : Nat) : Int) = (n : Int) + 1 := rfl
      rw [e]
      omega
    · show ¬ (-(rotQ p n).2 = 0 ∧ (rotQ p n).1 = 0)
      omega
theorem dir_cs {a : Int} (hi : inB a (-1152921504606846976) 1152921504606846976 = true) : dirT (csT a).1 (csT a).2 = a % 65536 ∧ vecB 1073741824 (csT a).1 (csT a).2 = true := by
  have e0 : csT a = rotQ (baseP (a % 65536)) (a % 65536 / 16384).toNat := by unfold csT; rw [hi]; rfl
  obtain ⟨d1, d2, d3, d4⟩ := dir_base (a % 65536)
  obtain ⟨r1, r2⟩ := dir_rot d2 (a % 65536 / 16384).toNat
  obtain ⟨q1, q2⟩ := rotQ_bd d3 d4 (a % 65536 / 16384).toNat
  rw [e0]
  have hv : vecB 1073741824 (rotQ (baseP (a % 65536)) (a % 65536 / 16384).toNat).1 (rotQ (baseP (a % 65536)) (a % 65536 / 16384).toNat).2 = true := by unfold vecB; rw [Bool.and_eq_true, inB_iff, inB_iff]; omega
  refine ⟨?_, hv⟩
  unfold dirT
  rw [hv, if_pos rfl, r1, d1]
  have e : (((a % 65536 / 16384).toNat : Nat) : Int) = a % 65536 / 16384 := Int.toNat_of_nonneg (by omega)
  rw [e]
  omega
theorem walk_FnDirectionBack (A : Option Addr) (n c : Nat) (xs : List Int) (w : World) (h : Byts w w.heap.size A xs) (hn : xs.length = n) (hc : n ≤ c) (hm : c ≤ maxLen) :
    Calls Try.prog 6 #[.slice A n c] w fun e w' => e = .returned (.bool true) ∧ Below w.heap.size w w' := by
  by_cases hbig : 1048576 < n
  · unfold maxLen at hm
    clear hn
    go_enter Try.func6, Try.ntmps6
    go_wp2
    go_ret
    exact ⟨rfl, (by repeat (first | exact bw_refl _ | assumption | apply bw_alloc | apply bw_drew | apply bw_drewN | (refine bw_trans ?_ (by assumption)) | (refine bw_set ?_ (by simp only [go_sem]; omega) _)))⟩
  · have HN := Lib.hid hn
    clear hn
    go_enter Try.func6, Try.ntmps6
    go_wp2_with fail
    refine (drawCosSin_any A n c xs w _ h HN.out hc hm (by omega) (bw_refl w)).mono ?_
    rintro e w1 ⟨a, rfl, b1⟩
    have M1 := specCs_any a
    have M2 := implCs_any a
    have hd := Lib.hid (fun hi => dir_cs (a := a) hi)
    unfold IsCs at M1 M2
    generalize (csT a).1 = X at *
    generalize (csT a).2 = Y at *
    go_wp2_with fail
    refine (M2 _).mono ?_
    rintro e w2 ⟨rfl, b2⟩
    go_wp2_with fail
    refine (M1 _).mono ?_
    rintro e w3 ⟨rfl, b3⟩
    clear M1 M2
    cases hi : inB a (-1152921504606846976) 1152921504606846976
    · clear hd
      go_wp2_with (first
        | (go_at_call 10; refine (work_any _ _).mono ?_; rintro e w' ⟨he, rfl⟩; rw [hi] at he; subst he)
        | (go_at_call 11; refine (alive_any _).mono ?_; rintro e w' ⟨rfl, rfl⟩))
      go_ret
      exact ⟨rfl, (by repeat (first | exact bw_refl _ | assumption | apply bw_alloc | apply bw_drew | apply bw_drewN | (refine bw_trans ?_ (by assumption)) | (refine bw_set ?_ (by simp only [go_sem]; omega) _)))⟩
    · obtain ⟨a0, a1⟩ := (inB_iff _ _ _).1 hi
      obtain ⟨e1, -⟩ := hd.out hi
      have D := implDir_any X Y
      rw [e1] at D
      have W1 := implWrap_ok a a0 a1
      obtain ⟨b, hb⟩ : ∃ b, a % 65536 = b := ⟨_, rfl⟩
      have b0 : 0 ≤ b ∧ b < 65536 := by omega
      rw [hb] at D W1
      have W2 := implWrap_ok 0 (by decide) (by decide)
      rw [show (0 : Int) % 65536 = 0 from rfl] at W2
      have e2 : IntKind.i64.wrap 0 = 0 := by decide
      clear hd e1 hb
      go_wp2_with (first
        | (go_at_call 10; refine (work_any _ _).mono ?_; rintro e w' ⟨he, rfl⟩; rw [hi] at he; subst he)
        | (go_at_call 19; (with_reducible refine (D _).mono ?_); rintro e w5 ⟨rfl, hb5⟩)
        | (go_at_call 18; (with_reducible refine (W1 _).mono ?_); rintro e w6 ⟨rfl, rfl⟩)
        | (go_at_call 18; (with_reducible refine (W2 _).mono ?_); rintro e w7 ⟨rfl, rfl⟩))
      go_ret
      exact ⟨ret_bool (by simp), (by repeat (first | exact bw_refl _ | assumption | apply bw_alloc | apply bw_drew | apply bw_drewN | (refine bw_trans ?_ (by assumption)) | (refine bw_set ?_ (by simp only [go_sem]; omega) _)))⟩
end Go.Proofs.Ytndpmcegealhiaa
