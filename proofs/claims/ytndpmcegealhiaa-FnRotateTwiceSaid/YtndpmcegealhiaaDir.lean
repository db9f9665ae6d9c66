/- Contracts of the directions of vectors, both sides; condition: none, or an eighth. -/
import Derived.Test.YtndpmcegealhiaaLevel
namespace Go.Proofs.Ytndpmcegealhiaa
open Go.RowKit
set_option linter.unusedVariables false
set_option linter.unusedSimpArgs false
set_option maxHeartbeats 2000000

def eighD (x y : Int) : Int := if y = 0 then 0 else if y = x then 8192 else max 0 (min 8192 (rdiv (levelS (x * 256) (y * 256) 20).2.2 1024))
theorem eighD_bd (x y : Int) : 0 ≤ eighD x y ∧ eighD x y ≤ 8192 := by unfold eighD; split <;> (try split) <;> omega
def quarD (x y : Int) : Int := if x < y then 16384 - eighD y x else eighD x y
theorem quarD_bd (x y : Int) : 0 ≤ quarD x y ∧ quarD x y ≤ 16384 := by
  unfold quarD
  have h1 := eighD_bd x y
  have h2 := eighD_bd y x
  split <;> omega
def dirF (x y : Int) : Int :=
  if x = 0 ∧ y = 0 then 0 else if 0 < x ∧ 0 ≤ y then quarD x y % 65536 else if x ≤ 0 ∧ 0 < y then (quarD y (-x) + 16384) % 65536 else if x < 0 ∧ y ≤ 0 then (quarD (-x) (-y) + 32768) % 65536 else (quarD (-y) x + 49152) % 65536
/-- The vector turned back by q quarters, none of which sufficed. -/
def DirSt (x y : Int) (q : Nat) (X Y : Int) : Prop :=
  (q = 0 ∧ X = x ∧ Y = y) ∨ (q = 1 ∧ X = y ∧ Y = -x ∧ (x ≤ 0 ∨ y < 0)) ∨ (q = 2 ∧ X = -x ∧ Y = -y ∧ (x ≤ 0 ∨ y < 0) ∧ (y ≤ 0 ∨ -x < 0)) ∨ (q = 3 ∧ X = -y ∧ Y = x ∧ (x ≤ 0 ∨ y < 0) ∧ (y ≤ 0 ∨ -x < 0) ∧ (-x ≤ 0 ∨ -y < 0))
theorem dir_step {x y X Y : Int} {q : Nat} (hz : ¬ (x = 0 ∧ y = 0)) (h : DirSt x y q X Y) (hn : X ≤ 0 ∨ Y < 0) : q < 3 ∧ DirSt x y (q + 1) Y (-X) := by
  unfold DirSt at *
  rcases h with ⟨rfl, rfl, rfl⟩ | ⟨rfl, rfl, rfl, h1⟩ | ⟨rfl, rfl, rfl, h1, h2⟩ | ⟨rfl, rfl, rfl, h1, h2, h3⟩
  · exact ⟨by omega, .inr (.inl ⟨rfl, rfl, rfl, hn⟩)⟩
  · exact ⟨by omega, .inr (.inr (.inl ⟨rfl, rfl, rfl, h1, hn⟩))⟩
  · exact ⟨by omega, .inr (.inr (.inr ⟨rfl, rfl, by omega, h1, h2, hn⟩))⟩
  · omega
theorem dir_exit {x y X Y : Int} {q : Nat} (hz : ¬ (x = 0 ∧ y = 0)) (h : DirSt x y q X Y) (h0 : 0 < X) (h1 : 0 ≤ Y) : (quarD X Y + q * 16384) % 65536 = dirF x y := by
  unfold DirSt at h
  unfold dirF
  rw [if_neg hz]
  rcases h with ⟨rfl, rfl, rfl⟩ | ⟨rfl, rfl, rfl, a⟩ | ⟨rfl, rfl, rfl, a, b⟩ | ⟨rfl, rfl, rfl, a, b, c⟩
  · rw [if_pos ⟨h0, h1⟩]; simp
  · rw [if_neg (by omega), if_pos (by omega)]; rfl
  · rw [if_neg (by omega), if_neg (by omega), if_pos (by omega)]; rfl
  · rw [if_neg (by omega), if_neg (by omega), if_neg (by omega)]; rfl
theorem dir_bd {x y X Y m : Int} {q : Nat} (h : DirSt x y q X Y) (hx : -m ≤ x ∧ x ≤ m) (hy : -m ≤ y ∧ y ≤ m) : (-m ≤ X ∧ X ≤ m) ∧ (-m ≤ Y ∧ Y ≤ m) ∧ q ≤ 3 := by
  unfold DirSt at h
  rcases h with ⟨rfl, rfl, rfl⟩ | ⟨rfl, rfl, rfl, a⟩ | ⟨rfl, rfl, rfl, a, b⟩ | ⟨rfl, rfl, rfl, a, b, c⟩ <;> omega
def dirT (x y : Int) : Int := if vecB 1073741824 x y = true then dirF x y else -1
theorem implWrap_ok (a : Int) (h0 : -1152921504606846976 ≤ a) (h1 : a ≤ 1152921504606846976) (w : World) : Calls Try.prog 18 #[.int .i64 a] w fun e w' => e = .returned (.int .i64 (a % 65536)) ∧ w = w' := by
  have hi : inB a (-1152921504606846976) 1152921504606846976 = true := (inB_iff _ _ _).2 ⟨h0, h1⟩
  have hm : bits .and .i64 a 65535 = a % 65536 := and_mask a 16 (by omega)
  go_enter Try.func18, Try.ntmps18
  go_wp2_with (go_at_call 24; refine (workable_any _ _).mono ?_; rintro e w' ⟨rfl, rfl⟩)
  go_ret
  exact ⟨rfl, rfl⟩
theorem l12Wrap_ok (a : Int) (h0 : -1152921504606846976 ≤ a) (h1 : a ≤ 1152921504606846976) (w : World) : Calls Try.prog 34 #[.int .i64 a] w fun e w' => e = .returned (.int .i64 (a % 65536)) ∧ w = w' := by
  have ht : a.tmod 65536 = a % 65536 - if 0 ≤ a ∨ (65536 : Int) ∣ a then 0 else 65536 := by rw [Int.tmod_eq_emod]; split <;> simp
  have HT := Lib.hid ht
  have t0 : -65536 < a.tmod 65536 ∧ a.tmod 65536 < 65536 := by rw [ht]; split <;> omega
  obtain ⟨t, h⟩ : ∃ t, a.tmod 65536 = t := ⟨_, rfl⟩
  rw [h] at t0 HT
  clear ht
  rcases Int.lt_or_le t 0 with hneg | hpos
  · have e1 : IntKind.i64.wrap t = t := IntWalk.i64_in _ (by omega)
    go_enter Try.func34, Try.ntmps34
    go_wp2
    go_ret
    exact ⟨ret_int (by have := HT.out; split at this <;> omega), rfl⟩
  · have e1 : IntKind.i64.wrap t = t := IntWalk.i64_in _ (by omega)
    have hn : ¬ t < 0 := by omega
    go_enter Try.func34, Try.ntmps34
    go_wp2
    go_ret
    exact ⟨ret_int (by have := HT.out; split at this <;> omega), rfl⟩
theorem implEighD_ok (x y : Int) (x0 : 0 < x) (x1 : x ≤ 1073741824) (y0 : 0 ≤ y) (y1 : y ≤ x) (w : World) : Calls Try.prog 38 #[.agg #[.int .i64 x, .int .i64 y]] w fun e w' => e = .returned (.int .i64 (eighD x y)) ∧ Below w.heap.size w w' := by
  by_cases hz : y = 0
  · subst hz
    have e0 : Hid (eighD x 0 = 0) := by unfold Hid eighD; rw [if_pos rfl]
    go_enter Try.func38, Try.ntmps38
    go_wp2
    go_ret
    exact ⟨ret_int e0.out.symm, (by repeat (first | exact bw_refl _ | assumption | apply bw_alloc | apply bw_drew | apply bw_drewN | (refine bw_trans ?_ (by assumption)) | (refine bw_set ?_ (by simp only [go_sem]; omega) _)))⟩
  · have q0 : (y == 0) = false := beq_eq_false_iff_ne.2 hz
    by_cases hxy : y = x
    · subst hxy
      have e0 : Hid (eighD y y = 8192) := by unfold Hid eighD; rw [if_neg hz, if_pos rfl]
      go_enter Try.func38, Try.ntmps38
      go_wp2
      go_ret
      exact ⟨ret_int e0.out.symm, (by repeat (first | exact bw_refl _ | assumption | apply bw_alloc | apply bw_drew | apply bw_drewN | (refine bw_trans ?_ (by assumption)) | (refine bw_set ?_ (by simp only [go_sem]; omega) _)))⟩
    · have q1 : (y == x) = false := beq_eq_false_iff_ne.2 hxy
      have e0 : Hid (eighD x y = max 0 (min 8192 (rdiv (levelS (x * 256) (y * 256) 20).2.2 1024))) := by unfold Hid eighD; rw [if_neg hz, if_neg hxy]
      have M := implLevel_20 (x * 256) (y * 256) (by omega) (by omega)
      have Bd := Lib.hid (level_end (x * 256) (y * 256) (by omega) (by omega))
      unfold levelPost at M
      generalize (levelS (x * 256) (y * 256) 20).1 = A at *
      generalize (levelS (x * 256) (y * 256) 20).2.1 = B at *
      generalize (levelS (x * 256) (y * 256) 20).2.2 = Z at *
      have w1 : IntKind.i64.wrap (x * 256) = x * 256 := IntWalk.i64_in _ (by omega)
      have w2 : IntKind.i64.wrap (y * 256) = y * 256 := IntWalk.i64_in _ (by omega)
      obtain ⟨r, hr⟩ : ∃ r, rdiv Z 1024 = r := ⟨_, rfl⟩
      rw [hr] at e0
      go_enter Try.func38, Try.ntmps38
      go_wp2_with fail
      refine (M _).mono ?_
      rintro e w1 ⟨rfl, hb⟩
      clear M
      go_wp2_with (go_at_call 25; refine (implRoundShift_ok Z 10 (by decide) (by decide) (by have := Bd.out; omega) (by have := Bd.out; omega) _).mono ?_; rintro e w' ⟨he, rfl⟩; rw [show (2 : Int) ^ (10 : Int).toNat = 1024 from rfl, hr] at he; subst he)
      all_goals
        go_ret
        refine ⟨ret_int ?_, (by repeat (first | exact bw_refl _ | assumption | apply bw_alloc | apply bw_drew | apply bw_drewN | (refine bw_trans ?_ (by assumption)) | (refine bw_set ?_ (by simp only [go_sem]; omega) _)))⟩
        rw [e0.out]
        first | omega | ((repeat' split) <;> omega)
end Go.Proofs.Ytndpmcegealhiaa
