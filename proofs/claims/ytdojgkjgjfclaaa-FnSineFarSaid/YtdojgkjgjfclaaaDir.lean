/- Contracts of the directions of vectors, both sides; condition: none, or an eighth. -/
import Derived.Test.YtdojgkjgjfclaaaLevel
namespace Go.Proofs.Ytdojgkjgjfclaaa
open Go.RowKit
set_option linter.unusedVariables false
set_option linter.unusedSimpArgs false
set_option maxHeartbeats 2000000

def eighD (x y : Int) : Int := if y = 0 then 0 else if y = x then 8192 else max 0 (min 8192 (rdiv (levelS (x * 256) (y * 256) 20).2.2 1024))
theorem eighD_bd (x y : Int) : 0 ≤ eighD x y ∧ eighD x y ≤ 8192 := by unfold eighD; split <;> (try split) <;> omega
def quarD (x y : Int) : Int := if x < y then 16384 - eighD y x else eighD x y
theorem quarD_bd (x y : Int) : 0 ≤ quarD x y ∧ quarD x y ≤ 16384 := by
  unfold quarD
  have h1 := eighD_bd x y
  have h2 := eighD_bd y x
  split <;> omega
def dirF (x y : Int) : Int :=
  if x = 0 ∧ y = 0 then 0 else if 0 < x ∧ 0 ≤ y then quarD x y % 65536 else if x ≤ 0 ∧ 0 < y then (quarD y (-x) + 16384) % 65536 else if x < 0 ∧ y ≤ 0 then (quarD (-x) (-y) + 32768) % 65536 else (quarD (-y) x + 49152) % 65536
/-- The vector turned back by q quarters, none of which sufficed. -/
def DirSt (x y : Int) (q : Nat) (X Y : Int) : Prop :=
  (q = 0 ∧ X = x ∧ Y = y) ∨ (q = 1 ∧ X = y ∧ Y = -x ∧ (x ≤ 0 ∨ y < 0)) ∨ (q = 2 ∧ X = -x ∧ Y = -y ∧ (x ≤ 0 ∨ y < 0) ∧ (y ≤ 0 ∨ -x < 0)) ∨ (q = 3 ∧ X = -y ∧ Y = x ∧ (x ≤ 0 ∨ y < 0) ∧ (y ≤ 0 ∨ -x < 0) ∧ (-x ≤ 0 ∨ -y < 0))
theorem dir_step {x y X Y : Int} {q : Nat} (hz : ¬ (x = 0 ∧ y = 0)) (h : DirSt x y q X Y) (hn : X ≤ 0 ∨ Y < 0) : q < 3 ∧ DirSt x y (q + 1) Y (-X) := by
  unfold DirSt at *
  rcases h with ⟨rfl, rfl, rfl⟩ | ⟨rfl, rfl, rfl, h1⟩ | ⟨rfl, rfl, rfl, h1, h2⟩ | ⟨rfl, rfl, rfl, h1, h2, h3⟩
  · exact ⟨by omega, .inr (.inl ⟨rfl, rfl, rfl, hn⟩)⟩
  · exact ⟨by omega, .inr (.inr (.inl ⟨rfl, rfl, rfl, h1, hn⟩))⟩
  · exact ⟨by omega, .inr (.inr (.inr ⟨rfl, rfl, by omega, h1, h2, hn⟩))⟩
  · omega
theorem dir_exit {x y X Y : Int} {q : Nat} (hz : ¬ (x = 0 ∧ y = 0)) (h : DirSt x y q X Y) (h0 : 0 < X) (h1 : 0 ≤ Y) : (quarD X Y + q * 16384) % 65536 = dirF x y := by
  unfold DirSt at h
  unfold dirF
  rw [if_neg hz]
  rcases h with ⟨rfl, rfl, rfl⟩ | ⟨rfl, rfl, rfl, a⟩ | ⟨rfl, rfl, rfl, a, b⟩ | ⟨rfl, rfl, rfl, a, b, c⟩
  · rw [if_pos ⟨h0, h1⟩]; simp
  · rw [if_neg (by omega), if_pos (by omega)]; rfl
  · rw [if_neg (by omega), if_neg (by omega), if_pos (by omega)]; rfl
  · rw [if_neg (by omega), if_neg (by omega), if_neg (by omega)]; rfl
theorem dir_bd {x y X Y m : Int} {q : Nat} (h : DirSt x y q X Y) (hx : -m ≤ x ∧ x ≤ m) (hy : -m ≤ y ∧ y ≤ m) : (-m ≤ X ∧ X ≤ m) ∧ (-m ≤ Y ∧ Y ≤ m) ∧ q ≤ 3 := by
  unfold DirSt at h
  rcases h with ⟨rfl, rfl, rfl⟩ | ⟨rfl, rfl, rfl, a⟩ | ⟨rfl, rfl, rfl, a, b⟩ | ⟨rfl, rfl, rfl, a, b, c⟩ <;> omega
def dirT (x y : Int) : Int := if vecB 1073741824 x y = true then dirF x y else -1
theorem implWrap_ok (a : Int) (h0 : -1152921504606846976 ≤ a) (h1 : a ≤ 1152921504606846976) (w : World) : Calls Try.prog 54 #[.int .i64 a] w fun e w' => e = .returned (.int .i64 (a % 65536)) ∧ w = w' := by
  have hi : inB a (-1152921504606846976) 1152921504606846976 = true := (inB_iff _ _ _).2 ⟨h0, h1⟩
  have hm : bits .and .i64 a 65535 = a % 65536 := and_mask a 16 (by omega)
  go_enter Try.func54, Try.ntmps54
  go_wp2_with (go_at_call 53; refine (workable_any _ _).mono ?_; rintro e w' ⟨rfl, rfl⟩)
  go_ret
  exact ⟨rfl, rfl⟩
theorem l12Wrap_ok (a : Int) (h0 : -1152921504606846976 ≤ a) (h1 : a ≤ 1152921504606846976) (w : World) : Calls Try.prog 49 #[.int .i64 a] w fun e w' => e = .returned (.int .i64 (a % 65536)) ∧ w = w' := by
  have ht : a.tmod 65536 = a % 65536 - if 0 ≤ a ∨ (65536 : Int) ∣ a then 0 else 65536 := by rw [Int.tmod_eq_emod]; split <;> simp
  have HT := Lib.hid ht
  have t0 : -65536 < a.tmod 65536 ∧ a.tmod 65536 < 65536 := by rw [ht]; split <;> omega
  obtain ⟨t, h⟩ : ∃ t, a.tmod 65536 = t := ⟨_, rfl⟩
  rw [h] at t0 HT
  clear ht
  rcases Int.lt_or_le t 0 with hneg | hpos
  · have e1 : IntKind.i64.wrap t = t := IntWalk.i64_in _ (by omega)
    go_enter Try.func49, Try.ntmps49
    go_wp2
    go_ret
    exact ⟨ret_int (by have := HT.out; split at this <;> omega), rfl⟩
  · have e1 : IntKind.i64.wrap t = t := IntWalk.i64_in _ (by omega)
    have hn : ¬ t < 0 := by omega
    go_enter Try.func49, Try.ntmps49
    go_wp2
    go_ret
    exact ⟨ret_int (by have := HT.out; split at this <;> omega), rfl⟩
end Go.Proofs.Ytdojgkjgjfclaaa
