/- Contracts of the growth of a rotation of twenty steps and of its start, both sides; no condition. -/
import Derived.Test.YtndpmcegealhiaaTurn
import Derived.Test.YtndpmcegealhiaaRoot
namespace Go.Proofs.Ytndpmcegealhiaa
open Go.RowKit
set_option linter.unusedVariables false
set_option linter.unusedSimpArgs false
set_option maxHeartbeats 2000000

theorem part_facts : ∀ k, k < 20 → (268435456 : Int) / 2 ^ (2 * k) = 268435456 / 4 ^ k ∧ (0 ≤ (268435456 : Int) / 4 ^ k ∧ (268435456 : Int) / 4 ^ k ≤ 268435456) ∧ (1 ≤ (2 : Int) ^ (2 * k) ∧ (2 : Int) ^ (2 * k) ≤ 274877906944) ∧ (k < 15 → (268435456 : Int) % 2 ^ (2 * k) = 0) ∧ (15 ≤ k → (268435456 : Int) % 2 ^ (2 * k) = 268435456) := by decide +kernel
/-- What a round needs: the product so far, the factor, and the next product. -/
theorem grow_round (k : Nat) (hk : k < 20) : ∃ p q P d p2 q2 : Int, growS k = (p, q) ∧ spOk p q = true ∧ (268435456 : Int) / 2 ^ (2 * k) = P ∧ (0 ≤ P ∧ P ≤ 268435456) ∧ (k < 15 → d = 0) ∧ (15 ≤ k → d = 1) ∧ spOk (268435456 + P) (268435456 + P + d) = true ∧ mulL p q (268435456 + P) (268435456 + P + d) = p2 ∧ mulH p q (268435456 + P) (268435456 + P + d) = q2 ∧ spOk p2 q2 = true ∧ growS (k + 1) = (p2, q2) := by
  obtain ⟨f1, f2, -, -, -⟩ := part_facts k hk
  obtain ⟨g1, g2⟩ := grow_ok k (by omega)
  have g3 := (grow_ok (k + 1) (by omega)).1
  refine ⟨(growS k).1, (growS k).2, 268435456 / 4 ^ k, if 14 < k then 1 else 0, (growS (k + 1)).1, (growS (k + 1)).2, rfl, g1, f1, f2, fun h => by rw [if_neg (by omega)], fun h => by rw [if_pos (by omega)], g2, rfl, rfl, g3, rfl⟩
theorem root_low : IsRoot 195407175730855936 442048838 := by unfold IsRoot; decide
theorem root_high : IsRoot 195407182441742336 442048846 := by unfold IsRoot; decide
def sqrtPost (w : World) (e : Ending) (w' : World) : Prop := e = .returned (.tuple #[.agg #[.int .i64 442048838, .int .i64 442048847], .bool true]) ∧ Below w.heap.size w w'
theorem specSqrt_c (w : World) : Calls Try.prog 76 #[.agg #[.int .i64 727948456, .int .i64 727948481]] w (sqrtPost w) := by
  have hok : spOk 727948456 727948481 = true := by decide
  have l0 := Blk.alloc (Blk.new w 62 #[.int .i64 727948456, .int .i64 727948481]) (.cells #[.int .i64 0, .int .i64 0] 62)
  have l1 := Blk.new (w.alloc (.cells #[.int .i64 727948456, .int .i64 727948481] 62)) 62 #[.int .i64 0, .int .i64 0]
  rw [World.size_alloc] at l1
  go_enter Try.func76, Try.ntmps76
  go_wp2_with fail
  refine (specSpanValid_any _ _ _).mono ?_
  rintro e w1 ⟨he, hb⟩
  rw [hok] at he
  subst he
  replace l0 := l0.up hb
  replace l1 := l1.up hb
  have b1 : Below w.heap.size w w1 := (by repeat (first | exact bw_refl _ | assumption | apply bw_alloc | apply bw_drew | apply bw_drewN | (refine bw_trans ?_ (by assumption)) | (refine bw_set ?_ (by simp only [go_sem]; omega) _)))
  clear hb
  obtain ⟨c0, c1, -, -⟩ := l0.rd2
  obtain ⟨c2, c3, f0, f1⟩ := l1.rd2
  go_wp2_with fail
  refine (l2Sqrt_ok 195407182441742336 (by decide) (by decide) _).mono ?_
  rintro e w2 ⟨⟨r, rfl, hr⟩, rfl⟩
  obtain rfl := hr.one root_high
  clear hr
  go_wp2_with fail
  refine (l2Sqrt_ok 195407175730855936 (by decide) (by decide) _).mono ?_
  rintro e w2 ⟨⟨r, rfl, hr⟩, rfl⟩
  obtain rfl := hr.one root_low
  clear hr
  go_wp2
  unfold sqrtPost
  refine bodyPost_ret (by simp only [results, Try.results76]; go_simp; all_goals (first | exact rfl | exact ⟨rfl, rfl⟩ | skip)) rfl ⟨rfl, (by repeat (first | exact bw_refl _ | assumption | apply bw_alloc | apply bw_drew | apply bw_drewN | (refine bw_trans ?_ (by assumption)) | (refine bw_set ?_ (by simp only [go_sem]; omega) _)))⟩
theorem implSqrt_c (w : World) : Calls Try.prog 69 #[.agg #[.int .i64 727948456, .int .i64 727948481]] w (sqrtPost w) := by
  have hok : spOk 727948456 727948481 = true := by decide
  have hc : chkL 442048838 442048847 = 442048838 ∧ chkH 442048838 442048847 = 442048847 ∧ spOk 442048838 442048847 = true := by decide
  have HC := Lib.hid hc
  clear hc
  have l0 := Blk.alloc (Blk.new w 62 #[.int .i64 727948456, .int .i64 727948481]) (.cells #[.int .i64 0, .int .i64 0] 62)
  have l1 := Blk.new (w.alloc (.cells #[.int .i64 727948456, .int .i64 727948481] 62)) 62 #[.int .i64 0, .int .i64 0]
  rw [World.size_alloc] at l1
  go_enter Try.func69, Try.ntmps69
  go_wp2_with fail
  refine (implSpanValid_any _ _ _).mono ?_
  rintro e w1 ⟨he, hb⟩
  rw [hok] at he
  subst he
  replace l0 := l0.up hb
  replace l1 := l1.up hb
  have b1 : Below w.heap.size w w1 := (by repeat (first | exact bw_refl _ | assumption | apply bw_alloc | apply bw_drew | apply bw_drewN | (refine bw_trans ?_ (by assumption)) | (refine bw_set ?_ (by simp only [go_sem]; omega) _)))
  clear hb
  obtain ⟨c0, c1, -, -⟩ := l0.rd2
  go_wp2_with fail
  refine (sqrtFloor_ok 195407182441742336 (by decide) (by decide) _).mono ?_
  rintro e w2 ⟨⟨r, rfl, hr⟩, rfl⟩
  obtain rfl := hr.one root_high
  clear hr
  go_wp2_with fail
  refine (sqrtFloor_ok 195407175730855936 (by decide) (by decide) _).mono ?_
  rintro e w2 ⟨⟨r, rfl, hr⟩, rfl⟩
  obtain rfl := hr.one root_low
  clear hr
  go_wp2_with fail
  refine (checked_any 442048838 442048847 _).mono ?_
  rintro e w3 ⟨he, hb⟩
  rw [HC.out.1, HC.out.2.1, HC.out.2.2] at he
  subst he
  replace l1 := l1.up hb
  have b3 : Below w.heap.size w w3 := (by repeat (first | exact bw_refl _ | assumption | apply bw_alloc | apply bw_drew | apply bw_drewN | (refine bw_trans ?_ (by assumption)) | (refine bw_set ?_ (by simp only [go_sem]; omega) _)))
  clear hb b1 c0 c1
  obtain ⟨c2, c3, f0, f1⟩ := l1.rd2
  go_wp2
  unfold sqrtPost
  refine bodyPost_ret (by simp only [results, Try.results69]; go_simp; all_goals (first | exact rfl | exact ⟨rfl, rfl⟩ | skip)) rfl ⟨rfl, (by repeat (first | exact bw_refl _ | assumption | apply bw_alloc | apply bw_drew | apply bw_drewN | (refine bw_trans ?_ (by assumption)) | (refine bw_set ?_ (by simp only [go_sem]; omega) _)))⟩
def growPost (w : World) (e : Ending) (w' : World) : Prop := e = .returned (.agg #[.int .i64 442048838, .int .i64 442048847]) ∧ Below w.heap.size w w'
theorem specGrow_20 (w : World) : Calls Try.prog 59 #[.int .i64 20] w (growPost w) := by
  have hin : inB 20 0 20 = true := by decide
  have l0 := Blk.alloc (Blk.new w 62 #[.int .i64 0, .int .i64 0]) (.cells #[.int .i64 268435456, .int .i64 268435456] 62)
  have l1 := Blk.new (w.alloc (.cells #[.int .i64 0, .int .i64 0] 62)) 62 #[.int .i64 268435456, .int .i64 268435456]
  rw [World.size_alloc] at l1
  go_enter Try.func59, Try.ntmps59
  go_wp2_with (go_at_call 27; refine (l1In_any _ _ _ _).mono ?_; rintro e w' ⟨he, rfl⟩; rw [hin] at he; subst he)
  go_loopw [4] (fun s wr => ∃ (k : Nat) (p q : Int), k ≤ 20 ∧ s = .int .i64 k ∧ growS k = (p, q) ∧ Blk wr w.heap.size 62 #[.int .i64 0, .int .i64 0] ∧ Blk wr (w.heap.size + 1) 62 #[.int .i64 p, .int .i64 q] ∧ Below w.heap.size w wr)
    (fun s _ => 20 - (intOf s).toNat)
  case atStart => exact ⟨0, 268435456, 268435456, Nat.zero_le _, rfl, rfl, l0, l1, (by repeat (first | exact bw_refl _ | assumption | apply bw_alloc | apply bw_drew | apply bw_drewN | (refine bw_trans ?_ (by assumption)) | (refine bw_set ?_ (by simp only [go_sem]; omega) _)))⟩
  case round =>
    clear l0 l1
    obtain ⟨k, p, q, hk, rfl, hS, l0, l1, hb⟩ := hrel
    have HS := Lib.hid hS
    clear hS
    have z0 := l0.lt
    have z1 := l1.lt
    obtain ⟨c0, c1, -, -⟩ := l1.rd2
    by_cases hlt : k < 20
    · obtain ⟨p', q', P, d, p2, q2, hS', ok1, hP, ⟨P0, P1⟩, hd0, hd1, ok2, hL, hH, ok3, hS2⟩ := grow_round k hlt
      rw [HS.out] at hS'
      injection hS' with e1 e2
      subst e1 e2
      have HS2 := Lib.hid hS2
      have M := specSpanMul_yes p q (268435456 + P) (268435456 + P + d) ok1 ok2 (by rw [hL, hH]; exact ok3)
      unfold mulPost at M
      rw [hL, hH] at M
      have t1 : (2 * (k : Int)).toNat = 2 * k := by omega
      have t2 : min (2 * k) 64 = 2 * k := by omega
      have t3 : (0 : Int) ≤ 2 * (k : Int) := by omega
      by_cases h15 : k < 15
      · have hd := hd0 h15
        subst hd
        have t4 : ¬ (28 : Int) < 2 * (k : Int) := by omega
        clear hd0 hd1 ok1 ok2 ok3 hL hH hS2
        have M' := M
        rw [Int.add_zero] at M'
        clear M
        go_wp2_with fail
        refine (M' _).mono ?_
        rintro e w2 ⟨rfl, hb2⟩
        clear M' c0 c1
        replace l0 := (l0.alloc (.cells #[.int .i64 (268435456 + P), .int .i64 (268435456 + P)] 62)).up hb2
        replace l1 := (l1.alloc (.cells #[.int .i64 (268435456 + P), .int .i64 (268435456 + P)] 62)).up hb2
        have b2 : Below w.heap.size w w2 := (by repeat (first | exact bw_refl _ | assumption | apply bw_alloc | apply bw_drew | apply bw_drewN | (refine bw_trans ?_ (by assumption)) | (refine bw_set ?_ (by simp only [go_sem]; omega) _)))
        clear hb hb2
        have k1 := l1.two (.int .i64 p2) (.int .i64 q2)
        have k0 := Blk.far (p := ⟨w.heap.size + 1, 1, none⟩) (Blk.far (p := ⟨w.heap.size + 1, 0, none⟩) l0 (Nat.ne_of_lt (Nat.lt_succ_self _)) (.int .i64 p2)) (Nat.ne_of_lt (Nat.lt_succ_self _)) (.int .i64 q2)
        have b3 := bw_set (bw_set b2 (p := ⟨w.heap.size + 1, 0, none⟩) (Nat.le_succ _) (.int .i64 p2)) (p := ⟨w.heap.size + 1, 1, none⟩) (Nat.le_succ _) (.int .i64 q2)
        obtain ⟨c0, c1, f0, f1⟩ := l1.rd2
        clear l0 l1 b2
        go_wp2
        go_roundw
        case rel => exact ⟨k + 1, p2, q2, by omega, by go_num, HS2.out, k0, k1, b3⟩
        case measure => simp [intOf]; omega
      · have hd := hd1 (by omega)
        subst hd
        have t4 : (28 : Int) < 2 * (k : Int) := by omega
        clear hd0 hd1 ok1 ok2 ok3 hL hH hS2
        go_wp2_with fail
        refine (M _).mono ?_
        rintro e w2 ⟨rfl, hb2⟩
        clear M c0 c1
        replace l0 := (l0.alloc (.cells #[.int .i64 (268435456 + P), .int .i64 (268435456 + P + 1)] 62)).up hb2
        replace l1 := (l1.alloc (.cells #[.int .i64 (268435456 + P), .int .i64 (268435456 + P + 1)] 62)).up hb2
        have b2 : Below w.heap.size w w2 := (by repeat (first | exact bw_refl _ | assumption | apply bw_alloc | apply bw_drew | apply bw_drewN | (refine bw_trans ?_ (by assumption)) | (refine bw_set ?_ (by simp only [go_sem]; omega) _)))
        clear hb hb2
        have k1 := l1.two (.int .i64 p2) (.int .i64 q2)
        have k0 := Blk.far (p := ⟨w.heap.size + 1, 1, none⟩) (Blk.far (p := ⟨w.heap.size + 1, 0, none⟩) l0 (Nat.ne_of_lt (Nat.lt_succ_self _)) (.int .i64 p2)) (Nat.ne_of_lt (Nat.lt_succ_self _)) (.int .i64 q2)
        have b3 := bw_set (bw_set b2 (p := ⟨w.heap.size + 1, 0, none⟩) (Nat.le_succ _) (.int .i64 p2)) (p := ⟨w.heap.size + 1, 1, none⟩) (Nat.le_succ _) (.int .i64 q2)
        obtain ⟨c0, c1, f0, f1⟩ := l1.rd2
        clear l0 l1 b2
        go_wp2
        go_roundw
        case rel => exact ⟨k + 1, p2, q2, by omega, by go_num, HS2.out, k0, k1, b3⟩
        case measure => simp [intOf]; omega
    · have hkk : k = 20 := by omega
      subst hkk
      have hg := HS.out
      rw [grow_is] at hg
      injection hg with e1 e2
      subst e1 e2
      go_wp2_with fail
      refine (specSqrt_c _).mono ?_
      rintro e w2 ⟨rfl, hb2⟩
      replace l0 := l0.up hb2
      replace l1 := l1.up hb2
      have b2 := bw_trans hb hb2
      clear hb hb2 c0 c1
      obtain ⟨c0, c1, f0, f1⟩ := l1.rd2
      obtain ⟨c2, c3, f2, f3⟩ := l0.rd2
      go_wp2
      unfold growPost
      refine bodyPost_ret (by simp only [results, Try.results59]; go_simp; all_goals (first | exact rfl | exact ⟨rfl, rfl⟩ | skip)) rfl ⟨rfl, (by repeat (first | exact bw_refl _ | assumption | apply bw_alloc | apply bw_drew | apply bw_drewN | (refine bw_trans ?_ (by assumption)) | (refine bw_set ?_ (by simp only [go_sem]; omega) _)))⟩
end Go.Proofs.Ytndpmcegealhiaa
