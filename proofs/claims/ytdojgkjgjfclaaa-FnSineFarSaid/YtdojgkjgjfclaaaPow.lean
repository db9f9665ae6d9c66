/- Contracts of the powers of spans; conditions: all powers are valid. -/
import Derived.Test.YtdojgkjgjfclaaaSpan3
namespace Go.Proofs.Ytdojgkjgjfclaaa
open Go.RowKit
set_option linter.unusedVariables false
set_option linter.unusedSimpArgs false
set_option maxHeartbeats 2000000

def powPost (L H : Int) (e : Nat) (w : World) (x : Ending) (w' : World) : Prop := x = .returned (.tuple #[.agg #[.int .i64 (powP L H e).1, .int .i64 (powP L H e).2], .bool true]) ∧ Below w.heap.size w w'
theorem specSpanPower_ok (L H : Int) (n : Nat) (hn : n ≤ 20) (h1 : spOk L H = true) (hok : powOk L H n = true) (w : World) :
    Calls Try.prog 47 #[.agg #[.int .i64 L, .int .i64 H], .int .i64 n] w (powPost L H n w) := by
  have HOK := Lib.hid (powOk_at hok)
  have HO := Lib.hid h1
  have hin : inB (n : Int) 0 20 = true := by rw [inB_iff]; omega
  clear hok h1
  have l0 := Blk.alloc (Blk.new w 29 #[.int .i64 L, .int .i64 H]) (.cells #[.int .i64 0, .int .i64 0] 29)
  have l1 := Blk.new (w.alloc (.cells #[.int .i64 L, .int .i64 H] 29)) 29 #[.int .i64 0, .int .i64 0]
  rw [World.size_alloc] at l1
  go_enter Try.func47, Try.ntmps47
  go_wp2_with fail
  refine (specSpanValid_any L H _).mono ?_
  rintro e w1 ⟨he, hb⟩
  rw [HO.out] at he
  subst he
  replace l0 := l0.up hb
  replace l1 := l1.up hb
  have b1 : Below w.heap.size w w1 := (by repeat (first | exact bw_refl _ | assumption | apply bw_alloc | apply bw_drew | apply bw_drewN | (refine bw_trans ?_ (by assumption)) | (refine bw_set ?_ (by simp only [go_sem]; omega) _)))
  have hg := l1.lt
  clear hb
  go_wp2_with (go_at_call 24; refine (l1In_any _ _ _ _).mono ?_; rintro e w' ⟨he, rfl⟩; rw [hin] at he; subst he)
  go_loopw [7] (fun i wr => ∃ (k : Nat) (p q : Int), k ≤ n ∧ i = .int .i64 k ∧ powP L H k = (p, q) ∧ Blk wr w.heap.size 29 #[.int .i64 L, .int .i64 H] ∧ Blk wr (w.heap.size + 1) 29 #[.int .i64 0, .int .i64 0] ∧ Blk wr w1.heap.size 29 #[.int .i64 p, .int .i64 q] ∧ Below w.heap.size w wr)
    (fun i _ => n - (intOf i).toNat)
  case atStart => exact ⟨0, 268435456, 268435456, Nat.zero_le _, rfl, rfl, l0.alloc _, l1.alloc _, Blk.new _ _ _, (by repeat (first | exact bw_refl _ | assumption | apply bw_alloc | apply bw_drew | apply bw_drewN | (refine bw_trans ?_ (by assumption)) | (refine bw_set ?_ (by simp only [go_sem]; omega) _)))⟩
  case round =>
    clear l0 l1 b1
    obtain ⟨k, p, q, hk, rfl, hp, l0, l1, l6, hb⟩ := hrel
    have HP := Lib.hid hp
    clear hp
    have z0 := l0.lt
    have z6 := l6.lt
    obtain ⟨c0, c1, -, -⟩ := l0.rd2
    obtain ⟨c2, c3, f2, f3⟩ := l1.rd2
    obtain ⟨c4, c5, f4, f5⟩ := l6.rd2
    by_cases hlt : k < n
    · have ok1 : spOk p q = true := by have := HOK.out k (by omega); rw [HP.out] at this; exact this
      have ok2 : spOk (mulL p q L H) (mulH p q L H) = true := by have := HOK.out (k + 1) (by omega); unfold powP at this; rw [HP.out] at this; exact this
      have hp2 : powP L H (k + 1) = (mulL p q L H, mulH p q L H) := by unfold powP; rw [HP.out]
      have HP2 := Lib.hid hp2
      clear hp2
      have M := specSpanMul_yes p q L H ok1 HO.out ok2
      unfold mulPost at M
      clear ok1 ok2
      generalize mulL p q L H = p2 at M HP2
      generalize mulH p q L H = q2 at M HP2
      go_wp2_with fail
      refine (M _).mono ?_
      rintro e w2 ⟨rfl, hb2⟩
      clear M c0 c1 c2 c3 c4 c5 f2 f3 f4 f5
      replace l0 := l0.up hb2
      replace l1 := l1.up hb2
      replace l6 := l6.up hb2
      obtain ⟨c4, c5, f4, f5⟩ := l6.rd2
      have z2 := l6.lt
      have b2 := bw_trans hb hb2
      clear hb2 hb
      go_wp2
      go_roundw
      case rel => exact ⟨k + 1, p2, q2, by omega, by go_num, HP2.out, (by repeat (first | assumption | apply Blk.alloc | (refine Blk.far ?_ (by first | assumption | (simp only []; omega) | (simp; omega)) _))), (by repeat (first | assumption | apply Blk.alloc | (refine Blk.far ?_ (by first | assumption | (simp only []; omega) | (simp; omega)) _))), by first | exact Blk.alloc (Blk.two l6 _ _) _ | exact Blk.two (Blk.alloc l6 _) _ _, (by repeat (first | exact bw_refl _ | assumption | apply bw_alloc | apply bw_drew | apply bw_drewN | (refine bw_trans ?_ (by assumption)) | (refine bw_set ?_ (by simp only [go_sem]; omega) _)))⟩
      case measure => simp [intOf]; omega
    · have hkn : k = n := by omega
      subst hkn
      go_wp2
      have hq1 : (powP L H k).1 = p := by rw [HP.out]
      have hq2 : (powP L H k).2 = q := by rw [HP.out]
      unfold powPost
      rw [hq1, hq2]
      refine bodyPost_ret (by simp only [results, Try.results47]; go_simp; all_goals (first | exact rfl | exact ⟨rfl, rfl⟩ | skip)) rfl ⟨rfl, (by repeat (first | exact bw_refl _ | assumption | apply bw_alloc | apply bw_drew | apply bw_drewN | (refine bw_trans ?_ (by assumption)) | (refine bw_set ?_ (by simp only [go_sem]; omega) _)))⟩
theorem implSpanPower_ok (L H : Int) (n : Nat) (hn : n ≤ 20) (h1 : spOk L H = true) (hok : powOk L H n = true) (w : World) :
    Calls Try.prog 21 #[.agg #[.int .i64 L, .int .i64 H], .int .i64 n] w (powPost L H n w) := by
  have HOK := Lib.hid (powOk_at hok)
  have HO := Lib.hid h1
  have hn0 : ¬ (n : Int) < 0 := by omega
  have hn1 : ¬ 20 < (n : Int) := by omega
  clear hok h1
  have l0 := Blk.alloc (Blk.new w 29 #[.int .i64 L, .int .i64 H]) (.cells #[.int .i64 0, .int .i64 0] 29)
  have l1 := Blk.new (w.alloc (.cells #[.int .i64 L, .int .i64 H] 29)) 29 #[.int .i64 0, .int .i64 0]
  rw [World.size_alloc] at l1
  go_enter Try.func21, Try.ntmps21
  go_wp2_with fail
  refine (implSpanValid_any L H _).mono ?_
  rintro e w1 ⟨he, hb⟩
  rw [HO.out] at he
  subst he
  replace l0 := l0.up hb
  replace l1 := l1.up hb
  have b1 : Below w.heap.size w w1 := (by repeat (first | exact bw_refl _ | assumption | apply bw_alloc | apply bw_drew | apply bw_drewN | (refine bw_trans ?_ (by assumption)) | (refine bw_set ?_ (by simp only [go_sem]; omega) _)))
  have hg := l1.lt
  clear hb
  go_wp2_with fail
  refine (alone_any _ _).mono ?_
  rintro e w3 ⟨rfl, hb⟩
  replace l0 := l0.up hb
  replace l1 := l1.up hb
  have b3 : Below w.heap.size w w3 := (by repeat (first | exact bw_refl _ | assumption | apply bw_alloc | apply bw_drew | apply bw_drewN | (refine bw_trans ?_ (by assumption)) | (refine bw_set ?_ (by simp only [go_sem]; omega) _)))
  have hg3 := l1.lt
  clear hb hg b1
  go_wp2
  go_loopw [23] (fun i wr => ∃ (k : Nat) (p q : Int), k ≤ n ∧ i = .int .i64 k ∧ powP L H k = (p, q) ∧ Blk wr w.heap.size 29 #[.int .i64 L, .int .i64 H] ∧ Blk wr (w.heap.size + 1) 29 #[.int .i64 0, .int .i64 0] ∧ Blk wr w3.heap.size 29 #[.int .i64 p, .int .i64 q] ∧ Below w.heap.size w wr)
    (fun i _ => n - (intOf i).toNat)
  case atStart => exact ⟨0, 268435456, 268435456, Nat.zero_le _, rfl, rfl, l0.alloc _, l1.alloc _, Blk.new _ _ _, (by repeat (first | exact bw_refl _ | assumption | apply bw_alloc | apply bw_drew | apply bw_drewN | (refine bw_trans ?_ (by assumption)) | (refine bw_set ?_ (by simp only [go_sem]; omega) _)))⟩
  case round =>
    clear l0 l1 b3
    obtain ⟨k, p, q, hk, rfl, hp, l0, l1, l6, hb⟩ := hrel
    have HP := Lib.hid hp
    clear hp
    have z0 := l0.lt
    have z6 := l6.lt
    obtain ⟨c0, c1, -, -⟩ := l0.rd2
    obtain ⟨c2, c3, f2, f3⟩ := l1.rd2
    obtain ⟨c4, c5, f4, f5⟩ := l6.rd2
    by_cases hlt : k < n
    · have ok1 : spOk p q = true := by have := HOK.out k (by omega); rw [HP.out] at this; exact this
      have ok2 : spOk (mulL p q L H) (mulH p q L H) = true := by have := HOK.out (k + 1) (by omega); unfold powP at this; rw [HP.out] at this; exact this
      have hp2 : powP L H (k + 1) = (mulL p q L H, mulH p q L H) := by unfold powP; rw [HP.out]
      have HP2 := Lib.hid hp2
      clear hp2
      have M := implSpanMul_yes p q L H ok1 HO.out ok2
      unfold mulPost at M
      clear ok1 ok2
      generalize mulL p q L H = p2 at M HP2
      generalize mulH p q L H = q2 at M HP2
      go_wp2_with fail
      refine (M _).mono ?_
      rintro e w2 ⟨rfl, hb2⟩
      clear M c0 c1 c2 c3 c4 c5 f2 f3 f4 f5
      replace l0 := l0.up hb2
      replace l1 := l1.up hb2
      replace l6 := l6.up hb2
      obtain ⟨c4, c5, f4, f5⟩ := l6.rd2
      have z2 := l6.lt
      have b2 := bw_trans hb hb2
      clear hb2 hb
      go_wp2
      go_roundw
      case rel => exact ⟨k + 1, p2, q2, by omega, by go_num, HP2.out, (by repeat (first | assumption | apply Blk.alloc | (refine Blk.far ?_ (by first | assumption | (simp only []; omega) | (simp; omega)) _))), (by repeat (first | assumption | apply Blk.alloc | (refine Blk.far ?_ (by first | assumption | (simp only []; omega) | (simp; omega)) _))), by first | exact Blk.alloc (Blk.two l6 _ _) _ | exact Blk.two (Blk.alloc l6 _) _ _, (by repeat (first | exact bw_refl _ | assumption | apply bw_alloc | apply bw_drew | apply bw_drewN | (refine bw_trans ?_ (by assumption)) | (refine bw_set ?_ (by simp only [go_sem]; omega) _)))⟩
      case measure => simp [intOf]; omega
    · have hkn : k = n := by omega
      subst hkn
      go_wp2
      have hq1 : (powP L H k).1 = p := by rw [HP.out]
      have hq2 : (powP L H k).2 = q := by rw [HP.out]
      unfold powPost
      rw [hq1, hq2]
      refine bodyPost_ret (by simp only [results, Try.results21]; go_simp; all_goals (first | exact rfl | exact ⟨rfl, rfl⟩ | skip)) rfl ⟨rfl, (by repeat (first | exact bw_refl _ | assumption | apply bw_alloc | apply bw_drew | apply bw_drewN | (refine bw_trans ?_ (by assumption)) | (refine bw_set ?_ (by simp only [go_sem]; omega) _)))⟩
end Go.Proofs.Ytdojgkjgjfclaaa
