/- Contracts of the arc tangents and of the circle number; conditions: as many terms as the text sums up. -/
import Derived.Test.YtndpmcegealhiaaSpan3
namespace Go.Proofs.Ytndpmcegealhiaa
open Go.RowKit
set_option linter.unusedVariables false
set_option linter.unusedSimpArgs false
set_option maxHeartbeats 2000000

theorem arcS_even {k : Int} {j : Nat} {L H p : Int} (h : arcS k j = (L, H, p)) (hj : j % 2 = 0) : arcS k (j + 1) = (L + 268435456 / ((2 * j + 1) * p), H + cdiv 268435456 ((2 * j + 1) * p), p * k * k) := by
  unfold arcS; rw [if_pos hj, h]
theorem arcS_odd {k : Int} {j : Nat} {L H p : Int} (h : arcS k j = (L, H, p)) (hj : ¬ j % 2 = 0) : arcS k (j + 1) = (L - cdiv 268435456 ((2 * j + 1) * p), H - 268435456 / ((2 * j + 1) * p), p * k * k) := by
  unfold arcS; rw [if_neg hj, h]
theorem arcGood_of {k : Int} {n j : Nat} {L H p : Int} (h : arcOk k n = true) (hj : j ≤ n) (e : arcS k j = (L, H, p)) : (-1099511627776 ≤ L ∧ L ≤ 1099511627776) ∧ (-1099511627776 ≤ H ∧ H ≤ 1099511627776) ∧ (1 ≤ p ∧ p ≤ 1125899906842624) ∧ ((2 * (j : Int) + 1) * p ≤ 268435456 ↔ j < n) := by
  have := arcGood_iff (arcOk_at h j hj)
  rw [e] at this
  exact this
/-- What a round needs to know of its numbers. -/
theorem arc_round {k : Int} {n j : Nat} {L H p : Int} (hk0 : 2 ≤ k) (hk : k ≤ 65536) (h : arcOk k n = true) (hj : j < n) (hn : n ≤ 20) (e : arcS k j = (L, H, p)) :
    ∃ Q u v p1 p2 : Int, (2 * (j : Int) + 1) * p = Q ∧ 268435456 / Q = u ∧ cdiv 268435456 Q = v ∧ (268435456 : Int).tdiv Q = u ∧ p * k = p1 ∧ p1 * k = p2 ∧ p * (k * k) = p2 ∧ (1 ≤ Q ∧ Q ≤ 268435456) ∧ (0 ≤ u ∧ u ≤ 268435456) ∧ (0 ≤ v ∧ v ≤ 268435456) ∧ (1 ≤ p1 ∧ p1 ≤ 17592186044416) ∧ (1 ≤ p2 ∧ p2 ≤ 1125899906842624) ∧
      (j % 2 = 0 → arcS k (j + 1) = (L + u, H + v, p2) ∧ (-1099511627776 ≤ L + u ∧ L + u ≤ 1099511627776) ∧ (-1099511627776 ≤ H + v ∧ H + v ≤ 1099511627776)) ∧
      (¬ j % 2 = 0 → arcS k (j + 1) = (L - v, H - u, p2) ∧ (-1099511627776 ≤ L - v ∧ L - v ≤ 1099511627776) ∧ (-1099511627776 ≤ H - u ∧ H - u ≤ 1099511627776)) := by
  obtain ⟨-, -, ⟨p0, -⟩, hc⟩ := arcGood_of h (Nat.le_of_lt hj) e
  have hQ := hc.2 hj
  have hQ0 : 1 ≤ (2 * (j : Int) + 1) * p := by
    have : 1 * 1 ≤ (2 * (j : Int) + 1) * p := Int.mul_le_mul (by omega) p0 (by omega) (by omega)
    omega
  have hpQ : p ≤ (2 * (j : Int) + 1) * p := by
    have : 1 * p ≤ (2 * (j : Int) + 1) * p := Int.mul_le_mul_of_nonneg_right (by omega) (by omega)
    omega
  have hp1 : 1 ≤ p * k ∧ p * k ≤ 268435456 * 65536 := by
    constructor
    · have : 1 * 1 ≤ p * k := Int.mul_le_mul p0 (by omega) (by omega) (by omega)
      omega
    · exact Int.mul_le_mul (by omega) hk (by omega) (by omega)
  have hu : 0 ≤ 268435456 / ((2 * (j : Int) + 1) * p) ∧ 268435456 / ((2 * (j : Int) + 1) * p) ≤ 268435456 := ⟨Int.ediv_nonneg (by omega) (by omega), Int.ediv_le_self _ (by omega)⟩
  have hv := cdiv_bd 268435456 ((2 * (j : Int) + 1) * p) 268435456 (by omega) (by omega) (by omega) (by omega)
  have hv0 : 0 ≤ cdiv 268435456 ((2 * (j : Int) + 1) * p) := by
    unfold cdiv
    have : -268435456 / ((2 * (j : Int) + 1) * p) ≤ 0 := Int.ediv_nonpos_of_nonpos_of_neg (by omega) (by omega)
    omega
  have hassoc : p * (k * k) = p * k * k := (Int.mul_assoc _ _ _).symm
  refine ⟨_, _, _, _, _, rfl, rfl, rfl, Int.tdiv_eq_ediv_of_nonneg (by omega), rfl, rfl, hassoc, ⟨hQ0, hQ⟩, hu, ⟨hv0, hv.2⟩, ⟨hp1.1, by omega⟩, ?_, ?_, ?_⟩
  · by_cases h2 : j % 2 = 0
    · have := arcGood_of h hj (arcS_even e h2); exact this.2.2.1
    · have := arcGood_of h hj (arcS_odd e h2); exact this.2.2.1
  · intro h2
    have := arcGood_of h hj (arcS_even e h2)
    exact ⟨arcS_even e h2, this.1, this.2.1⟩
  · intro h2
    have := arcGood_of h hj (arcS_odd e h2)
    exact ⟨arcS_odd e h2, this.1, this.2.1⟩
def arcPost (k : Int) (n : Nat) (w : World) (x : Ending) (w' : World) : Prop := x = .returned (.agg #[.int .i64 (arcS k n).1, .int .i64 (arcS k n).2.1]) ∧ Below w.heap.size w w'
theorem specArcSpan_ok (k : Int) (n : Nat) (hk0 : 2 ≤ k) (hk : k ≤ 65536) (hn : n ≤ 20) (hok : arcOk k n = true) (w : World) : Calls Try.prog 70 #[.int .i64 k] w (arcPost k n w) := by
  have HOK := Lib.hid hok
  have hin : inB k 2 65536 = true := by rw [inB_iff]; omega
  clear hok
  have l0 := Blk.new w 62 #[.int .i64 0, .int .i64 0]
  have z := l0.lt
  go_enter Try.func70, Try.ntmps70
  go_wp2_with (go_at_call 27; refine (l1In_any _ _ _ _).mono ?_; rintro e w' ⟨he, rfl⟩; rw [hin] at he; subst he)
  go_loopw [4, 5] (fun s4 s5 wr => ∃ (j : Nat) (L H p : Int), j ≤ n ∧ s4 = .int .i64 p ∧ s5 = .int .i64 j ∧ arcS k j = (L, H, p) ∧ Blk wr w.heap.size 62 #[.int .i64 0, .int .i64 0] ∧ Blk wr (w.heap.size + 1) 62 #[.int .i64 L, .int .i64 H] ∧ Below w.heap.size w wr)
    (fun _ s5 _ => n - (intOf s5).toNat)
  case atStart => exact ⟨0, -1, 1, k, Nat.zero_le _, rfl, rfl, rfl, l0.alloc _, by have := Blk.new (w.alloc (.cells #[.int .i64 0, .int .i64 0] 62)) 62 #[.int .i64 (-1), .int .i64 1]; rw [World.size_alloc] at this; exact this, (by repeat (first | exact bw_refl _ | assumption | apply bw_alloc | apply bw_drew | apply bw_drewN | (refine bw_trans ?_ (by assumption)) | (refine bw_set ?_ (by simp only [go_sem]; omega) _)))⟩
  case round =>
    clear l0 z
    obtain ⟨j, L, H, p, hj, rfl, rfl, hS, l0, l1, hb⟩ := hrel
    have HS := Lib.hid hS
    obtain ⟨⟨L0, L1⟩, ⟨H0, H1⟩, ⟨p0, p1⟩, hc⟩ := arcGood_of HOK.out hj hS
    clear hS
    obtain ⟨c0, c1, f0, f1⟩ := l0.rd2
    obtain ⟨c2, c3, f2, f3⟩ := l1.rd2
    by_cases hlt : j < n
    · obtain ⟨Q, u, v, q1, q2, hQ, hu, hv, ht, hq1, hq2, -, ⟨Q0, Q1⟩, ⟨u0, u1⟩, ⟨v0, v1⟩, ⟨a0, a1⟩, ⟨b0, b1⟩, hev, hod⟩ := arc_round hk0 hk HOK.out hlt hn HS.out
      have hcc : Q ≤ 268435456 := Q1
      have HV := Lib.hid hv
      have HC := Lib.hid hc
      have HE := Lib.hid hev
      have HO := Lib.hid hod
      clear hv hc hev hod
      by_cases h2 : j % 2 = 0
      · obtain ⟨hs2, ⟨L2, L3⟩, ⟨H2, H3⟩⟩ := HE.out h2
        have HS2 := Lib.hid hs2
        have m1 : (j : Int).tmod 2 = 0 := by rw [Int.tmod_eq_emod_of_nonneg (by omega)]; omega
        have m2 : (j : Int) % 2 = 0 := by omega
        clear hs2
        go_wp2_with (go_at_call 74; refine (l7Ceil_ok 268435456 Q (by omega) (by omega) (by omega) (by omega) _).mono ?_; rintro e w2 ⟨he, rfl⟩; rw [HV.out] at he; subst he)
        go_roundw
        case rel => exact ⟨j + 1, L + u, H + v, q2, by omega, rfl, by go_num, HS2.out, (by repeat (first | assumption | apply Blk.alloc | (refine Blk.far ?_ (by first | assumption | (simp only []; omega) | (simp; omega)) _))), by exact Blk.two l1 _ _, (by repeat (first | exact bw_refl _ | assumption | apply bw_alloc | apply bw_drew | apply bw_drewN | (refine bw_trans ?_ (by assumption)) | (refine bw_set ?_ (by simp only [go_sem]; omega) _)))⟩
        case measure => simp [intOf]; omega
      · obtain ⟨hs2, ⟨L2, L3⟩, ⟨H2, H3⟩⟩ := HO.out h2
        have HS2 := Lib.hid hs2
        have m1 : (j : Int).tmod 2 = 1 := by rw [Int.tmod_eq_emod_of_nonneg (by omega)]; omega
        have m2 : (j : Int) % 2 = 1 := by omega
        clear hs2
        go_wp2_with (go_at_call 74; refine (l7Ceil_ok 268435456 Q (by omega) (by omega) (by omega) (by omega) _).mono ?_; rintro e w2 ⟨he, rfl⟩; rw [HV.out] at he; subst he)
        go_roundw
        case rel => exact ⟨j + 1, L - v, H - u, q2, by omega, rfl, by go_num, HS2.out, (by repeat (first | assumption | apply Blk.alloc | (refine Blk.far ?_ (by first | assumption | (simp only []; omega) | (simp; omega)) _))), by exact Blk.two l1 _ _, (by repeat (first | exact bw_refl _ | assumption | apply bw_alloc | apply bw_drew | apply bw_drewN | (refine bw_trans ?_ (by assumption)) | (refine bw_set ?_ (by simp only [go_sem]; omega) _)))⟩
        case measure => simp [intOf]; omega
    · obtain ⟨Q, hQ⟩ : ∃ Q, (2 * (j : Int) + 1) * p = Q := ⟨_, rfl⟩
      have hq1 : ¬ Q ≤ 268435456 := by rw [← hQ]; exact fun h => hlt (hc.1 h)
      have hq2 : Q ≤ 41 * 1125899906842624 := by rw [← hQ]; exact Int.mul_le_mul (by omega) p1 (by omega) (by omega)
      have hw : IntKind.i64.wrap Q = Q := IntWalk.i64_in _ (by omega)
      clear hc hq2
      have hjn : j = n := by omega
      subst hjn
      go_wp2
      have e1 : (arcS k j).1 = L := by rw [HS.out]
      have e2 : (arcS k j).2.1 = H := by rw [HS.out]
      unfold arcPost
      rw [e1, e2]
      refine bodyPost_ret (by simp only [results, Try.results70]; go_simp; all_goals (first | exact rfl | exact ⟨rfl, rfl⟩ | skip)) rfl ⟨rfl, (by repeat (first | exact bw_refl _ | assumption | apply bw_alloc | apply bw_drew | apply bw_drewN | (refine bw_trans ?_ (by assumption)) | (refine bw_set ?_ (by simp only [go_sem]; omega) _)))⟩
theorem implArcSpan_ok (k : Int) (n : Nat) (hk0 : 2 ≤ k) (hk : k ≤ 65536) (hn : n ≤ 20) (hok : arcOk k n = true) (w : World) : Calls Try.prog 61 #[.int .i64 k] w (arcPost k n w) := by
  have HOK := Lib.hid hok
  have hk1 : ¬ k < 2 := by omega
  have hk2 : ¬ 65536 < k := by omega
  have hkk : 1 ≤ k * k ∧ k * k ≤ 4294967296 := by
    constructor
    · have : 1 * 1 ≤ k * k := Int.mul_le_mul (by omega) (by omega) (by omega) (by omega)
      omega
    · have : k * k ≤ 65536 * 65536 := Int.mul_le_mul hk hk (by omega) (by omega)
      omega
  have hkw : IntKind.i64.wrap (k * k) = k * k := IntWalk.i64_in _ (by omega)
  clear hok hkk
  have l0 := Blk.new w 62 #[.int .i64 0, .int .i64 0]
  have z := l0.lt
  go_enter Try.func61, Try.ntmps61
  go_wp2
  go_loopw [4, 5, 6] (fun s4 s5 s6 wr => ∃ (j : Nat) (b : Bool) (L H p : Int), j ≤ n ∧ s4 = .bool b ∧ (if b = true then j % 2 = 0 else ¬ j % 2 = 0) ∧ s5 = .int .i64 p ∧ s6 = .int .i64 (2 * (j : Int) + 1) ∧ arcS k j = (L, H, p) ∧ Blk wr w.heap.size 62 #[.int .i64 0, .int .i64 0] ∧ Blk wr (w.heap.size + 1) 62 #[.int .i64 L, .int .i64 H] ∧ Below w.heap.size w wr)
    (fun _ _ s6 _ => 2 * n + 1 - (intOf s6).toNat)
  case atStart => exact ⟨0, true, -1, 1, k, Nat.zero_le _, rfl, by rw [if_pos rfl], rfl, rfl, rfl, l0.alloc _, by have := Blk.new (w.alloc (.cells #[.int .i64 0, .int .i64 0] 62)) 62 #[.int .i64 (-1), .int .i64 1]; rw [World.size_alloc] at this; exact this, (by repeat (first | exact bw_refl _ | assumption | apply bw_alloc | apply bw_drew | apply bw_drewN | (refine bw_trans ?_ (by assumption)) | (refine bw_set ?_ (by simp only [go_sem]; omega) _)))⟩
  case round =>
    clear l0 z
    obtain ⟨j, b, L, H, p, hj, rfl, hpar, rfl, rfl, hS, l0, l1, hb⟩ := hrel
    have HS := Lib.hid hS
    obtain ⟨⟨L0, L1⟩, ⟨H0, H1⟩, ⟨p0, p1⟩, hc⟩ := arcGood_of HOK.out hj hS
    clear hS
    obtain ⟨c0, c1, f0, f1⟩ := l0.rd2
    obtain ⟨c2, c3, f2, f3⟩ := l1.rd2
    have z1 := l1.lt
    by_cases hlt : j < n
    · obtain ⟨Q, u, v, q1, q2, hQ, hu, hv, ht, -, -, hq2, ⟨Q0, Q1⟩, ⟨u0, u1⟩, ⟨v0, v1⟩, ⟨a0, a1⟩, ⟨b0, b1⟩, hev, hod⟩ := arc_round hk0 hk HOK.out hlt hn HS.out
      have HU := Lib.hid hu
      have HV := Lib.hid hv
      have HC := Lib.hid hc
      have HE := Lib.hid hev
      have HO := Lib.hid hod
      clear hu ht hv hc hev hod
      cases b
      · have hpar2 : ¬ j % 2 = 0 := by simpa using hpar
        obtain ⟨hs2, ⟨L2, L3⟩, ⟨H2, H3⟩⟩ := HO.out hpar2
        have HS2 := Lib.hid hs2
        clear hs2 hpar
        go_wp2_with (first
          | (go_at_call 65; refine (implFloorDiv_ok 268435456 Q (by omega) (by omega) (by omega) (by omega) _).mono ?_; rintro e w2 ⟨he, rfl⟩; rw [HU.out] at he; subst he)
          | (go_at_call 66; refine (implCeilDiv_ok 268435456 Q (by omega) (by omega) (by omega) (by omega) _).mono ?_; rintro e w2 ⟨he, rfl⟩; rw [HV.out] at he; subst he))
        go_roundw
        case rel => exact ⟨j + 1, true, L - v, H - u, q2, by omega, rfl, by rw [if_pos rfl]; omega, rfl, by congr 1 <;> omega, HS2.out, (by repeat (first | assumption | apply Blk.alloc | (refine Blk.far ?_ (by first | assumption | (simp only []; omega) | (simp; omega)) _))), by first | exact Blk.alloc (Blk.two l1 _ _) _ | exact Blk.two (Blk.alloc l1 _) _ _, (by repeat (first | exact bw_refl _ | assumption | apply bw_alloc | apply bw_drew | apply bw_drewN | (refine bw_trans ?_ (by assumption)) | (refine bw_set ?_ (by simp only [go_sem]; omega) _)))⟩
        case measure => simp [intOf]; omega
      · have hpar2 : j % 2 = 0 := by simpa using hpar
        obtain ⟨hs2, ⟨L2, L3⟩, ⟨H2, H3⟩⟩ := HE.out hpar2
        have HS2 := Lib.hid hs2
        have HP2 := Lib.hid hpar2
        clear hs2 hpar hpar2
        go_wp2_with (first
          | (go_at_call 65; refine (implFloorDiv_ok 268435456 Q (by omega) (by omega) (by omega) (by omega) _).mono ?_; rintro e w2 ⟨he, rfl⟩; rw [HU.out] at he; subst he)
          | (go_at_call 66; refine (implCeilDiv_ok 268435456 Q (by omega) (by omega) (by omega) (by omega) _).mono ?_; rintro e w2 ⟨he, rfl⟩; rw [HV.out] at he; subst he))
        go_roundw
        case rel => exact ⟨j + 1, false, L + u, H + v, q2, by omega, rfl, by (have := HP2.out; rw [if_neg (by decide)]; omega), rfl, by congr 1 <;> omega, HS2.out, (by repeat (first | assumption | apply Blk.alloc | (refine Blk.far ?_ (by first | assumption | (simp only []; omega) | (simp; omega)) _))), by first | exact Blk.alloc (Blk.two l1 _ _) _ | exact Blk.two (Blk.alloc l1 _) _ _, (by repeat (first | exact bw_refl _ | assumption | apply bw_alloc | apply bw_drew | apply bw_drewN | (refine bw_trans ?_ (by assumption)) | (refine bw_set ?_ (by simp only [go_sem]; omega) _)))⟩
        case measure => simp [intOf]; omega
    · obtain ⟨Q, hQ⟩ : ∃ Q, (2 * (j : Int) + 1) * p = Q := ⟨_, rfl⟩
      have hq1 : ¬ Q ≤ 268435456 := by rw [← hQ]; exact fun h => hlt (hc.1 h)
      have hq2 : Q ≤ 41 * 1125899906842624 := by rw [← hQ]; exact Int.mul_le_mul (by omega) p1 (by omega) (by omega)
      have hw : IntKind.i64.wrap Q = Q := IntWalk.i64_in _ (by omega)
      clear hc hq2 hpar
      have hjn : j = n := by omega
      subst hjn
      go_wp2
      have e1 : (arcS k j).1 = L := by rw [HS.out]
      have e2 : (arcS k j).2.1 = H := by rw [HS.out]
      unfold arcPost
      rw [e1, e2]
      refine bodyPost_ret (by simp only [results, Try.results61]; go_simp; all_goals (first | exact rfl | exact ⟨rfl, rfl⟩ | skip)) rfl ⟨rfl, (by repeat (first | exact bw_refl _ | assumption | apply bw_alloc | apply bw_drew | apply bw_drewN | (refine bw_trans ?_ (by assumption)) | (refine bw_set ?_ (by simp only [go_sem]; omega) _)))⟩
def piPost (w : World) (x : Ending) (w' : World) : Prop := x = .returned (.agg #[.int .i64 843314816, .int .i64 843314944]) ∧ Below w.heap.size w w'
theorem specPiSpan_any (w : World) : Calls Try.prog 71 #[] w (piPost w) := by
  have A5 := specArcSpan_ok 5 5 (by decide) (by decide) (by decide) arc5
  have A239 := specArcSpan_ok 239 2 (by decide) (by decide) (by decide) arc239
  unfold arcPost at A5 A239
  rw [arc5_is.1, arc5_is.2] at A5
  rw [arc239_is.1, arc239_is.2] at A239
  have l0 := Blk.new w 62 #[.int .i64 0, .int .i64 0]
  go_enter Try.func71, Try.ntmps71
  go_wp2_with fail
  refine (A5 _).mono ?_
  rintro e w1 ⟨rfl, hb⟩
  replace l0 := l0.up hb
  have b1 : Below w.heap.size w w1 := (by repeat (first | exact bw_refl _ | assumption | apply bw_alloc | apply bw_drew | apply bw_drewN | (refine bw_trans ?_ (by assumption)) | (refine bw_set ?_ (by simp only [go_sem]; omega) _)))
  clear hb
  have l1 := Blk.new w1 62 #[.int .i64 52987965, .int .i64 52987972]
  replace l0 := l0.alloc (.cells #[.int .i64 52987965, .int .i64 52987972] 62)
  go_wp2_with fail
  refine (A239 _).mono ?_
  rintro e w2 ⟨rfl, hb⟩
  replace l0 := l0.up hb
  replace l1 := l1.up hb
  have b2 : Below w.heap.size w w2 := (by repeat (first | exact bw_refl _ | assumption | apply bw_alloc | apply bw_drew | apply bw_drewN | (refine bw_trans ?_ (by assumption)) | (refine bw_set ?_ (by simp only [go_sem]; omega) _)))
  clear hb b1
  have z0 := l0.lt
  have z1 := l1.lt
  obtain ⟨g0, g1, g2, g3⟩ := l0.rd2
  obtain ⟨g4, g5, -, -⟩ := l1.rd2
  go_wp2
  unfold piPost
  refine bodyPost_ret (by simp only [results, Try.results71]; go_simp; all_goals (first | exact rfl | exact ⟨rfl, rfl⟩ | skip)) rfl ⟨rfl, (by repeat (first | exact bw_refl _ | assumption | apply bw_alloc | apply bw_drew | apply bw_drewN | (refine bw_trans ?_ (by assumption)) | (refine bw_set ?_ (by simp only [go_sem]; omega) _)))⟩
theorem implPiSpan_any (w : World) : Calls Try.prog 60 #[] w (piPost w) := by
  have A5 := implArcSpan_ok 5 5 (by decide) (by decide) (by decide) arc5
  have A239 := implArcSpan_ok 239 2 (by decide) (by decide) (by decide) arc239
  unfold arcPost at A5 A239
  rw [arc5_is.1, arc5_is.2] at A5
  rw [arc239_is.1, arc239_is.2] at A239
  have ha : chkL (847807440 + -4492624) (847807552 + -4492608) = 843314816 ∧ chkH (847807440 + -4492624) (847807552 + -4492608) = 843314944 ∧ spOk (847807440 + -4492624) (847807552 + -4492608) = true := by decide
  have HA := Lib.hid ha
  clear ha
  have l0 := Blk.new w 62 #[.int .i64 0, .int .i64 0]
  go_enter Try.func60, Try.ntmps60
  go_wp2_with fail
  refine (A5 _).mono ?_
  rintro e w1 ⟨rfl, hb⟩
  replace l0 := l0.up hb
  have b1 : Below w.heap.size w w1 := (by repeat (first | exact bw_refl _ | assumption | apply bw_alloc | apply bw_drew | apply bw_drewN | (refine bw_trans ?_ (by assumption)) | (refine bw_set ?_ (by simp only [go_sem]; omega) _)))
  clear hb
  go_wp2_with fail
  refine (implTimes16 _).mono ?_
  rintro e w2 ⟨rfl, hb⟩
  replace l0 := l0.up hb
  have b2 : Below w.heap.size w w2 := (by repeat (first | exact bw_refl _ | assumption | apply bw_alloc | apply bw_drew | apply bw_drewN | (refine bw_trans ?_ (by assumption)) | (refine bw_set ?_ (by simp only [go_sem]; omega) _)))
  clear hb b1
  have l1 := Blk.new w2 62 #[.int .i64 847807440, .int .i64 847807552]
  replace l0 := l0.alloc (.cells #[.int .i64 847807440, .int .i64 847807552] 62)
  go_wp2_with fail
  refine (A239 _).mono ?_
  rintro e w3 ⟨rfl, hb⟩
  replace l0 := l0.up hb
  replace l1 := l1.up hb
  have b3 : Below w.heap.size w w3 := (by repeat (first | exact bw_refl _ | assumption | apply bw_alloc | apply bw_drew | apply bw_drewN | (refine bw_trans ?_ (by assumption)) | (refine bw_set ?_ (by simp only [go_sem]; omega) _)))
  clear hb b2
  go_wp2_with fail
  refine (implTimes4 _).mono ?_
  rintro e w4 ⟨rfl, hb⟩
  replace l0 := l0.up hb
  replace l1 := l1.up hb
  have b4 : Below w.heap.size w w4 := (by repeat (first | exact bw_refl _ | assumption | apply bw_alloc | apply bw_drew | apply bw_drewN | (refine bw_trans ?_ (by assumption)) | (refine bw_set ?_ (by simp only [go_sem]; omega) _)))
  clear hb b3
  have l3 := Blk.new w4 62 #[.int .i64 (-4492624), .int .i64 (-4492608)]
  replace l0 := l0.alloc (.cells #[.int .i64 (-4492624), .int .i64 (-4492608)] 62)
  have z1 := l1.lt
  obtain ⟨g4, g5, -, -⟩ := l1.rd2
  go_wp2_with fail
  refine (implSpanAdd_ok 847807440 847807552 (-4492624) (-4492608) (by decide) (by decide) _).mono ?_
  rintro e w5 ⟨he, hb⟩
  rw [HA.out.1, HA.out.2.1, HA.out.2.2] at he
  subst he
  replace l0 := l0.up hb
  have b5 : Below w.heap.size w w5 := (by repeat (first | exact bw_refl _ | assumption | apply bw_alloc | apply bw_drew | apply bw_drewN | (refine bw_trans ?_ (by assumption)) | (refine bw_set ?_ (by simp only [go_sem]; omega) _)))
  clear hb b4 g4 g5 z1 l1 l3
  have z0 := l0.lt
  obtain ⟨g0, g1, g2, g3⟩ := l0.rd2
  go_wp2
  unfold piPost
  refine bodyPost_ret (by simp only [results, Try.results60]; go_simp; all_goals (first | exact rfl | exact ⟨rfl, rfl⟩ | skip)) rfl ⟨rfl, (by repeat (first | exact bw_refl _ | assumption | apply bw_alloc | apply bw_drew | apply bw_drewN | (refine bw_trans ?_ (by assumption)) | (refine bw_set ?_ (by simp only [go_sem]; omega) _)))⟩
end Go.Proofs.Ytndpmcegealhiaa
