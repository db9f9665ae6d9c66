/- The draws of knots, and the walks of the laws KnotsValid and KnotsRise; no condition. -/
import Derived.Test.YtiimaodphhaohaaKnD
namespace Go.Proofs.Ytiimaodphhaohaa
open Go.RowKit
set_option linter.unusedVariables false
set_option linter.unusedSimpArgs false
set_option maxHeartbeats 2000000

def GetsK (w : World) (e : Ending) (w' : World) : Prop := ∃ (A : Option Addr) (n c : Nat) (l : List Int), e = .returned (.slice A n c) ∧ 1 ≤ n ∧ n ≤ 13 ∧ Small l ∧ OwnK w.heap.size w' A n c l ∧ Below w.heap.size w w'
theorem drawKnotsValid_any (A : Option Addr) (n c : Nat) (xs : List Int) (w0 w : World) (h : Byts w0 w0.heap.size A xs) (hn : xs.length = n) (hc : n ≤ c) (hm : c ≤ maxLen) (hlen : n ≤ 1048576) (hb0 : Below w0.heap.size w0 w) :
    Calls Try.prog 28 #[.slice A n c] w (GetsK w) := by
  go_enter Try.func28, Try.ntmps28
  go_wp2_with fail
  refine (open_any A n c xs w0 _ h hn hc hm hlen hb0).mono ?_
  rintro e w1 ⟨R, rfl, hRs, hR, hb⟩
  go_wp2_with fail
  refine (l20Knots_any R _ _ (by omega) (by omega) _ hR (by omega)).mono ?_
  rintro e w2 ⟨A2, n2, c2, l, rfl, h1, h13, hs, ho, hR2, hO⟩
  have hb2 := below_only hb hO hRs
  have ho2 := ho.le hb.size
  go_wp2
  go_ret
  exact ⟨A2, n2, c2, l, rfl, h1, h13, hs, ho2, hb2⟩
theorem drawKnotsRise_any (A : Option Addr) (n c : Nat) (xs : List Int) (w0 w : World) (h : Byts w0 w0.heap.size A xs) (hn : xs.length = n) (hc : n ≤ c) (hm : c ≤ maxLen) (hlen : n ≤ 1048576) (hb0 : Below w0.heap.size w0 w) :
    Calls Try.prog 30 #[.slice A n c] w (GetsK w) := by
  go_enter Try.func30, Try.ntmps30
  go_wp2_with fail
  refine (open_any A n c xs w0 _ h hn hc hm hlen hb0).mono ?_
  rintro e w1 ⟨R, rfl, hRs, hR, hb⟩
  go_wp2_with fail
  refine (l20Knots_any R _ _ (by omega) (by omega) _ hR (by omega)).mono ?_
  rintro e w2 ⟨A2, n2, c2, l, rfl, h1, h13, hs, ho, hR2, hO⟩
  have hb2 := below_only hb hO hRs
  have ho2 := ho.le hb.size
  go_wp2
  go_ret
  exact ⟨A2, n2, c2, l, rfl, h1, h13, hs, ho2, hb2⟩
theorem drawTurnKnots_any (A : Option Addr) (n c : Nat) (xs : List Int) (w0 w : World) (h : Byts w0 w0.heap.size A xs) (hn : xs.length = n) (hc : n ≤ c) (hm : c ≤ maxLen) (hlen : n ≤ 1048576) (hb0 : Below w0.heap.size w0 w) :
    Calls Try.prog 32 #[.slice A n c] w (GetsK w) := by
  go_enter Try.func32, Try.ntmps32
  go_wp2_with fail
  refine (open_any A n c xs w0 _ h hn hc hm hlen hb0).mono ?_
  rintro e w1 ⟨R, rfl, hRs, hR, hb⟩
  go_wp2_with fail
  refine (l20Knots_any R _ _ (by omega) (by omega) _ hR (by omega)).mono ?_
  rintro e w2 ⟨A2, n2, c2, l, rfl, h1, h13, hs, ho, hR2, hO⟩
  have hb2 := below_only hb hO hRs
  have ho2 := ho.le hb.size
  go_wp2
  go_ret
  exact ⟨A2, n2, c2, l, rfl, h1, h13, hs, ho2, hb2⟩
theorem kAt_drop (l : List Int) (k : Nat) : kAt (l.drop 2) k = kAt l (k + 1) := by
  unfold kAt
  have e : (l.drop 2).getD (k * 2) 0 = l.getD (2 + k * 2) 0 := by simp [List.getD]
  rw [e]; congr 1; omega
theorem kVal_drop (l : List Int) (k : Nat) : kVal (l.drop 2) k = kVal l (k + 1) := by
  unfold kVal
  have e : (l.drop 2).getD (k * 2 + 1) 0 = l.getD (2 + (k * 2 + 1)) 0 := by simp [List.getD]
  rw [e]; congr 1; omega
theorem knotsB_mk {xs : List Int} {n : Nat} (h2 : 2 ≤ n) (h12 : n ≤ 12) (h : ∀ k, k < n → (-1000000 ≤ kAt xs k ∧ kAt xs k ≤ 1000000) ∧ (-1000000 ≤ kVal xs k ∧ kVal xs k ≤ 1000000) ∧ (0 < k → kAt xs (k - 1) < kAt xs k)) : knotsB xs n = true := by
  rw [knotsB_all xs n fun k hk => ?_]
  · rw [inB_iff]; omega
  · obtain ⟨a, b, c⟩ := h k hk
    unfold kOk
    rw [Bool.and_eq_true, Bool.and_eq_true, inB_iff, inB_iff, Bool.or_eq_true, decide_eq_true_eq]
    refine ⟨⟨a, b⟩, ?_⟩
    rcases Nat.eq_zero_or_pos k with hz | hz
    · exact .inl (by simpa using hz)
    · exact .inr (c hz)
theorem knotsB_few {xs : List Int} {n : Nat} (h : n < 2) : knotsB xs n = false := by
  cases hv : knotsB xs n
  · rfl
  · have := (knotsB_at hv).1; omega
theorem knotsB_tail {l : List Int} {n : Nat} (h : knotsB l n = true) : knotsB (l.drop 2) (n - 1) = decide (2 < n) := by
  obtain ⟨h2, h12, hk⟩ := knotsB_at h
  by_cases h3 : 2 < n
  · rw [decide_eq_true h3]
    refine knotsB_mk (by omega) (by omega) fun k hk2 => ?_
    rw [kAt_drop, kVal_drop]
    obtain ⟨a, b, c⟩ := hk (k + 1) (by omega)
    refine ⟨a, b, fun hp => ?_⟩
    rw [kAt_drop, Nat.sub_add_cancel hp]
    have := c (by omega)
    rw [Nat.add_sub_cancel] at this
    exact this
  · rw [decide_eq_false h3]
    exact knotsB_few (by omega)
theorem OwnK.tail {B n c g : Nat} {w : World} {l : List Int} (h : OwnK B w (some ⟨g, 0, none⟩) n c l) (h1 : 2 ≤ n) : Ints w w.heap.size (some ⟨g, 2, none⟩) (l.drop 2) := fun _ => by
  obtain ⟨hl, hc, hp⟩ := h
  obtain ⟨g', e, hg, hR⟩ := hp (by omega)
  simp only [Option.some.injEq, Addr.mk.injEq] at e
  obtain ⟨rfl, -, -⟩ := e
  refine ⟨g, 2, rfl, hR.lt, fun j hj => ?_⟩
  simp at hj
  have e : (l.drop 2).getD j 0 = l.getD (2 + j) 0 := by simp [List.getD]
  rw [e]
  exact hR.cell (by omega)
theorem walk_FnKnotsValid (A : Option Addr) (n c : Nat) (xs : List Int) (w : World) (h : Byts w w.heap.size A xs) (hn : xs.length = n) (hc : n ≤ c) (hm : c ≤ maxLen) :
    Calls Try.prog 8 #[.slice A n c] w fun e w' => e = .returned (.bool true) ∧ Below w.heap.size w w' := by
  by_cases hbig : 1048576 < n
  · unfold maxLen at hm
    clear hn
    go_enter Try.func8, Try.ntmps8
    go_wp2
    go_ret
    exact ⟨rfl, (by repeat (first | exact bw_refl _ | assumption | apply bw_alloc | apply bw_drew | apply bw_drewN | (refine bw_trans ?_ (by assumption)) | (refine bw_set ?_ (by simp only [go_sem]; omega) _)))⟩
  · have HN := Lib.hid hn
    clear hn
    go_enter Try.func8, Try.ntmps8
    go_wp2_with fail
    refine (drawKnotsValid_any A n c xs w _ h HN.out hc hm (by omega) (bw_refl w)).mono ?_
    rintro e w1 ⟨A1, k, c1, l, rfl, k1, k13, -, ho, b1⟩
    have HL := Lib.hid ho.1
    have hkc : k ≤ c1 := ho.2.1
    go_wp2_with fail
    refine (implKnotsValid_any A1 k c1 l _ HL.out ho.ints (by omega)).mono ?_
    rintro e w2 ⟨rfl, b2⟩
    replace ho := ho.up b2
    have b3 := bw_trans b1 b2
    clear b1 b2
    cases hv : knotsB l k
    · go_wp2_with fail
      refine (specKnotsValid_any A1 k c1 l _ HL.out ho.ints (by omega)).mono ?_
      rintro e w4 ⟨he, b4⟩
      rw [hv] at he
      subst he
      have e0 : knotsB [] 0 = false := knotsB_few (by omega)
      have HN0 := Lib.hid e0
      have HV := Lib.hid hv
      clear e0 hv
      go_wp2_with fail
      refine (implKnotsValid_any none 0 0 [] _ rfl (Ints_nil _ _ _) (by omega)).mono ?_
      rintro e w5 ⟨he, b5⟩
      rw [HN0.out] at he
      subst he
      go_wp2_with (go_at_call 29; refine (alive_any _).mono ?_; rintro e w' ⟨rfl, rfl⟩)
      go_ret
      exact ⟨rfl, (by repeat (first | exact bw_refl _ | assumption | apply bw_alloc | apply bw_drew | apply bw_drewN | (refine bw_trans ?_ (by assumption)) | (refine bw_set ?_ (by simp only [go_sem]; omega) _)))⟩
    · obtain ⟨k2, k12, -⟩ := knotsB_at hv
      obtain ⟨g, rfl, hg, hrow⟩ := ho.2.2 (by omega)
      go_wp2_with fail
      refine (specKnotsValid_any _ k c1 l _ HL.out ho.ints (by omega)).mono ?_
      rintro e w4 ⟨he, b4⟩
      rw [hv] at he
      subst he
      replace ho := ho.up b4
      have ht := ho.tail k2
      have hvt := Lib.hid (knotsB_tail hv)
      have e0 : knotsB [] 0 = false := knotsB_few (by omega)
      have HN0 := Lib.hid e0
      have hcne : ¬ c1 = 1 := by omega
      have ic : (1 : Int) ≤ (k : Int) := by omega
      have ic2 : (1 : Int) ≤ (c1 : Int) := by omega
      have ic3 : (k : Int) ≤ (c1 : Int) := by omega
      have HT : Hid ((l.drop 2).length = (k - 1) * 2) := by unfold Hid; rw [List.length_drop, HL.out]; omega
      clear e0 hv
      go_wp2_with fail
      refine (implKnotsValid_any (some ⟨g, 2, none⟩) (k - 1) (c1 - 1) (l.drop 2) _ HT.out ht (by omega)).mono ?_
      rintro e w5 ⟨he, b5⟩
      rw [hvt.out] at he
      subst he
      by_cases h3 : 2 < k
      · have q1 : decide (2 < k) = true := decide_eq_true h3
        have q2 : decide ((2 : Int) < (k : Int)) = true := decide_eq_true (by omega)
        go_wp2_with fail
        refine (implKnotsValid_any none 0 0 [] _ rfl (Ints_nil _ _ _) (by omega)).mono ?_
        rintro e w6 ⟨he, b6⟩
        rw [HN0.out] at he
        subst he
        go_wp2_with (go_at_call 29; refine (alive_any _).mono ?_; rintro e w' ⟨rfl, rfl⟩)
        go_ret
        exact ⟨rfl, (by repeat (first | exact bw_refl _ | assumption | apply bw_alloc | apply bw_drew | apply bw_drewN | (refine bw_trans ?_ (by assumption)) | (refine bw_set ?_ (by simp only [go_sem]; omega) _)))⟩
      · have q1 : decide (2 < k) = false := decide_eq_false h3
        have q2 : decide ((2 : Int) < (k : Int)) = false := decide_eq_false (by omega)
        go_wp2_with fail
        refine (implKnotsValid_any none 0 0 [] _ rfl (Ints_nil _ _ _) (by omega)).mono ?_
        rintro e w6 ⟨he, b6⟩
        rw [HN0.out] at he
        subst he
        go_wp2_with (go_at_call 29; refine (alive_any _).mono ?_; rintro e w' ⟨rfl, rfl⟩)
        go_ret
        exact ⟨rfl, (by repeat (first | exact bw_refl _ | assumption | apply bw_alloc | apply bw_drew | apply bw_drewN | (refine bw_trans ?_ (by assumption)) | (refine bw_set ?_ (by simp only [go_sem]; omega) _)))⟩
theorem riseB_knots {xs : List Int} {n : Nat} (h : riseB xs n = true) : knotsB xs n = true := by
  unfold riseB at h; rw [Bool.and_eq_true] at h; exact h.2
theorem walk_FnKnotsRise (A : Option Addr) (n c : Nat) (xs : List Int) (w : World) (h : Byts w w.heap.size A xs) (hn : xs.length = n) (hc : n ≤ c) (hm : c ≤ maxLen) :
    Calls Try.prog 9 #[.slice A n c] w fun e w' => e = .returned (.bool true) ∧ Below w.heap.size w w' := by
  by_cases hbig : 1048576 < n
  · unfold maxLen at hm
    clear hn
    go_enter Try.func9, Try.ntmps9
    go_wp2
    go_ret
    exact ⟨rfl, (by repeat (first | exact bw_refl _ | assumption | apply bw_alloc | apply bw_drew | apply bw_drewN | (refine bw_trans ?_ (by assumption)) | (refine bw_set ?_ (by simp only [go_sem]; omega) _)))⟩
  · have HN := Lib.hid hn
    clear hn
    go_enter Try.func9, Try.ntmps9
    go_wp2_with fail
    refine (drawKnotsRise_any A n c xs w _ h HN.out hc hm (by omega) (bw_refl w)).mono ?_
    rintro e w1 ⟨A1, k, c1, l, rfl, k1, k13, -, ho, b1⟩
    have HL := Lib.hid ho.1
    have hturn : turnB l k = riseB l k := rfl
    obtain ⟨b, hb⟩ : ∃ b, riseB l k = b := ⟨_, rfl⟩
    have HK := Lib.hid (fun (h : b = true) => riseB_knots (hb.trans h))
    go_wp2_with fail
    refine (implKnotsRise_any A1 k c1 l _ HL.out ho.ints (by omega)).mono ?_
    rintro e w2 ⟨he, b2⟩
    rw [hb] at he
    subst he
    replace ho := ho.up b2
    have b3 := bw_trans b1 b2
    clear b1 b2
    go_wp2_with fail
    refine (specKnotsRise_any A1 k c1 l _ HL.out ho.ints (by omega)).mono ?_
    rintro e w4 ⟨he, b4⟩
    rw [hb] at he
    subst he
    replace ho := ho.up b4
    replace b3 := bw_trans b3 b4
    clear b4
    have HB := Lib.hid hb
    have HTU := Lib.hid hturn
    clear hb hturn
    cases b
    · go_wp2_with fail
      refine (implTurnKnots_any A1 k c1 l _ HL.out ho.ints (by omega)).mono ?_
      rintro e w5 ⟨⟨A5, c5, rfl, o5⟩, b5⟩
      rw [HTU.out, HB.out]
      go_wp2_with (go_at_call 29; refine (alive_any _).mono ?_; rintro e w' ⟨rfl, rfl⟩)
      go_ret
      exact ⟨rfl, (by repeat (first | exact bw_refl _ | assumption | apply bw_alloc | apply bw_drew | apply bw_drewN | (refine bw_trans ?_ (by assumption)) | (refine bw_set ?_ (by simp only [go_sem]; omega) _)))⟩
    · go_wp2_with fail
      refine (implTurnKnots_any A1 k c1 l _ HL.out ho.ints (by omega)).mono ?_
      rintro e w5 ⟨⟨A5, c5, rfl, o5⟩, b5⟩
      rw [HTU.out, HB.out]
      replace ho := ho.up b5
      go_wp2_with fail
      refine (implKnotsValid_any A1 k c1 l _ HL.out ho.ints (by omega)).mono ?_
      rintro e w6 ⟨he, b6⟩
      rw [HK.out (by first | rfl | trivial)] at he
      subst he
      go_wp2_with (go_at_call 29; refine (alive_any _).mono ?_; rintro e w' ⟨rfl, rfl⟩)
      go_ret
      exact ⟨rfl, (by repeat (first | exact bw_refl _ | assumption | apply bw_alloc | apply bw_drew | apply bw_drewN | (refine bw_trans ?_ (by assumption)) | (refine bw_set ?_ (by simp only [go_sem]; omega) _)))⟩
end Go.Proofs.Ytiimaodphhaohaa
