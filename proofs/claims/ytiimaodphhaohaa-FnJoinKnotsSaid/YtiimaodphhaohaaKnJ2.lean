/- The program's JoinKnots; condition: lengths of at most 2^32, and no longer than the room. -/
import Derived.Test.YtiimaodphhaohaaKnJ
namespace Go.Proofs.Ytiimaodphhaohaa
open Go.RowKit
set_option linter.unusedVariables false
set_option linter.unusedSimpArgs false
set_option maxHeartbeats 2000000
set_option maxRecDepth 100000

theorem Ints.takeK {w : World} {B : Nat} {A : Option Addr} {l : List Int} (h : Ints w B A l) (k : Nat) : Ints w B A (l.take k) := fun hp => by
  simp at hp
  obtain ⟨g, f, e, hB, hc⟩ := h (by omega)
  refine ⟨g, f, e, hB, fun j hj => ?_⟩
  simp at hj
  have e2 : (l.take k).getD j 0 = l.getD j 0 := by
    have : j < k := by omega
    simp [List.getD, List.getElem?_take, this]
  rw [e2]
  exact hc _ (by omega)
theorem Ints.dropK {w : World} {B g f k : Nat} {l : List Int} (h : Ints w B (some ⟨g, f, none⟩) l) (hl : 0 < l.length) : Ints w B (some ⟨g, f + k, none⟩) (l.drop k) := fun hp => by
  obtain ⟨g', f', e, hB, hc⟩ := h hl
  simp only [Option.some.injEq, Addr.mk.injEq] at e
  obtain ⟨rfl, rfl, _⟩ := e
  refine ⟨_, _, rfl, hB, fun j hj => ?_⟩
  simp at hj
  have e : (l.drop k).getD j 0 = l.getD (k + j) 0 := by simp [List.getD]
  rw [e, Nat.add_assoc]
  exact hc _ (by omega)
theorem implJoinKnots_any (A : Option Addr) (n c : Nat) (xs : List Int) (x : Int) (w : World) (hn : xs.length = n * 2) (h : Ints w w.heap.size A xs) (hlen : n ≤ 1048576) (hc : n ≤ c) :
    Calls Try.prog 27 #[.slice A n c, .int .i64 x] w (IsNewK w (joinN xs n x) (joinL xs n x) (joinB xs n x)) := by
  have HN := Lib.hid hn
  clear hn
  have h0 := h
  cases hv : knotsB xs n
  · have E1 := join_no (joinOk_not (x := x) (.inl hv))
    go_enter Try.func27, Try.ntmps27
    go_wp2_with (go_at_call 16; refine (implKnotsValid_any A n c xs _ HN.out h (by omega)).mono ?_; rintro e w1 ⟨he, b1⟩; rw [hv] at he; subst he)
    go_ret2
    rw [E1.out.1, E1.out.2.1, E1.out.2.2]
    exact IsNewK.none_ (by repeat (first | exact bw_refl _ | assumption | apply bw_alloc | apply bw_drew | apply bw_drewN | (refine bw_trans ?_ (by assumption)) | (refine bw_set ?_ (by simp only [go_sem]; omega) _)))
  cases hi : inB x (-1000000) 1000000
  · have E1 := join_no (joinOk_not (xs := xs) (n := n) (x := x) (.inr hi))
    go_enter Try.func27, Try.ntmps27
    go_wp2_with fail
    refine (implKnotsValid_any A n c xs _ HN.out h (by omega)).mono ?_
    rintro e w1 ⟨he, b1⟩
    rw [hv] at he
    subst he
    go_wp2_with (go_at_call 37; refine (within_any _ _ (by omega) (by omega) _).mono ?_; rintro e w2 ⟨he, rfl⟩; rw [hi] at he; subst he)
    go_ret2
    rw [E1.out.1, E1.out.2.1, E1.out.2.2]
    exact IsNewK.none_ (by repeat (first | exact bw_refl _ | assumption | apply bw_alloc | apply bw_drew | apply bw_drewN | (refine bw_trans ?_ (by assumption)) | (refine bw_set ?_ (by simp only [go_sem]; omega) _)))
  have hok := joinOk_yes hv hi
  obtain ⟨k2, k12, -⟩ := knotsB_at hv
  obtain ⟨f1, -, -⟩ := ffN_spec xs x n
  have E12 := fun (q : n = 12) => join_full hok (full_12 (x := x) (xs := xs) q)
  have ETH := fun q1 q2 => join_full hok (full_there (x := x) (xs := xs) (n := n) q1 q2)
  have EIN := fun q1 q2 => join_ins hok (full_no (x := x) (xs := xs) (n := n) q1 q2)
  replace E12 := Lib.hid E12
  replace ETH := Lib.hid ETH
  replace EIN := Lib.hid EIN
  obtain ⟨p, hp⟩ : ∃ p, ffN xs x n = p := ⟨_, rfl⟩
  rw [hp] at f1
  have ew : IntKind.i64.wrap ((n : Int) + 1) = (n : Int) + 1 := IntWalk.i64_in _ (by omega)
  have hKV := Lib.hid (fun (w' : World) (h' : Ints w' w'.heap.size A xs) => implKnotValue_any A n c xs x w' HN.out h' (by omega))
  obtain ⟨V, hV⟩ : ∃ V, kvF xs n x = V := ⟨_, rfl⟩
  go_enter Try.func27, Try.ntmps27
  go_wp2_with fail
  refine (implKnotsValid_any A n c xs _ HN.out h (by omega)).mono ?_
  rintro e w1 ⟨he, b1⟩
  rw [hv] at he
  subst he
  replace h := h.up b1
  go_wp2_with fail
  refine (within_any _ _ (by omega) (by omega) _).mono ?_
  rintro e w2 ⟨he, rfl⟩
  rw [hi] at he
  subst he
  go_wp2_with fail
  refine (firstFrom_any A n c xs x _ HN.out h hv).mono ?_
  rintro e w2 ⟨he, rfl⟩
  rw [hp] at he
  subst he
  have HP := Lib.hid hp
  have HV := Lib.hid hV
  clear hv hi hok hp hV
  have hsz := b1.size
  obtain ⟨w3, hmk, hA, b3⟩ := run_make_room n (by omega) w.heap.size w1 hsz
  have i3 := h.up b3
  have c3 : Below w.heap.size w w3 := bw_trans b1 b3
  have hsz3 := c3.size
  obtain ⟨th, hth⟩ : ∃ th, (decide (p < n) && decide (kAt xs p = x)) = th := ⟨_, rfl⟩
  obtain ⟨g, f, rfl, hgl, hcs⟩ := h (by rw [HN.out]; omega)
  go_upto_region 4 with fail
  go_cut [7] (fun s7 wx => s7 = .bool th ∧ wx = w1)
  case first =>
    clear hmk hA b3 i3 c3
    by_cases hpn : p < n
    · have q1 := hcs (p * 2) (by rw [HN.out]; omega)
      obtain ⟨u, hu⟩ : ∃ u, xs.getD (p * 2) 0 = u := ⟨_, rfl⟩
      have hu2 : kAt xs p = u := hu
      rw [hu] at q1
      rw [hu2, decide_eq_true hpn, Bool.true_and] at hth
      clear hcs hu hu2
      have i0 : (0 : Int) ≤ (p : Int) := by omega
      have i1 : (p : Int) < (n : Int) := by omega
      have i2 : (p : Int).toNat = p := Int.toNat_natCast _
      by_cases hux : u = x
      · rw [decide_eq_true hux] at hth
        subst hux hth
        go_wp2
        go_meet
        exact ⟨rfl, rfl⟩
      · rw [decide_eq_false hux] at hth
        subst hth
        have hb : (u == x) = false := by simpa using hux
        go_wp2
        go_meet
        exact ⟨rfl, rfl⟩
    · rw [decide_eq_false hpn, Bool.false_and] at hth
      have i1 : ¬ (p : Int) < (n : Int) := by omega
      subst hth
      clear hcs
      go_wp2
      go_meet
      exact ⟨rfl, rfl⟩
  case rest =>
    obtain ⟨rfl, rfl⟩ := hcut
    clear hcs
    cases th
    · have hno : p < n → ¬ kAt xs p = x := fun h1 h2 => by rw [decide_eq_true h1, decide_eq_true h2] at hth; cases hth
      by_cases h12 : n = 12
      · have E1 := E12.out h12
        have j12 : ((n : Int) == 12) = true := by simp; omega
        clear hth hno h12
        go_upto_region 7 with fail
        go_wp2_with (at_builtin; refine wpList_append_knots (by kernel_rfl) (.tmp 43) (.tmp 44) rfl w.heap.size _ 0 n c _ [] xs w w3 rfl rfl hA HN.out i3 (by omega) (by omega) c3 hsz3 ?_; rintro v4 w4 hP4 hb4; rw [Nat.zero_add, List.nil_append] at hP4)
        go_ret2
        rw [E1.out.1, E1.out.2.1, E1.out.2.2]
        exact IsNewK.app hP4 hb4
      · have E1 := EIN.out h12 (by rw [HP.out]; exact hno)
        rw [HP.out, HV.out] at E1
        have j12 : ((n : Int) == 12) = false := by simp; omega
        clear hth hno
        have it := i3.takeK (p * 2)
        go_upto_region 8 with fail
        go_wp2_with (at_builtin; refine wpList_append_knots (by kernel_rfl) (.tmp 46) (.tmp 49) rfl w.heap.size _ 0 p c _ [] (xs.take (p * 2)) w w3 rfl rfl hA (by simp [HN.out]; omega) it (by omega) (by omega) c3 hsz3 ?_; rintro v4 w4 hP4 hb4; rw [Nat.zero_add, List.nil_append] at hP4; have hs4 := hb4.size)
        refine (hKV.out _ ((h0.below hb4).more hs4)).mono ?_
        rintro e w5 ⟨he, b5⟩
        rw [HV.out] at he
        subst he
        have hP5 := hP4.keep b5
        have c5 := bw_trans hb4 b5
        have hs5 := c5.size
        go_upto_region 10 with (at_builtin; refine wpList_append_knot rfl (.tmp 51) (.tmp 57) rfl w.heap.size _ _ _ x V w w5 rfl rfl hP5 (by omega) c5 hs5 ?_; rintro v6 w6 hP6 hb6; have hs6 := hb6.size)
        have i6 := (h0.below hb6).more hs6
        by_cases hcp : c = p
        · have hnp : n = p := by omega
          subst hnp hcp
          have ifr : Ints w6 w6.heap.size (some ⟨g, f, none⟩) (xs.drop (c * 2)) := fun hp => by simp [HN.out] at hp
          go_wp2_with (at_builtin; refine wpList_append_knots (by kernel_rfl) (.tmp 59) (.tmp 62) rfl w.heap.size _ (c + 1) 0 0 _ _ (xs.drop (c * 2)) w w6 rfl rfl hP6 (by simp [HN.out]) ifr (by omega) (by omega) hb6 hs6 ?_; rintro v7 w7 hP7 hb7; rw [Nat.add_zero] at hP7)
          go_ret2
          rw [E1.out.1, E1.out.2.1, E1.out.2.2]
          exact IsNewK.app hP7 hb7
        · have ifr := i6.dropK (k := p * 2) (by rw [HN.out]; omega)
          go_wp2_with (at_builtin; refine wpList_append_knots (by kernel_rfl) (.tmp 59) (.tmp 62) rfl w.heap.size _ (p + 1) (n - p) (c - p) _ _ (xs.drop (p * 2)) w w6 rfl rfl hP6 (by simp [HN.out]; omega) ifr (by omega) (by omega) hb6 hs6 ?_; rintro v7 w7 hP7 hb7; rw [show p + 1 + (n - p) = n + 1 by omega] at hP7)
          go_ret2
          rw [E1.out.1, E1.out.2.1, E1.out.2.2]
          exact IsNewK.app hP7 hb7
    · rw [Bool.and_eq_true, decide_eq_true_eq, decide_eq_true_eq] at hth
      have E1 := ETH.out (by rw [HP.out]; exact hth.1) (by rw [HP.out]; exact hth.2)
      clear hth
      go_upto_region 7 with fail
      go_wp2_with (at_builtin; refine wpList_append_knots (by kernel_rfl) (.tmp 43) (.tmp 44) rfl w.heap.size _ 0 n c _ [] xs w w3 rfl rfl hA HN.out i3 (by omega) (by omega) c3 hsz3 ?_; rintro v4 w4 hP4 hb4; rw [Nat.zero_add, List.nil_append] at hP4)
      go_ret2
      rw [E1.out.1, E1.out.2.1, E1.out.2.2]
      exact IsNewK.app hP4 hb4
end Go.Proofs.Ytiimaodphhaohaa
