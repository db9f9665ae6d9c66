/- The walk of the law PolyMean; no condition. -/
import Derived.Test.YtdnklndemoinaaaPolyLaws
namespace Go.Proofs.Ytdnklndemoinaaa
open Go.RowKit
set_option linter.unusedVariables false
set_option linter.unusedSimpArgs false
set_option maxHeartbeats 1000000

theorem cube_bd (a x m : Int) (hm : 0 ≤ m) (a0 : -m ≤ a) (a1 : a ≤ m) (x0 : -100 ≤ x) (x1 : x ≤ 100) : -(m * 100) ≤ a * x ∧ a * x ≤ m * 100 := mul_bd a x m 100 hm (by omega) a0 a1 x0 x1
theorem eval1 (a x : Int) : evalP x [a] = a := by simp [evalP]
theorem eval2 (a b x : Int) : evalP x [a, b] = b * x + a := by simp [evalP]
theorem eval3 (a b c x : Int) : evalP x [a, b, c] = (c * x + b) * x + a := by simp [evalP]
/-- What the law asks of a polynomial of at most three factors, with the bounds of all values. -/
theorem mean_math (s : List Int) (x : Int) (hs : polyB s = true) (h3 : s.length ≤ 3) (x0 : -100 < x) (x1 : x < 100) (hS : polyB (polySlope s) = true) :
    polyAt s (x + 1) - polyAt s (x - 1) = 2 * polyAt (polySlope s) x ∧ (-100000000 ≤ polyAt s (x + 1) ∧ polyAt s (x + 1) ≤ 100000000) ∧ (-100000000 ≤ polyAt s (x - 1) ∧ polyAt s (x - 1) ≤ 100000000) ∧ (-100000000 ≤ polyAt (polySlope s) x ∧ polyAt (polySlope s) x ≤ 100000000) := by
  have e1 : polyAt s (x + 1) = evalP (x + 1) s := by unfold polyAt; rw [hs, (inB_iff _ _ _).2 ⟨by omega, by omega⟩]; rfl
  have e2 : polyAt s (x - 1) = evalP (x - 1) s := by unfold polyAt; rw [hs, (inB_iff _ _ _).2 ⟨by omega, by omega⟩]; rfl
  have e3 : polyAt (polySlope s) x = evalP x (polySlope s) := by unfold polyAt; rw [hS, (inB_iff _ _ _).2 ⟨by omega, by omega⟩]; rfl
  rw [e1, e2, e3]
  obtain ⟨p1, p2, p3⟩ := polyB_spec s hs
  have q1 : polySlope s = if s.length = 1 then [0] else tab (slopeF s) (s.length - 1) := by unfold polySlope; rw [hs]; rfl
  match s, h3, p1, p3, q1 with
  | [a], _, _, p3, q1 =>
    have a0 := p3 0 (by simp)
    simp only [List.getD_cons_zero] at a0
    rw [q1]
    simp only [List.length_cons, List.length_nil, if_pos, eval1]
    simp [evalP]
    omega
  | [a, b], _, _, p3, q1 =>
    have a0 := p3 0 (by simp)
    have b0 := p3 1 (by simp)
    simp only [List.getD_cons_zero, List.getD_cons_succ] at a0 b0
    have eS : polySlope [a, b] = [b] := by rw [q1]; simp [tab, slopeF]
    rw [eS, eval1, eval2, eval2]
    have m1 := cube_bd b (x + 1) 1000 (by omega) b0.1 b0.2 (by omega) (by omega)
    have m2 := cube_bd b (x - 1) 1000 (by omega) b0.1 b0.2 (by omega) (by omega)
    have k1 : b * (x + 1) = b * x + b := by rw [Int.mul_add, Int.mul_one]
    have k2 : b * (x - 1) = b * x - b := by rw [Int.mul_sub, Int.mul_one]
    omega
  | [a, b, c], _, _, p3, q1 =>
    have a0 := p3 0 (by simp)
    have b0 := p3 1 (by simp)
    have c0 := p3 2 (by simp)
    simp only [List.getD_cons_zero, List.getD_cons_succ] at a0 b0 c0
    have eS : polySlope [a, b, c] = [b, 2 * c] := by rw [q1]; simp [tab, slopeF, List.range_succ]
    rw [eS, eval2, eval3, eval3]
    have u1 := cube_bd c (x + 1) 1000 (by omega) c0.1 c0.2 (by omega) (by omega)
    have u2 := cube_bd c (x - 1) 1000 (by omega) c0.1 c0.2 (by omega) (by omega)
    have u3 := cube_bd (2 * c) x 2000 (by omega) (by omega) (by omega) (by omega) (by omega)
    have v1 := cube_bd (c * (x + 1) + b) (x + 1) 101000 (by omega) (by omega) (by omega) (by omega) (by omega)
    have v2 := cube_bd (c * (x - 1) + b) (x - 1) 101000 (by omega) (by omega) (by omega) (by omega) (by omega)
    have k1 : (c * (x + 1) + b) * (x + 1) = c * x * x + 2 * (c * x) + c + b * x + b := by
      rw [Int.mul_add, Int.mul_one, Int.mul_add, Int.mul_one, Int.add_mul, Int.add_mul]; omega
    have k2 : (c * (x - 1) + b) * (x - 1) = c * x * x - 2 * (c * x) + c + b * x - b := by
      rw [Int.mul_sub, Int.mul_one, Int.mul_sub, Int.mul_one, Int.add_mul, Int.sub_mul]; omega
    have k3 : 2 * c * x = 2 * (c * x) := Int.mul_assoc _ _ _
    omega
theorem walk_FnPolyMean (A : Option Addr) (n c : Nat) (xs : List Int) (w : World) (h : Byts w w.heap.size A xs) (hn : xs.length = n) (hc : n ≤ c) (hm : c ≤ maxLen) :
    Calls Try.prog 9 #[.slice A n c] w fun e w' => e = .returned (.bool true) ∧ Below w.heap.size w w' := by
  by_cases hbig : 1048576 < n
  · unfold maxLen at hm
    clear hn
    go_enter Try.func9, Try.ntmps9
    go_wp2
    go_ret
    exact ⟨rfl, (by repeat (first | exact bw_refl _ | assumption | apply bw_alloc | apply bw_drew | apply bw_drewN | (refine bw_trans ?_ (by assumption)) | (refine bw_set ?_ (by simp only [go_sem]; omega) _)))⟩
  · have HN := Lib.hid hn
    clear hn
    go_enter Try.func9, Try.ntmps9
    go_wp2_with fail
    refine (drawPolyAt_any A n c xs w w h HN.out hc hm (by omega) (bw_refl w)).mono ?_
    rintro e w1 ⟨A1, c1, l, x, rfl, hl, o1, b1⟩
    have hlen : l.length ≤ 4294967296 := by omega
    have hi := o1.ints
    have hlc := o1.2.1
    clear o1
    obtain ⟨y, hy⟩ : ∃ o, polyAt l x = o := ⟨_, rfl⟩
    have HY := Lib.hid hy
    clear hy
    obtain ⟨o, ho⟩ : ∃ o, polyB l = o := ⟨_, rfl⟩
    have HO := Lib.hid ho
    clear ho
    by_cases hall : o = true ∧ -100 < x ∧ x < 100
    · obtain ⟨rfl, x0, x1⟩ := hall
      obtain ⟨p1, p2, _⟩ := polyB_spec l HO.out
      obtain ⟨m, hm3⟩ : ∃ m, min 3 l.length = m := ⟨_, rfl⟩
      have hm1 : 1 ≤ m := by omega
      have hml : m ≤ l.length := by omega
      have em : min (3 : Int) (l.length : Int) = (m : Int) := by omega
      have HMI := Lib.hid hm3
      have hmm : m ≤ 3 := by omega
      clear hm3
      have hsl : (l.take m).length = m := by rw [List.length_take]; omega
      have hps : polyB (l.take m) = true := by rw [polyB_take HO.out hml]; exact decide_eq_true hm1
      have hit := hi.take m
      obtain ⟨s, hs⟩ : ∃ s, l.take m = s := ⟨_, rfl⟩
      rw [hs] at hsl hps hit
      clear hs
      have HSL := Lib.hid hsl
      have HPS := Lib.hid hps
      clear hsl hps
      have f1 : (m : Int) ≤ (c1 : Int) := by omega
      have f2 : (m : Int).toNat = m := Int.toNat_natCast m
      have f3 : (0 : Int) ≤ (m : Int) := by omega
      have f4 : m ≤ c1 := by omega
      go_wp2_with (first
        | (go_at_call 17; refine (implPolyAt_any A1 _ c1 l x _ rfl hi hlen).mono ?_; rintro e w2 ⟨he, rfl⟩; rw [HY.out] at he; subst he)
        | (go_at_call 16; refine (specPolyAt_any A1 _ c1 l x _ rfl hi hlen).mono ?_; rintro e w2 ⟨he, hb⟩; rw [HY.out] at he; subst he; try subst hb)
        | (go_at_call 12; refine (specPolyValid_any A1 _ c1 l _ rfl hi hlen).mono ?_; rintro e w2 ⟨he, hb⟩; rw [HO.out] at he; subst he; try subst hb))
      refine (implPolySlope_any A1 m c1 s _ HSL.out hit (by omega)).mono ?_
      rintro e w3 ⟨⟨A3, c3, rfl, o3⟩, b3⟩
      have HS3 := Lib.hid o3.1
      have hrl : (polySlope s).length ≤ 4294967296 := polySlope_len s (by rw [HSL.out]; omega)
      obtain ⟨S, hS⟩ : ∃ S, polySlope s = S := ⟨_, rfl⟩
      rw [hS] at hrl o3 ⊢
      have HSS := Lib.hid hS
      clear hS HS3
      have i3 := o3.ints
      have it3 := hit.up b3
      clear o3
      cases hpS : polyB S
      · go_wp2_with (go_at_call 14; refine (implPolyValid_any A3 _ c3 S _ rfl i3 hrl).mono ?_; rintro e w2 ⟨he, rfl⟩; rw [hpS] at he; subst he)
        go_ret
        exact ⟨ret_bool (by simp), (by repeat (first | exact bw_refl _ | assumption | apply bw_alloc | apply bw_drew | apply bw_drewN | (refine bw_trans ?_ (by assumption)) | (refine bw_set ?_ (by simp only [go_sem]; omega) _)))⟩
      · obtain ⟨k0, ⟨k1, k2⟩, ⟨k3, k4⟩, k5, k6⟩ := mean_math s x HPS.out (by rw [HSL.out]; exact hmm) x0 x1 (by rw [HSS.out]; exact hpS)
        rw [HSS.out] at k0 k5 k6
        obtain ⟨a, ha⟩ : ∃ a, polyAt s (x + 1) = a := ⟨_, rfl⟩
        obtain ⟨b, hb⟩ : ∃ a, polyAt s (x - 1) = a := ⟨_, rfl⟩
        obtain ⟨d, hd⟩ : ∃ a, polyAt S x = a := ⟨_, rfl⟩
        rw [ha] at k0 k1 k2
        rw [hb] at k0 k3 k4
        rw [hd] at k0 k5 k6
        have HA := Lib.hid ha
        have HB := Lib.hid hb
        have HD := Lib.hid hd
        have HPV := Lib.hid hpS
        have HK := Lib.hid k0
        clear ha hb hd hpS k0
        go_wp2_with (first
          | (go_at_call 14; refine (implPolyValid_any A3 _ c3 S _ rfl i3 hrl).mono ?_; rintro e w2 ⟨he, rfl⟩; rw [HPV.out] at he; subst he)
          | (go_at_call 17; ((with_reducible refine (implPolyAt_any A1 m c1 s (x + 1) _ HSL.out it3 (by omega)).mono ?_)); rintro e w2 ⟨he, rfl⟩; rw [HA.out] at he; subst he)
          | (go_at_call 17; ((with_reducible refine (implPolyAt_any A1 m c1 s (x - 1) _ HSL.out it3 (by omega)).mono ?_)); rintro e w2 ⟨he, rfl⟩; rw [HB.out] at he; subst he)
          | (go_at_call 17; refine (implPolyAt_any A3 _ c3 S x _ rfl i3 hrl).mono ?_; rintro e w2 ⟨he, rfl⟩; rw [HD.out] at he; subst he))
        all_goals
          go_ret
          refine ⟨ret_bool ?_, (by repeat (first | exact bw_refl _ | assumption | apply bw_alloc | apply bw_drew | apply bw_drewN | (refine bw_trans ?_ (by assumption)) | (refine bw_set ?_ (by simp only [go_sem]; omega) _)))⟩
          have := HK.out
          simp <;> omega
    · have hkk : o = false ∨ (o = true ∧ x ≤ -100) ∨ (o = true ∧ 100 ≤ x) := by
        cases o
        · exact .inl rfl
        · have : ¬ (-100 < x ∧ x < 100) := fun hh => hall ⟨rfl, hh⟩
          have h5 : x ≤ -100 ∨ 100 ≤ x := by omega
          rcases h5 with h5 | h5
          · exact .inr (.inl ⟨rfl, h5⟩)
          · exact .inr (.inr ⟨rfl, h5⟩)
      clear hall
      rcases hkk with rfl | ⟨rfl, hx⟩ | ⟨rfl, hx⟩
      all_goals
        go_wp2_with (first
          | (go_at_call 17; refine (implPolyAt_any A1 _ c1 l x _ rfl hi hlen).mono ?_; rintro e w2 ⟨he, rfl⟩; rw [HY.out] at he; subst he)
          | (go_at_call 16; refine (specPolyAt_any A1 _ c1 l x _ rfl hi hlen).mono ?_; rintro e w2 ⟨he, hb⟩; rw [HY.out] at he; subst he; try subst hb)
          | (go_at_call 12; refine (specPolyValid_any A1 _ c1 l _ rfl hi hlen).mono ?_; rintro e w2 ⟨he, hb⟩; rw [HO.out] at he; subst he; try subst hb)
          | (go_at_call 26; refine (alive_any _).mono ?_; rintro e w4 ⟨rfl, rfl⟩))
        go_ret
        exact ⟨ret_bool (by simp), (by repeat (first | exact bw_refl _ | assumption | apply bw_alloc | apply bw_drew | apply bw_drewN | (refine bw_trans ?_ (by assumption)) | (refine bw_set ?_ (by simp only [go_sem]; omega) _)))⟩
end Go.Proofs.Ytdnklndemoinaaa
