/- The specification's JoinKnots; condition: lengths of at most 2^20. -/
import Derived.Test.YtiimaodphhaohaaKnJ2
namespace Go.Proofs.Ytiimaodphhaohaa
open Go.RowKit
set_option linter.unusedVariables false
set_option linter.unusedSimpArgs false
set_option maxHeartbeats 2000000
set_option maxRecDepth 100000

def anyAt (xs : List Int) (x : Int) : Nat → Bool
  | 0 => false
  | k + 1 => anyAt xs x k || decide (kAt xs k = x)
theorem anyAt_iff (xs : List Int) (x : Int) : ∀ k, anyAt xs x k = true ↔ ∃ j, j < k ∧ kAt xs j = x
  | 0 => by
    constructor
    · intro h; cases h
    · rintro ⟨j, hj, _⟩; exact absurd hj (Nat.not_lt_zero _)
  | k + 1 => by
    unfold anyAt
    rw [Bool.or_eq_true, decide_eq_true_eq, anyAt_iff xs x k]
    constructor
    · rintro (⟨j, hj, e⟩ | e)
      · exact ⟨j, by omega, e⟩
      · exact ⟨k, by omega, e⟩
    · rintro ⟨j, hj, e⟩
      by_cases hjk : j = k
      · exact .inr (hjk ▸ e)
      · exact .inl ⟨j, by omega, e⟩
theorem full_any {xs : List Int} {n : Nat} {x : Int} (hv : knotsB xs n = true) : (decide (n = 12) || anyAt xs x n) = fullB xs n x := by
  obtain ⟨f1, f2, f3⟩ := ffN_spec xs x n
  have e : anyAt xs x n = (decide (ffN xs x n < n) && decide (kAt xs (ffN xs x n) = x)) := by
    rw [Bool.eq_iff_iff, anyAt_iff, Bool.and_eq_true, decide_eq_true_eq, decide_eq_true_eq]
    constructor
    · rintro ⟨j, hj, hx⟩
      have h1 : ¬ j < ffN xs x n := fun h => by have := f2 j h; omega
      have h2 : ffN xs x n = j := by
        by_cases h3 : ffN xs x n = j
        · exact h3
        · have := kAt_mono hv j hj (ffN xs x n) (by omega)
          have := f3 (by omega)
          omega
      rw [h2]
      exact ⟨hj, hx⟩
    · rintro ⟨h1, h2⟩
      exact ⟨_, h1, h2⟩
  unfold fullB
  rw [e, Bool.or_comm]
theorem takeK_succ (l : List Int) (k : Nat) (h : k * 2 + 1 < l.length) : l.take ((k + 1) * 2) = l.take (k * 2) ++ [l.getD (k * 2) 0, l.getD (k * 2 + 1) 0] := by
  have e : (k + 1) * 2 = k * 2 + 1 + 1 := by omega
  have h2 : k * 2 < l.length := by omega
  have g : ∀ i (hi : i < l.length), l.getD i 0 = l[i] := fun i hi => by simp [List.getD, List.getElem?_eq_getElem hi]
  rw [e, List.take_add_one, List.take_add_one, List.getElem?_eq_getElem h, List.getElem?_eq_getElem h2, g _ h, g _ h2, List.append_assoc]
  rfl
def insP (xs : List Int) (p k : Nat) (u v : Int) : List Int := (xs.take (p * 2) ++ [u, v]) ++ (xs.drop (p * 2)).take ((k - p) * 2)
theorem insP_succ (l : List Int) (p k : Nat) (u v : Int) (hk : p ≤ k) (h : k * 2 + 1 < l.length) : insP l p (k + 1) u v = insP l p k u v ++ [l.getD (k * 2) 0, l.getD (k * 2 + 1) 0] := by
  unfold insP
  have e : k + 1 - p = k - p + 1 := by omega
  have g : ∀ j, (l.drop (p * 2)).getD j 0 = l.getD (p * 2 + j) 0 := fun j => by simp [List.getD]
  rw [e, takeK_succ _ _ (by simp; omega), g, g, show p * 2 + (k - p) * 2 = k * 2 by omega, show p * 2 + ((k - p) * 2 + 1) = k * 2 + 1 by omega, List.append_assoc (l.take (p * 2) ++ [u, v])]
theorem insP_self (l : List Int) (p : Nat) (u v : Int) : insP l p p u v = l.take (p * 2) ++ [u, v] := by
  unfold insP; simp
theorem insP_end (l : List Int) (p n : Nat) (u v : Int) (hl : l.length = n * 2) (hp : p ≤ n) : insP l p n u v = insL l p u v := by
  have e : (l.drop (p * 2)).take ((n - p) * 2) = l.drop (p * 2) := List.take_of_length_le (by simp; omega)
  unfold insP insL
  rw [e]
theorem insL_end (l : List Int) (n : Nat) (u v : Int) (hl : l.length = n * 2) : l ++ [u, v] = insL l n u v := by
  unfold insL
  rw [List.take_of_length_le (by omega), List.drop_of_length_le (by omega), List.append_nil]
theorem specJoinKnots_any (A : Option Addr) (n c : Nat) (xs : List Int) (x : Int) (w : World) (hn : xs.length = n * 2) (h : Ints w w.heap.size A xs) (hlen : n ≤ 1048576) :
    Calls Try.prog 26 #[.slice A n c, .int .i64 x] w (IsNewK w (joinN xs n x) (joinL xs n x) (joinB xs n x)) := by
  have HN := Lib.hid hn
  clear hn
  cases hv : knotsB xs n
  · have E1 := join_no (joinOk_not (x := x) (.inl hv))
    go_enter Try.func26, Try.ntmps26
    go_wp2_with (go_at_call 14; refine (specKnotsValid_any A n c xs _ HN.out h (by omega)).mono ?_; rintro e w1 ⟨he, b1⟩; rw [hv] at he; subst he)
    go_ret2
    rw [E1.out.1, E1.out.2.1, E1.out.2.2]
    exact IsNewK.none_ (by repeat (first | exact bw_refl _ | assumption | apply bw_alloc | apply bw_drew | apply bw_drewN | (refine bw_trans ?_ (by assumption)) | (refine bw_set ?_ (by simp only [go_sem]; omega) _)))
  cases hi : inB x (-1000000) 1000000
  · have E1 := join_no (joinOk_not (xs := xs) (n := n) (x := x) (.inr hi))
    go_enter Try.func26, Try.ntmps26
    go_wp2_with fail
    refine (specKnotsValid_any A n c xs _ HN.out h (by omega)).mono ?_
    rintro e w1 ⟨he, b1⟩
    rw [hv] at he
    subst he
    go_wp2_with (go_at_call 35; refine (l1In_any _ _ _ _).mono ?_; rintro e w2 ⟨he, rfl⟩; rw [hi] at he; subst he)
    go_ret2
    rw [E1.out.1, E1.out.2.1, E1.out.2.2]
    exact IsNewK.none_ (by repeat (first | exact bw_refl _ | assumption | apply bw_alloc | apply bw_drew | apply bw_drewN | (refine bw_trans ?_ (by assumption)) | (refine bw_set ?_ (by simp only [go_sem]; omega) _)))
  have hok := joinOk_yes hv hi
  obtain ⟨k2, k12, -⟩ := knotsB_at hv
  obtain ⟨f1, f2, f3⟩ := ffN_spec xs x n
  have hfa := full_any (x := x) hv
  have hKV := Lib.hid (fun (w' : World) (h' : Ints w' w'.heap.size A xs) => specKnotValue_any A n c xs x w' HN.out h' (by omega))
  have HI : Hid (∀ w' : World, Below w.heap.size w w' → Ints w' w'.heap.size A xs) := fun w' hb => (h.below hb).more hb.size
  obtain ⟨V, hV⟩ : ∃ V, kvF xs n x = V := ⟨_, rfl⟩
  obtain ⟨d, hd⟩ : ∃ d, decide (n = 12) = d := ⟨_, rfl⟩
  have hd2 : ((n : Int) == 12) = d := by
    rw [← hd, Bool.eq_iff_iff]; simp; omega
  rw [hd] at hfa
  go_enter Try.func26, Try.ntmps26
  go_wp2_with fail
  refine (specKnotsValid_any A n c xs _ HN.out h (by omega)).mono ?_
  rintro e w1 ⟨he, b1⟩
  rw [hv] at he
  subst he
  go_wp2_with fail
  refine (l1In_any _ _ _ _).mono ?_
  rintro e w2 ⟨he, rfl⟩
  rw [hi] at he
  subst he
  have hA := AppK.empty w1 w.heap.size b1.size
  have c1 : Below w.heap.size w (w1.alloc (.cells #[] 41)) := (by repeat (first | exact bw_refl _ | assumption | apply bw_alloc | apply bw_drew | apply bw_drewN | (refine bw_trans ?_ (by assumption)) | (refine bw_set ?_ (by simp only [go_sem]; omega) _)))
  obtain ⟨g, f, rfl, hgl, hcs⟩ := h (by rw [HN.out]; omega)
  have HC : Hid (∀ w' : World, Below w.heap.size w w' → ∀ j, j < n → g < w'.heap.size ∧ w'.cell? ⟨g, f + j * 2, none⟩ = some (.int .i64 (kAt xs j)) ∧ w'.cell? ⟨g, f + j * 2 + 1, none⟩ = some (.int .i64 (kVal xs j))) := fun w' hb j hj =>
    ⟨lt_keep hb hgl, (hb.cell (p := ⟨g, f + j * 2, none⟩) hgl).trans (hcs (j * 2) (by rw [HN.out]; omega)), (hb.cell (p := ⟨g, f + j * 2 + 1, none⟩) hgl).trans (hcs (j * 2 + 1) (by rw [HN.out]; omega))⟩
  clear hcs h hgl
  go_upto_region 5 with fail
  have HD := Lib.hid hd2
  have HV := Lib.hid hV
  clear hd2 hd hi hV
  generalize w1.alloc (.cells #[] 41) = W at *
  go_wp2_with fail
  go_loopw [7, 8] (fun b i wr => ∃ k : Nat, k ≤ n ∧ b = .bool (d || anyAt xs x k) ∧ i = .int .i64 k ∧ wr = W) (fun _ i _ => n - (intOf i).toNat)
  case atStart => exact ⟨0, Nat.zero_le _, by unfold anyAt; rw [Bool.or_false], rfl, rfl⟩
  case round =>
    obtain ⟨k, hk, rfl, rfl, rfl⟩ := hrel
    by_cases hlt : k < n
    · obtain ⟨z1, q1, -⟩ := HC.out _ c1 k hlt
      have HE : Hid (anyAt xs x (k + 1) = (anyAt xs x k || decide (kAt xs k = x))) := rfl
      obtain ⟨u, hu⟩ : ∃ u, kAt xs k = u := ⟨_, rfl⟩
      rw [hu] at q1 HE
      have i0 : (0 : Int) ≤ (k : Int) := by omega
      have i1 : (k : Int) < (n : Int) := by omega
      have i2 : (k : Int).toNat = k := Int.toNat_natCast _
      clear hu hfa
      generalize hb0 : (d || anyAt xs x k) = b0 at *
      have HB0 := Lib.hid hb0
      clear hb0
      cases b0
      · by_cases hux : u = x
        · subst hux
          go_wp2
          go_roundw
          case rel => exact ⟨k + 1, by omega, by rw [HE.out, ← Bool.or_assoc, HB0.out]; simp, by go_num, by first | rfl | trivial⟩
          case measure => simp [intOf]; omega
        · have hb : (u == x) = false := by simpa using hux
          go_wp2
          go_roundw
          case rel => exact ⟨k + 1, by omega, by rw [HE.out, ← Bool.or_assoc, HB0.out]; simp [hux], by go_num, by first | rfl | trivial⟩
          case measure => simp [intOf]; omega
      · go_wp2
        go_roundw
        case rel => exact ⟨k + 1, by omega, by rw [HE.out, ← Bool.or_assoc, HB0.out]; simp, by go_num, by first | rfl | trivial⟩
        case measure => simp [intOf]; omega
    · have hkk : k = n := by omega
      subst hkk
      rw [hfa]
      clear hfa
      have HOK := Lib.hid hok
      cases hf : fullB xs k x
      · have E1 := join_ins HOK.out hf
        have hne : ffN xs x k < k → ¬ kAt xs (ffN xs x k) = x := fun h1 h2 => by rw [full_there h1 h2] at hf; cases hf
        obtain ⟨p, hp⟩ : ∃ p, ffN xs x k = p := ⟨_, rfl⟩
        rw [hp] at f1 f2 f3 hne E1
        rw [HV.out] at E1
        replace hne := Lib.hid hne
        replace f2 := Lib.hid f2
        replace f3 := Lib.hid f3
        clear hf hp HD hok
        go_wp2_with fail
        go_loopw [6, 7, 10] (fun v b i wr => ∃ (m q : Nat) (y : Value) (L : List Int) (b0 : Bool), y = v ∧ m ≤ k ∧ b = .bool b0 ∧ i = .int .i64 m ∧ AppK wr w.heap.size y q L ∧ Below w.heap.size w wr ∧ ((m ≤ p ∧ m = q ∧ L = xs.take (m * 2) ∧ b0 = false) ∨ (p < m ∧ q = m + 1 ∧ L = insP xs p m x V ∧ b0 = true))) (fun _ _ i _ => k - (intOf i).toNat)
        case atStart => exact ⟨0, 0, _, [], false, rfl, Nat.zero_le _, rfl, rfl, hA, c1, .inl ⟨Nat.zero_le _, rfl, by simp, rfl⟩⟩
        case round =>
          clear hA
          obtain ⟨m, q, y, L, b0, rfl, hm, rfl, rfl, hP, hb, hd⟩ := hrel
          have hs1 := hb.size
          by_cases hlt : m < k
          · obtain ⟨z1, q1, q2⟩ := HC.out _ hb m hlt
            obtain ⟨u, hu⟩ : ∃ u, kAt xs m = u := ⟨_, rfl⟩
            obtain ⟨v, hv⟩ : ∃ u, kVal xs m = u := ⟨_, rfl⟩
            rw [hu] at q1
            rw [hv] at q2
            have i0 : (0 : Int) ≤ (m : Int) := by omega
            have i1 : (m : Int) < (k : Int) := by omega
            have i2 : (m : Int).toNat = m := Int.toNat_natCast _
            have HS := Lib.hid (takeK_succ xs m (by rw [HN.out]; omega))
            have HU : Hid (xs.getD (m * 2) 0 = u ∧ xs.getD (m * 2 + 1) 0 = v) := ⟨hu, hv⟩
            rcases hd with ⟨d1, rfl, rfl, rfl⟩ | ⟨d1, rfl, rfl, rfl⟩
            · by_cases hmp : m < p
              · have hlx := f2.out m hmp
                rw [hu] at hlx
                clear hu hv
                have hng : ¬ x < u := by omega
                go_wp2_with (at_builtin; refine wpList_append_knot rfl (.tmp 67) (.tmp 72) rfl w.heap.size _ _ _ u v w wr rfl rfl hP (by omega) hb hs1 ?_; rintro v7 w7 hP7 hb7)
                go_roundw
                case rel => exact ⟨m + 1, m + 1, _, _, false, rfl, by omega, rfl, by go_num, hP7, hb7, .inl ⟨by omega, rfl, by rw [HS.out, HU.out.1, HU.out.2], rfl⟩⟩
                case measure => simp [intOf]; omega
              · have hmp2 : m = p := by omega
                subst hmp2
                have hgx := f3.out hlt
                have hnx := hne.out hlt
                rw [hu] at hgx hnx
                clear hu hv
                have hng : x < u := by omega
                have HPS := Lib.hid ((insP_succ xs m m x V (Nat.le_refl _) (by rw [HN.out]; omega)).trans (by rw [insP_self]))
                go_wp2_with fail
                refine (hKV.out _ (HI.out _ hb)).mono ?_
                rintro e w5 ⟨he, b5⟩
                rw [HV.out] at he
                subst he
                have hP5 := hP.keep b5
                have c5 := bw_trans hb b5
                have hs5 := c5.size
                clear q1 q2 z1
                go_upto_region 15 with (at_builtin; refine wpList_append_knot rfl (.tmp 59) (.tmp 65) rfl w.heap.size _ _ _ x V w w5 rfl rfl hP5 (by omega) c5 hs5 ?_; rintro v6 w6 hP6 hb6)
                have hs6 := hb6.size
                obtain ⟨z1, q1, q2⟩ := HC.out _ hb6 m hlt
                rw [show kAt xs m = u from HU.out.1] at q1
                rw [show kVal xs m = v from HU.out.2] at q2
                go_wp2_with (at_builtin; refine wpList_append_knot rfl (.tmp 67) (.tmp 72) rfl w.heap.size _ _ _ u v w w6 rfl rfl hP6 (by omega) hb6 hs6 ?_; rintro v7 w7 hP7 hb7)
                go_roundw
                case rel => exact ⟨m + 1, m + 2, _, _, true, rfl, by omega, rfl, by go_num, hP7, hb7, .inr ⟨by omega, rfl, by rw [HPS.out, HU.out.1, HU.out.2], rfl⟩⟩
                case measure => simp [intOf]; omega
            · have HPS := Lib.hid (insP_succ xs p m x V (by omega) (by rw [HN.out]; omega))
              clear hu hv
              go_wp2_with (at_builtin; refine wpList_append_knot rfl (.tmp 67) (.tmp 72) rfl w.heap.size _ _ _ u v w wr rfl rfl hP (by omega) hb hs1 ?_; rintro v7 w7 hP7 hb7)
              go_roundw
              case rel => exact ⟨m + 1, m + 2, _, _, true, rfl, by omega, rfl, by go_num, hP7, hb7, .inr ⟨by omega, rfl, by rw [HPS.out, HU.out.1, HU.out.2], rfl⟩⟩
              case measure => simp [intOf]; omega
          · have hmk : m = k := by omega
            subst hmk
            rcases hd with ⟨d1, rfl, rfl, rfl⟩ | ⟨d1, rfl, rfl, rfl⟩
            · obtain rfl : p = m := by omega
              go_wp2_with fail
              refine (hKV.out _ (HI.out _ hb)).mono ?_
              rintro e w5 ⟨he, b5⟩
              rw [HV.out] at he
              subst he
              have hP5 := hP.keep b5
              have c5 := bw_trans hb b5
              have hs5 := c5.size
              go_wp2_with (at_builtin; refine wpList_append_knot rfl (.tmp 76) (.tmp 82) rfl w.heap.size _ _ _ x V w w5 rfl rfl hP5 (by omega) c5 hs5 ?_; rintro v6 w6 hP6 hb6)
              go_ret2
              rw [E1.out.1, E1.out.2.1, E1.out.2.2, ← insL_end xs _ x V HN.out]
              rw [List.take_of_length_le (by rw [HN.out]; omega)] at hP6
              exact IsNewK.app hP6 hb6
            · go_wp2
              go_ret2
              rw [E1.out.1, E1.out.2.1, E1.out.2.2, ← insP_end xs p m x V HN.out f1]
              exact IsNewK.app hP hb
      · have E1 := join_full HOK.out hf
        clear hf HD hok f1 f2 f3
        go_wp2_with fail
        go_loopw [6, 7, 10] (fun v b i wr => ∃ (m : Nat) (y : Value), y = v ∧ m ≤ k ∧ b = .bool true ∧ i = .int .i64 m ∧ AppK wr w.heap.size y m (xs.take (m * 2)) ∧ Below w.heap.size w wr) (fun _ _ i _ => k - (intOf i).toNat)
        case atStart => exact ⟨0, _, rfl, Nat.zero_le _, rfl, rfl, by simpa using hA, c1⟩
        case round =>
          clear hA
          obtain ⟨m, y, rfl, hm, rfl, rfl, hP, hb⟩ := hrel
          have hs1 := hb.size
          by_cases hlt : m < k
          · obtain ⟨z1, q1, q2⟩ := HC.out _ hb m hlt
            obtain ⟨u, hu⟩ : ∃ u, kAt xs m = u := ⟨_, rfl⟩
            obtain ⟨v, hv⟩ : ∃ u, kVal xs m = u := ⟨_, rfl⟩
            rw [hu] at q1
            rw [hv] at q2
            have i0 : (0 : Int) ≤ (m : Int) := by omega
            have i1 : (m : Int) < (k : Int) := by omega
            have i2 : (m : Int).toNat = m := Int.toNat_natCast _
            have HS := Lib.hid (takeK_succ xs m (by rw [HN.out]; omega))
            have HU : Hid (xs.getD (m * 2) 0 = u ∧ xs.getD (m * 2 + 1) 0 = v) := ⟨hu, hv⟩
            clear hu hv
            go_wp2_with (at_builtin; refine wpList_append_knot rfl (.tmp 67) (.tmp 72) rfl w.heap.size _ _ _ u v w wr rfl rfl hP (by omega) hb hs1 ?_; rintro v7 w7 hP7 hb7)
            go_roundw
            case rel => exact ⟨m + 1, _, rfl, by omega, rfl, by go_num, by rw [HS.out, HU.out.1, HU.out.2]; exact hP7, hb7⟩
            case measure => simp [intOf]; omega
          · have hmk : m = k := by omega
            subst hmk
            go_wp2
            go_ret2
            rw [E1.out.1, E1.out.2.1, E1.out.2.2]
            rw [List.take_of_length_le (by rw [HN.out]; omega)] at hP
            exact IsNewK.app hP hb
end Go.Proofs.Ytiimaodphhaohaa
