/- The walks of the laws PolyValid and PolyAt; no condition. -/
import Derived.Test.YtdnklndemoinaaaPolyDraw2
import Derived.Test.YtdnklndemoinaaaPolyAt
import Derived.Test.YtdnklndemoinaaaPolySlope
import Derived.Test.YtdnklndemoinaaaSame
namespace Go.Proofs.Ytdnklndemoinaaa
open Go.RowKit
set_option linter.unusedVariables false
set_option linter.unusedSimpArgs false
set_option maxHeartbeats 1000000

theorem Ints.take {w : World} {B : Nat} {A : Option Addr} {l : List Int} (h : Ints w B A l) (k : Nat) : Ints w B A (l.take k) := fun hp => by
  have hl : (l.take k).length ≤ l.length := by simp; omega
  have hk : (l.take k).length ≤ k := by simp; omega
  obtain ⟨b, off, e, hb, hc⟩ := h (by omega)
  exact ⟨b, off, e, hb, fun j hj => by rw [take_getD _ _ _ (by omega)]; exact hc j (by omega)⟩
theorem polyB_take {l : List Int} {k : Nat} (h : polyB l = true) (hk : k ≤ l.length) : polyB (l.take k) = decide (1 ≤ k) := by
  obtain ⟨h1, h2, h3⟩ := polyB_spec l h
  have hl : (l.take k).length = k := by rw [List.length_take]; omega
  unfold polyB
  rw [hl]
  have ha : allIn 1000 (l.take k) = true := (allIn_iff _ _).2 fun j hj => by
    rw [hl] at hj
    rw [take_getD _ _ _ hj]
    exact (inB_iff _ _ _).2 (h3 j (by omega))
  rw [ha]
  have : decide (k ≤ 7) = true := decide_eq_true (by omega)
  rw [this]; simp
theorem walk_FnPolyValid (A : Option Addr) (n c : Nat) (xs : List Int) (w : World) (h : Byts w w.heap.size A xs) (hn : xs.length = n) (hc : n ≤ c) (hm : c ≤ maxLen) :
    Calls Try.prog 7 #[.slice A n c] w fun e w' => e = .returned (.bool true) ∧ Below w.heap.size w w' := by
  by_cases hbig : 1048576 < n
  · unfold maxLen at hm
    clear hn
    go_enter Try.func7, Try.ntmps7
    go_wp2
    go_ret
    exact ⟨rfl, (by repeat (first | exact bw_refl _ | assumption | apply bw_alloc | apply bw_drew | apply bw_drewN | (refine bw_trans ?_ (by assumption)) | (refine bw_set ?_ (by simp only [go_sem]; omega) _)))⟩
  · have HN := Lib.hid hn
    clear hn
    go_enter Try.func7, Try.ntmps7
    go_wp2_with fail
    refine (drawPolyValid_any A n c xs w w h HN.out hc hm (by omega) (bw_refl w)).mono ?_
    rintro e w1 ⟨A1, c1, l, rfl, hl, o1, b1⟩
    have hlen : l.length ≤ 4294967296 := by omega
    have hi := o1.ints
    have hlc := o1.2.1
    clear o1
    obtain ⟨o, ho⟩ : ∃ o, polyB l = o := ⟨_, rfl⟩
    have HO := Lib.hid ho
    clear ho
    have hnil : Ints w1 w1.heap.size none [] := Ints_nil _ _ _
    have pnil : polyB [] = false := by decide
    cases o
    · go_wp2_with (first
        | (go_at_call 14; ((with_reducible refine (implPolyValid_any A1 _ c1 l _ rfl hi hlen).mono ?_)); rintro e w2 ⟨he, rfl⟩; rw [HO.out] at he; subst he)
        | (go_at_call 12; refine (specPolyValid_any A1 _ c1 l _ rfl hi hlen).mono ?_; rintro e w2 ⟨he, hb⟩; rw [HO.out] at he; subst he; try subst hb)
        | (go_at_call 14; refine (implPolyValid_any none 0 0 [] _ rfl hnil (by omega)).mono ?_; rintro e w2 ⟨he, rfl⟩; rw [pnil] at he; subst he)
        | (go_at_call 26; refine (alive_any _).mono ?_; rintro e w4 ⟨rfl, rfl⟩))
      go_ret
      exact ⟨ret_bool (by simp), (by repeat (first | exact bw_refl _ | assumption | apply bw_alloc | apply bw_drew | apply bw_drewN | (refine bw_trans ?_ (by assumption)) | (refine bw_set ?_ (by simp only [go_sem]; omega) _)))⟩
    · obtain ⟨p1, p2, _⟩ := polyB_spec l HO.out
      have ht := polyB_take (k := l.length - 1) HO.out (by omega)
      have HT := Lib.hid ht
      clear ht
      have hit := hi.take (l.length - 1)
      have hlt : (l.take (l.length - 1)).length = l.length - 1 := by rw [List.length_take]; omega
      have HLT := Lib.hid hlt
      clear hlt
      have e1 : IntKind.i64.wrap ((l.length : Int) - 1) = (l.length : Int) - 1 := IntWalk.i64_in _ (by omega)
      have e2 : ((l.length : Int) - 1).toNat = l.length - 1 := by omega
      have e3 : (0 : Int) ≤ (l.length : Int) - 1 := by omega
      have e4 : (l.length : Int) - 1 ≤ (c1 : Int) := by omega
      have e5 : (1 : Int) ≤ (l.length : Int) := by omega
      go_wp2_with (first
        | (go_at_call 14; ((with_reducible refine (implPolyValid_any A1 _ c1 l _ rfl hi hlen).mono ?_)); rintro e w2 ⟨he, rfl⟩; rw [HO.out] at he; subst he)
        | (go_at_call 12; refine (specPolyValid_any A1 _ c1 l _ rfl hi hlen).mono ?_; rintro e w2 ⟨he, hb⟩; rw [HO.out] at he; subst he; try subst hb)
        | (go_at_call 14; ((with_reducible refine (implPolyValid_any A1 (l.length - 1) c1 (l.take (l.length - 1)) _ HLT.out hit (by omega)).mono ?_)); rintro e w2 ⟨he, rfl⟩; rw [HT.out] at he; subst he)
        | (go_at_call 14; refine (implPolyValid_any none 0 0 [] _ rfl hnil (by omega)).mono ?_; rintro e w2 ⟨he, rfl⟩; rw [pnil] at he; subst he)
        | (go_at_call 26; refine (alive_any _).mono ?_; rintro e w4 ⟨rfl, rfl⟩))
      all_goals
        go_ret
        refine ⟨ret_bool ?_, (by repeat (first | exact bw_refl _ | assumption | apply bw_alloc | apply bw_drew | apply bw_drewN | (refine bw_trans ?_ (by assumption)) | (refine bw_set ?_ (by simp only [go_sem]; omega) _)))⟩
        first | rfl | (simp; done) | (rw [Bool.eq_iff_iff]; simp <;> omega)
def sumP (l : List Int) (x : Int) : Nat → Int
  | 0 => 0
  | k + 1 => sumP l x k + l.getD k 0 * x ^ k
theorem evalP_split (x : Int) (l : List Int) : ∀ k, k ≤ l.length → evalP x l = sumP l x k + x ^ k * evalP x (l.drop k)
  | 0, _ => by simp [sumP]
  | k + 1, hk => by
    have hlt : k < l.length := by omega
    rw [evalP_split x l k (by omega), List.drop_eq_getElem_cons hlt, evalP, sumP]
    have e : l.getD k 0 = l[k] := by simp [List.getD, hlt]
    rw [e, Int.mul_add, Int.pow_succ, Int.mul_comm l[k] (x ^ k), Int.mul_comm (evalP x (l.drop (k + 1))) x, ← Int.mul_assoc]
    omega
theorem evalP_sum (x : Int) (l : List Int) : evalP x l = sumP l x l.length := by
  rw [evalP_split x l l.length (Nat.le_refl _), List.drop_length, evalP]; omega
theorem pow_bd (x : Int) (h0 : -100 ≤ x) (h1 : x ≤ 100) : ∀ k : Nat, -(100 ^ k : Int) ≤ x ^ k ∧ x ^ k ≤ 100 ^ k
  | 0 => by simp
  | k + 1 => by
    obtain ⟨a, b⟩ := pow_bd x h0 h1 k
    have hp : (0 : Int) ≤ 100 ^ k := Int.le_of_lt (Int.pow_pos (by decide))
    have := mul_bd (x ^ k) x (100 ^ k) 100 hp (by omega) a b h0 h1
    rw [Int.pow_succ, Int.pow_succ]
    exact this
theorem p100 : ∀ k : Nat, k ≤ 7 → (0 : Int) ≤ 100 ^ k ∧ (100 : Int) ^ k ≤ 100000000000000
  | 0, _ => by decide
  | 1, _ => by decide
  | 2, _ => by decide
  | 3, _ => by decide
  | 4, _ => by decide
  | 5, _ => by decide
  | 6, _ => by decide
  | 7, _ => by decide
  | k + 8, h => by omega
theorem pow_bd7 (x : Int) (h0 : -100 ≤ x) (h1 : x ≤ 100) (k : Nat) (hk : k ≤ 7) : -100000000000000 ≤ x ^ k ∧ x ^ k ≤ 100000000000000 := by
  have := pow_bd x h0 h1 k
  have := p100 k hk
  omega
theorem term_bd (a p : Int) (a0 : -1000 ≤ a) (a1 : a ≤ 1000) (p0 : -100000000000000 ≤ p) (p1 : p ≤ 100000000000000) : -100000000000000000 ≤ a * p ∧ a * p ≤ 100000000000000000 := by
  have := mul_bd a p 1000 100000000000000 (by omega) (by omega) a0 a1 p0 p1
  omega
theorem sumP_bd (l : List Int) (x : Int) (hl : l.length ≤ 7) (h : ∀ j, j < l.length → -1000 ≤ l.getD j 0 ∧ l.getD j 0 ≤ 1000) (h0 : -100 ≤ x) (h1 : x ≤ 100) : ∀ k, k ≤ l.length → -(100000000000000000 * (k : Int)) ≤ sumP l x k ∧ sumP l x k ≤ 100000000000000000 * (k : Int)
  | 0, _ => by simp [sumP]
  | k + 1, hk => by
    have a := sumP_bd l x hl h h0 h1 k (by omega)
    have b := pow_bd7 x h0 h1 k (by omega)
    have c := h k (by omega)
    have d := term_bd _ _ c.1 c.2 b.1 b.2
    rw [sumP]
    omega
theorem evalP_zero : ∀ l : List Int, evalP 0 l = l.getD 0 0
  | [] => rfl
  | a :: l => by rw [evalP]; simp [List.getD]
theorem walk_FnPolyAt (A : Option Addr) (n c : Nat) (xs : List Int) (w : World) (h : Byts w w.heap.size A xs) (hn : xs.length = n) (hc : n ≤ c) (hm : c ≤ maxLen) :
    Calls Try.prog 8 #[.slice A n c] w fun e w' => e = .returned (.bool true) ∧ Below w.heap.size w w' := by
  by_cases hbig : 1048576 < n
  · unfold maxLen at hm
    clear hn
    go_enter Try.func8, Try.ntmps8
    go_wp2
    go_ret
    exact ⟨rfl, (by repeat (first | exact bw_refl _ | assumption | apply bw_alloc | apply bw_drew | apply bw_drewN | (refine bw_trans ?_ (by assumption)) | (refine bw_set ?_ (by simp only [go_sem]; omega) _)))⟩
  · have HN := Lib.hid hn
    clear hn
    go_enter Try.func8, Try.ntmps8
    go_wp2_with fail
    refine (drawPolyAt_any A n c xs w w h HN.out hc hm (by omega) (bw_refl w)).mono ?_
    rintro e w1 ⟨A1, c1, l, x, rfl, hl, o1, b1⟩
    have hlen : l.length ≤ 4294967296 := by omega
    have hi := o1.ints
    clear o1
    obtain ⟨y, hy⟩ : ∃ o, polyAt l x = o := ⟨_, rfl⟩
    have HY := Lib.hid hy
    clear hy
    obtain ⟨o, ho⟩ : ∃ o, polyB l = o := ⟨_, rfl⟩
    have HO := Lib.hid ho
    clear ho
    by_cases hall : o = true ∧ -100 ≤ x ∧ x ≤ 100
    · obtain ⟨rfl, x0, x1⟩ := hall
      have hpa : polyAt l x = evalP x l := by unfold polyAt; rw [HO.out, (inB_iff _ _ _).2 ⟨x0, x1⟩]; rfl
      have hpz : polyAt l 0 = l.getD 0 0 := by unfold polyAt; rw [HO.out, show inB 0 (-100) 100 = true from by decide]; exact evalP_zero l
      rw [HY.out] at hpa
      rw [evalP_sum] at hpa
      have HPA := Lib.hid hpa
      have HPZ := Lib.hid hpz
      clear hpa hpz
      obtain ⟨p1, p2, p3⟩ := polyB_spec l HO.out
      have HP3 := Lib.hid p3
      clear p3
      obtain ⟨g, f, rfl, hg, hcl⟩ := hi (by omega)
      have HC := Lib.hid hcl
      clear hcl
      go_wp2_with (first
        | (go_at_call 17; refine (implPolyAt_any _ _ c1 l x _ rfl hi hlen).mono ?_; rintro e w2 ⟨he, rfl⟩; rw [HY.out] at he; subst he)
        | (go_at_call 16; refine (specPolyAt_any _ _ c1 l x _ rfl hi hlen).mono ?_; rintro e w2 ⟨he, hb⟩; rw [HY.out] at he; subst he; try subst hb)
        | (go_at_call 12; refine (specPolyValid_any _ _ c1 l _ rfl hi hlen).mono ?_; rintro e w2 ⟨he, hb⟩; rw [HO.out] at he; subst he; try subst hb))
      go_loop [6, 7, 8] (fun s p i => ∃ (k : Nat) (sv pv : Int), s = .int .i64 sv ∧ p = .int .i64 pv ∧ i = .int .i64 k ∧ k ≤ l.length ∧ sv = sumP l x k ∧ pv = x ^ k) (fun _ _ i => l.length - (intOf i).toNat)
      case atStart => exact ⟨0, 0, 1, rfl, rfl, rfl, Nat.zero_le _, rfl, by simp⟩
      case round =>
        obtain ⟨k, sv, pv, rfl, rfl, rfl, hk, hsv, hpv⟩ := hrel
        have hsb := sumP_bd l x p2 HP3.out x0 x1 k hk
        rw [← hsv] at hsb
        obtain ⟨s0, s1⟩ := hsb
        have HSV := Lib.hid hsv
        have HPV := Lib.hid hpv
        clear hsv hpv
        by_cases hlt : k < l.length
        · have hpb := pow_bd7 x x0 x1 k (by omega)
          have hpb2 := pow_bd7 x x0 x1 (k + 1) (by omega)
          rw [Int.pow_succ] at hpb2
          rw [← HPV.out] at hpb hpb2
          obtain ⟨a0, a1⟩ := HP3.out k hlt
          have hc1 := HC.out k hlt
          obtain ⟨u, hu⟩ : ∃ u, l.getD k 0 = u := ⟨_, rfl⟩
          rw [hu] at a0 a1 hc1
          have HUU := Lib.hid hu
          clear hu
          obtain ⟨q0, q1⟩ := hpb
          obtain ⟨r0, r1⟩ := hpb2
          obtain ⟨t0, t1⟩ := term_bd u pv a0 a1 q0 q1
          go_wp2
          go_round
          case rel => exact ⟨k + 1, _, _, rfl, rfl, by go_num, by omega, by rw [sumP, HSV.out, HPV.out, HUU.out], by rw [Int.pow_succ, HPV.out]⟩
          case measure => simp [intOf] <;> omega
        · have hkk : k = l.length := by omega
          have hys : y = sv := by rw [HPA.out, HSV.out, hkk]
          subst hys
          have hc0 := HC.out 0 (by omega)
          rw [Nat.add_zero] at hc0
          obtain ⟨z, hzz⟩ : ∃ u, l.getD 0 0 = u := ⟨_, rfl⟩
          rw [hzz] at hc0
          have hpz := HPZ.out
          rw [hzz] at hpz
          have HPZ2 := Lib.hid hpz
          clear hpz hzz
          have hlp : (0 : Int) < (l.length : Int) := by omega
          have hlp2 : 0 < l.length := by omega
          go_upto_region 16 with fail
          refine wp_region_below (by kernel_rfl) (fun wD hHeld => ?_)
          refine wpAnyH_take (i := 0) (v := ?_) (by (simp only [List.getElem?_toArray, List.getElem?_cons_zero]; rfl)) (by kernel_rfl) (by kernel_rfl) (by kernel_rfl) (by exact fun _ _ _ h => h) (Or.inl ⟨by rfl, ?_⟩) (by assumption) ?_
          rotate_left
          · (intro wS hS; clear hS; go_simp; try with_reducible rfl)
          try simp only [Act.put, List.setIfInBounds_toArray, List.set_cons_zero, List.set_cons_succ]
          refine wpAnyH_take (i := 1) (v := ?_) (by (simp only [List.getElem?_toArray, List.getElem?_cons_succ, List.getElem?_cons_zero]; rfl)) (by kernel_rfl) (by kernel_rfl) (by kernel_rfl) (by exact fun _ _ _ h => h) (Or.inl ⟨by rfl, ?_⟩) (by assumption) ?_
          rotate_left
          · (intro wS hS; clear hS; go_simp; try with_reducible rfl)
          try simp only [Act.put, List.setIfInBounds_toArray, List.set_cons_zero, List.set_cons_succ]
          refine wpAnyH_take (i := 2) (v := ?_) (by (simp only [List.getElem?_toArray, List.getElem?_cons_succ, List.getElem?_cons_zero]; rfl)) (by kernel_rfl) (by kernel_rfl) (by kernel_rfl) (by exact fun _ _ _ h => h) (Or.inl ⟨by rfl, ?_⟩) (by assumption) ?_
          rotate_left
          · (intro wS hS; clear hS; go_simp; try with_reducible rfl)
          try simp only [Act.put, List.setIfInBounds_toArray, List.set_cons_zero, List.set_cons_succ]
          refine wpAnyH_take (i := 3) (v := ?_) (by (simp only [List.getElem?_toArray, List.getElem?_cons_succ, List.getElem?_cons_zero]; rfl)) (by kernel_rfl) (by kernel_rfl) (by kernel_rfl) (by exact fun _ _ _ h => h) (Or.inl ⟨by rfl, ?_⟩) (by assumption) ?_
          rotate_left
          · (intro wS hS; clear hS; go_simp; try with_reducible rfl)
          try simp only [Act.put, List.setIfInBounds_toArray, List.set_cons_zero, List.set_cons_succ]
          refine wpAnyH_take (i := 4) (v := ?_) (by (simp only [List.getElem?_toArray, List.getElem?_cons_succ, List.getElem?_cons_zero]; rfl)) (by kernel_rfl) (by kernel_rfl) (by kernel_rfl) (by exact fun _ _ _ h => h) (Or.inl ⟨by rfl, ?_⟩) (by assumption) ?_
          rotate_left
          · (intro wS hS; clear hS; go_simp; try with_reducible rfl)
          try simp only [Act.put, List.setIfInBounds_toArray, List.set_cons_zero, List.set_cons_succ]
          refine wpAnyH_take (i := 6) (v := ?_) (by (simp only [List.getElem?_toArray, List.getElem?_cons_succ, List.getElem?_cons_zero]; rfl)) (by kernel_rfl) (by kernel_rfl) (by kernel_rfl) (by exact fun _ _ _ h => h) (Or.inl ⟨by rfl, ?_⟩) (by assumption) ?_
          rotate_left
          · (intro wS hS; clear hS; go_simp; try with_reducible rfl)
          try simp only [Act.put, List.setIfInBounds_toArray, List.set_cons_zero, List.set_cons_succ]
          refine wpAnyH_take (i := 7) (v := ?_) (by (simp only [List.getElem?_toArray, List.getElem?_cons_succ, List.getElem?_cons_zero]; rfl)) (by kernel_rfl) (by kernel_rfl) (by kernel_rfl) (by exact fun _ _ _ h => h) (Or.inl ⟨by rfl, ?_⟩) (by assumption) ?_
          rotate_left
          · (intro wS hS; clear hS; go_simp; try with_reducible rfl)
          try simp only [Act.put, List.setIfInBounds_toArray, List.set_cons_zero, List.set_cons_succ]
          refine wpAnyH_take (i := 8) (v := ?_) (by (simp only [List.getElem?_toArray, List.getElem?_cons_succ, List.getElem?_cons_zero]; rfl)) (by kernel_rfl) (by kernel_rfl) (by kernel_rfl) (by exact fun _ _ _ h => h) (Or.inl ⟨by rfl, ?_⟩) (by assumption) ?_
          rotate_left
          · (intro wS hS; have hSc := (bcell hS).1; clear hS; go_simp; try with_reducible rfl)
          try simp only [Act.put, List.setIfInBounds_toArray, List.set_cons_zero, List.set_cons_succ]
          refine wpAnyH_ready (rs := [5]) (by kernel_rfl) (by simp) ?_
          refine AllReadyH.cons (by (simp only [List.getElem?_toArray, List.getElem?_cons_succ, List.getElem?_cons_zero]; rfl)) (fun K hK => ?_) AllReadyH.nil
          go_simp
          ((go_at_call 17; refine (implPolyAt_any _ _ c1 l 0 _ rfl (hi.up hHeld) hlen).mono ?_; rintro e w2 ⟨he, rfl⟩; rw [HPZ2.out] at he; subst he))
          (try go_wp2_with fail)
          refine hK.out _ _ (by repeat (first | exact bw_refl _ | assumption | apply bw_alloc | apply bw_drew | apply bw_drewN | (refine bw_trans ?_ (by assumption)) | (refine bw_set ?_ (by simp only [go_sem]; omega) _))) (fun hHeld => ?_)
          clear hK K
          try simp only [Act.put, List.setIfInBounds_toArray, List.set_cons_zero, List.set_cons_succ]
          refine wpAnyH_take (i := 9) (v := ?_) (by (simp only [List.getElem?_toArray, List.getElem?_cons_succ, List.getElem?_cons_zero]; rfl)) (by kernel_rfl) (by kernel_rfl) (by kernel_rfl) (by exact fun _ _ _ h => h) (Or.inl ⟨by rfl, ?_⟩) (by assumption) ?_
          rotate_left
          · (intro wS hS; clear hS; go_simp; try with_reducible rfl)
          try simp only [Act.put, List.setIfInBounds_toArray, List.set_cons_zero, List.set_cons_succ]
          refine wpAnyH_take (i := 10) (v := ?_) (by (simp only [List.getElem?_toArray, List.getElem?_cons_succ, List.getElem?_cons_zero]; rfl)) (by kernel_rfl) (by kernel_rfl) (by kernel_rfl) (by exact fun _ _ _ h => h) (Or.inl ⟨by rfl, ?_⟩) (by assumption) ?_
          rotate_left
          · (intro wS hS; clear hS; go_simp; try with_reducible rfl)
          try simp only [Act.put, List.setIfInBounds_toArray, List.set_cons_zero, List.set_cons_succ]
          refine wpAnyH_take (i := 11) (v := ?_) (by (simp only [List.getElem?_toArray, List.getElem?_cons_succ, List.getElem?_cons_zero]; rfl)) (by kernel_rfl) (by kernel_rfl) (by kernel_rfl) (by exact fun _ _ _ h => h) (Or.inl ⟨by rfl, ?_⟩) (by assumption) ?_
          rotate_left
          · (intro wS hS; clear hS; go_simp; try with_reducible rfl)
          try simp only [Act.put, List.setIfInBounds_toArray, List.set_cons_zero, List.set_cons_succ]
          refine wpAnyH_done (by kernel_rfl) ?_ _
          go_wp2
          go_ret
          exact ⟨ret_bool (by simp), (by repeat (first | exact bw_refl _ | assumption | apply bw_alloc | apply bw_drew | apply bw_drewN | (refine bw_trans ?_ (by assumption)) | (refine bw_set ?_ (by simp only [go_sem]; omega) _)))⟩
    · have hyz : y = 0 := by
        rw [← HY.out]; unfold polyAt; rw [HO.out]
        cases o
        · rfl
        · have : inB x (-100) 100 = false := (inB_no _ _ _).2 (fun hh => hall ⟨rfl, hh⟩)
          rw [this]; rfl
      subst hyz
      have hkk : o = false ∨ (o = true ∧ x < -100) ∨ (o = true ∧ 100 < x) := by
        cases o
        · exact .inl rfl
        · have : ¬ (-100 ≤ x ∧ x ≤ 100) := fun hh => hall ⟨rfl, hh⟩
          have h5 : x < -100 ∨ 100 < x := by omega
          rcases h5 with h5 | h5
          · exact .inr (.inl ⟨rfl, h5⟩)
          · exact .inr (.inr ⟨rfl, h5⟩)
      clear hall
      rcases hkk with rfl | ⟨rfl, hx⟩ | ⟨rfl, hx⟩
      all_goals
        go_wp2_with (first
          | (go_at_call 17; refine (implPolyAt_any _ _ c1 l x _ rfl hi hlen).mono ?_; rintro e w2 ⟨he, rfl⟩; rw [HY.out] at he; subst he)
          | (go_at_call 16; refine (specPolyAt_any _ _ c1 l x _ rfl hi hlen).mono ?_; rintro e w2 ⟨he, hb⟩; rw [HY.out] at he; subst he; try subst hb)
          | (go_at_call 12; refine (specPolyValid_any _ _ c1 l _ rfl hi hlen).mono ?_; rintro e w2 ⟨he, hb⟩; rw [HO.out] at he; subst he; try subst hb)
          | (go_at_call 26; refine (alive_any _).mono ?_; rintro e w4 ⟨rfl, rfl⟩))
        go_ret
        exact ⟨ret_bool (by simp), (by repeat (first | exact bw_refl _ | assumption | apply bw_alloc | apply bw_drew | apply bw_drewN | (refine bw_trans ?_ (by assumption)) | (refine bw_set ?_ (by simp only [go_sem]; omega) _)))⟩
end Go.Proofs.Ytdnklndemoinaaa
