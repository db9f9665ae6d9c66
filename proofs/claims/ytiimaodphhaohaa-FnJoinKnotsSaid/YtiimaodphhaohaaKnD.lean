/- The contract of the drawing function of knots; condition: the reader's place is below 2^30. -/
import Derived.Test.YtiimaodphhaohaaKn17
import Derived.Test.YtiimaodphhaohaaAlive
namespace Go.Proofs.Ytiimaodphhaohaa
open Go.RowKit
set_option linter.unusedVariables false
set_option linter.unusedSimpArgs false
set_option maxHeartbeats 2000000

theorem AppK.only {w w' : World} {B R n : Nat} {v : Value} {l : List Int} (h : AppK w B v n l) (hO : Only w w' R) (hR : R < B) : AppK w' B v n l := by
  refine ⟨h.1, World.ownsRow.kept h.2 (row := some R) hO ?_⟩
  cases hv : v.ownBlock with
  | none => exact .inl rfl
  | some k =>
    refine .inr fun e => ?_
    injection e with e
    obtain ⟨_, h2⟩ := h.2
    rcases h2 with ⟨rfl, _⟩ | ⟨g, cap, cur, rfl, hg, _⟩
    · cases hv
    · simp [Value.ownBlock] at hv; omega
theorem only_both {w w1 w2 : World} {B R : Nat} (h : Only w w1 R) (h2 : Below B w1 w2) (hB : w.heap.size ≤ B) : Only w w2 R :=
  ⟨h2.os.trans h.os, h2.tape.trans h.tape, h2.output.trans h.output, Nat.le_trans h.size h2.size, fun i hi hne => (h2.block i (Nat.lt_of_lt_of_le hi hB)).trans (h.block i hi hne)⟩
/-- All numbers are of at most 2000000. -/
def Small (l : List Int) : Prop := ∀ j, j < l.length → -2000000 ≤ l.getD j 0 ∧ l.getD j 0 ≤ 2000000
theorem small_nil : Small [] := fun j hj => absurd hj (Nat.not_lt_zero _)
theorem small_app {l : List Int} {y z : Int} (h : Small l) (hy : -2000000 ≤ y ∧ y ≤ 2000000) (hz : -2000000 ≤ z ∧ z ≤ 2000000) : Small (l ++ [y, z]) := fun j hj => by
  by_cases h1 : j < l.length
  · have e : (l ++ [y, z]).getD j 0 = l.getD j 0 := by simp [List.getD, List.getElem?_append_left h1]
    rw [e]; exact h j h1
  · simp at hj
    have h2 : j = l.length ∨ j = l.length + 1 := by omega
    rcases h2 with rfl | rfl
    · have e : (l ++ [y, z]).getD l.length 0 = y := by simp [List.getD]
      rw [e]; exact hy
    · have e : (l ++ [y, z]).getD (l.length + 1) 0 = z := by simp [List.getD]
      rw [e]; exact hz
theorem small_zero (n : Nat) : Small (List.replicate n 0) := fun j hj => by
  simp only [List.length_replicate] at hj
  have e : (List.replicate n (0 : Int)).getD j 0 = 0 := by simp [List.getD, hj]
  rw [e]; omega
theorem small_take {l : List Int} (h : Small l) (k : Nat) : Small (l.take k) := fun j hj => by
  simp at hj
  rw [take_getD _ _ _ (by omega)]
  exact h j (by omega)
/-- At most 13 knots of the call's own, with small numbers. -/
def DrawsK (w : World) (R N : Nat) (e : Ending) (w' : World) : Prop := ∃ (A : Option Addr) (n c : Nat) (l : List Int), e = .returned (.slice A n c) ∧ 1 ≤ n ∧ n ≤ 13 ∧ Small l ∧ OwnK w.heap.size w' A n c l ∧ Drew w w' R N
theorem OwnK.le {B B' n c : Nat} {w : World} {A : Option Addr} {l : List Int} (h : OwnK B w A n c l) (hB : B' ≤ B) : OwnK B' w A n c l :=
  ⟨h.1, h.2.1, fun hp => by obtain ⟨g, e, hg, hR⟩ := h.2.2 hp; exact ⟨g, e, by omega, hR⟩⟩
theorem DrawsK.app {w w' : World} {B R N n : Nat} {v : Value} {l : List Int} (h : AppK w' B v n l) (hB : w.heap.size ≤ B) (h1 : 1 ≤ n) (h13 : n ≤ 13) (hs : Small l) (hD : Drew w w' R N) : DrawsK w R N (.returned v) w' := by
  obtain ⟨A, c, rfl, ho⟩ := h.form
  exact ⟨A, n, c, l, rfl, h1, h13, hs, ho.le hB, hD⟩
theorem OwnK.first {B n c : Nat} {w : World} {A : Option Addr} {l : List Int} (h : OwnK B w A n c l) (h1 : 1 ≤ n) : OwnK B w A 1 c (l.take 2) := by
  obtain ⟨hl, hc, hp⟩ := h
  refine ⟨by simp; omega, by omega, fun _ => ?_⟩
  obtain ⟨g, e, hg, cs, hh, hcs⟩ := hp (by omega)
  refine ⟨g, e, hg, cs, hh, fun j hj => ?_⟩
  simp at hj
  rw [take_getD _ _ _ (by omega)]
  exact hcs j (by omega)
theorem RowK.own {B g n : Nat} {w : World} {l : List Int} (h : RowK w g l) (hg : B ≤ g) (hl : l.length = n * 2) : OwnK B w (some ⟨g, 0, none⟩) n n l := ⟨hl, Nat.le_refl _, fun _ => ⟨g, rfl, hg, h⟩⟩
theorem run_make_13 (w : World) : (Instr.makeSlice 25 (.int .i64 13) (.int .i64 13)).run Try.prog w = .ok (.slice (some ⟨w.heap.size, 0, none⟩) 13 13) (w.alloc (.cells (madeCells #[.int .i64 0, .int .i64 0] (13 * 2)) 41)) := run_make_knots 13 (by decide) w
theorem l20Knots_any (R N : Nat) (m : Int) (hm : 1 ≤ m) (hm2 : m ≤ 1000) (w : World) (hR : Rd w R N) (hN : N ≤ 1073741824) :
    Calls Try.prog 42 #[.pointer (some ⟨R, 0, none⟩), .int .i64 m] w (DrawsK w R (N + 40)) := by
  have hRl := hR.lt
  have hA := AppK.empty w w.heap.size (Nat.le_refl _)
  go_enter Try.func42, Try.ntmps42
  go_wp2_with fail
  refine (pick_any R _ _ (by omega) (by omega) _ (hR.alloc _) (by omega)).mono ?_
  rintro e w1 ⟨v1, rfl, ⟨a1, a2⟩, hR1, hO⟩
  replace hA := hA.only hO (by omega)
  have hF := only_trans (only_alloc (only_refl w R) _) hO
  clear hO hR
  go_wp2_with fail
  refine (pick_any R _ _ (by omega) (by omega) _ hR1 (by omega)).mono ?_
  rintro e w2 ⟨v2, rfl, ⟨a3, a4⟩, hR2, hO⟩
  replace hA := hA.only hO (by omega)
  replace hF := only_trans hF hO
  clear hO hR1
  go_wp2_with fail
  refine (pick_any R _ _ (by omega) (by omega) _ hR2 (by omega)).mono ?_
  rintro e w3 ⟨rise, rfl, ⟨a5, a6⟩, hR3, hO⟩
  replace hA := hA.only hO (by omega)
  replace hF := only_trans hF hO
  clear hO hR2
  go_wp2_with fail
  refine (pick_any R _ _ (by omega) (by omega) _ hR3 (by omega)).mono ?_
  rintro e w4 ⟨k0, rfl, ⟨a7, a8⟩, hR4, hO⟩
  replace hA := hA.only hO (by omega)
  replace hF := only_trans hF hO
  clear hO hR3
  obtain ⟨k, rfl⟩ := Int.eq_ofNat_of_zero_le a7
  go_wp2
  go_loopw [5, 6, 7, 9] (fun s5 s6 s7 s9 wr => ∃ (x : Value) (i j : Nat) (l : List Int) (at_ val : Int), x = s5 ∧ i + j = k + 2 ∧ s6 = .int .i64 at_ ∧ s7 = .int .i64 val ∧ s9 = .int .i64 j ∧ (-4000 ≤ at_ ∧ at_ ≤ 4000 + 400 * i) ∧ (-4000 - 1200 * (i : Int) ≤ val ∧ val ≤ 4000 + 1200 * i) ∧ AppK wr w.heap.size x i l ∧ Small l ∧ Rd wr R (N + 4 + 4 * i) ∧ Only w wr R)
    (fun _ _ _ s9 _ => (intOf s9).toNat)
  case atStart => exact ⟨_, 0, k + 2, [], (v1 - 128) * 30, (v2 - 128) * 30, rfl, by omega, rfl, rfl, by go_num, by omega, by omega, hA, small_nil, hR4.more (by omega), hF⟩
  case round =>
    clear hA hR4 hF
    obtain ⟨x, i, j, l, at_, val, rfl, hij, rfl, rfl, rfl, ⟨t0, t1⟩, ⟨u0, u1⟩, hA, hS, hR, hF⟩ := hrel
    have HS := Lib.hid hS
    clear hS
    by_cases hlt : 0 < j
    · have hsz : w.heap.size ≤ wr.heap.size := hF.size
      go_wp2_with (at_builtin; refine wpList_append_knot rfl (.tmp 29) (.tmp 33) rfl w.heap.size i x l at_ val wr wr rfl rfl hA (by omega) (Below.refl _ _) hsz ?_; rintro x2 w5 hA2 hb5)
      have hF5 := only_both hF hb5 (Nat.le_refl _)
      have hR5 := hR.below hb5 (by omega)
      clear hA hF hR hb5 hsz
      refine (pick_any R _ _ (by omega) (by omega) _ hR5 (by omega)).mono ?_
      rintro e w6 ⟨p1, rfl, ⟨p0, p1'⟩, hR6, hO⟩
      replace hA2 := hA2.only hO (by omega)
      have hF6 := only_trans hF5 hO
      clear hO hR5 hF5
      go_wp2_with fail
      refine (pick_any R _ _ (by omega) (by omega) _ hR6 (by omega)).mono ?_
      rintro e w7 ⟨p2, rfl, ⟨p3, p4⟩, hR7, hO⟩
      replace hA2 := hA2.only hO (by omega)
      have hF7 := only_trans hF6 hO
      clear hO hR6 hF6
      have hPm := mul_bd p1 p2 39 8 (by omega) (by omega) (by omega) (by omega) (by omega) (by omega)
      have hP0 : 0 ≤ p1 * p2 := Int.mul_nonneg p0 p3
      obtain ⟨P, hP⟩ : ∃ P, p1 * p2 = P := ⟨_, rfl⟩
      rw [hP] at hPm hP0
      have hPw : IntKind.i64.wrap P = P := IntWalk.i64_in _ (by omega)
      go_wp2_with fail
      refine (pick_any R _ _ (by omega) (by omega) _ hR7 (by omega)).mono ?_
      rintro e w8 ⟨p5, rfl, ⟨p6, p7⟩, hR8, hO⟩
      replace hA2 := hA2.only hO (by omega)
      have hF8 := only_trans hF7 hO
      clear hO hR7 hF7
      go_wp2_with fail
      refine (pick_any R _ _ (by omega) (by omega) _ hR8 (by omega)).mono ?_
      rintro e w9 ⟨p8, rfl, ⟨p9, p10⟩, hR9, hO⟩
      replace hA2 := hA2.only hO (by omega)
      have hF9 := only_trans hF8 hO
      clear hO hR8 hF8
      have hr2 : rise = 0 ∨ rise = 1 := by omega
      rcases hr2 with rfl | rfl
      · have e1 : IntKind.i64.wrap ((p5 - 128) * 9) = (p5 - 128) * 9 := IntWalk.i64_in _ (by omega)
        go_wp2
        go_roundw
        case rel => exact ⟨x2, i + 1, j - 1, l ++ [at_, val], at_ + 1 + P, val + (p5 - 128) * 9, rfl, by omega, rfl, rfl, by (have e : ((j - 1 : Nat) : Int) = (j : Int) - 1 := by omega); rw [e], by omega, by omega, hA2.alloc _, small_app HS.out (by omega) (by omega), (hR9.alloc _).more (by omega), only_alloc hF9 _⟩
        case measure => simp [intOf]; omega
      · go_wp2
        go_roundw
        case rel => exact ⟨x2, i + 1, j - 1, l ++ [at_, val], at_ + 1 + P, val + (1 + p8), rfl, by omega, rfl, rfl, by (have e : ((j - 1 : Nat) : Int) = (j : Int) - 1 := by omega); rw [e], by omega, by omega, hA2.alloc _, small_app HS.out (by omega) (by omega), (hR9.alloc _).more (by omega), only_alloc hF9 _⟩
        case measure => simp [intOf]; omega
    · have hj0 : j = 0 := by omega
      subst hj0
      have hi : i ≤ 6 := by omega
      have hi2 : 2 ≤ i := by omega
      clear hij
      go_wp2_with fail
      refine (odd_any R _ _ hm (by omega) _ hR (by omega)).mono ?_
      rintro e w5 ⟨b, rfl, hR5, hO⟩
      replace hA := hA.only hO (by omega)
      have hF5 := only_trans hF hO
      clear hO hR hF
      cases b
      · go_wp2
        go_ret
        exact DrawsK.app hA (by omega) (by omega) (by omega) HS.out ⟨hR5.more (by omega), hF5⟩
      · go_wp2_with fail
        refine (pick_any R _ _ (by omega) (by omega) _ hR5 (by omega)).mono ?_
        rintro e w6 ⟨q, rfl, ⟨q0, q1⟩, hR6, hO⟩
        replace hA := hA.only hO (by omega)
        have hF6 := only_trans hF5 hO
        clear hO hR5 hF5
        have hq : q = 0 ∨ q = 1 ∨ q = 2 ∨ q = 3 := by omega
        rcases hq with rfl | rfl | rfl | rfl
        · obtain ⟨A, c, rfl, ho⟩ := hA.form
          have hfirst := Lib.hid (ho.first (by omega))
          obtain ⟨hl, hc, -⟩ := ho
          have HL := Lib.hid hl
          clear hl
          have ic : (1 : Int) ≤ (c : Int) := by omega
          go_wp2
          go_ret
          exact ⟨A, 1, c, l.take 2, rfl, by omega, by omega, small_take HS.out 2, hfirst.out, hR6.more (by omega), hF6⟩
        · have hA' := hA
          obtain ⟨A, c, rfl, ho⟩ := hA.form
          obtain ⟨hl, hc, hp⟩ := ho
          obtain ⟨g, rfl, hg, hrow⟩ := hp (by omega)
          obtain ⟨d, rfl⟩ : ∃ d, i = d + 1 := ⟨i - 1, by omega⟩
          have HL := Lib.hid hl
          have k1 := hrow.cell (j := d * 2) (by rw [hl]; omega)
          have k2 := hrow.cell (j := d * 2 + 1) (by rw [hl]; omega)
          have s1 := HS.out (d * 2) (by rw [hl]; omega)
          have s2 := HS.out (d * 2 + 1) (by rw [hl]; omega)
          obtain ⟨y, hy⟩ : ∃ y, l.getD (d * 2) 0 = y := ⟨_, rfl⟩
          obtain ⟨z, hz⟩ : ∃ y, l.getD (d * 2 + 1) 0 = y := ⟨_, rfl⟩
          rw [hy] at k1 s1
          rw [hz] at k2 s2
          have z1 := hrow.lt
          have ek : ((d + 1 : Nat) : Int) = (d : Int) + 1 := rfl
          have e1 : IntKind.i64.wrap ((d : Int) + 1 - 1) = (d : Int) := by rw [IntWalk.i64_in _ (by omega)]; omega
          have e2 : (d : Int) + 1 - 1 = (d : Int) := by omega
          have e3 : (d : Int).toNat = d := Int.toNat_natCast _
          have i0 : (0 : Int) ≤ (d : Int) := by omega
          have i1 : (d : Int) < (d : Int) + 1 := by omega
          have hsz : w.heap.size ≤ w6.heap.size := hF6.size
          clear hl hp hy hz ek hrow
          go_wp2_with (at_builtin; refine wpList_append_knot rfl (.tmp 79) (.tmp 86) rfl w.heap.size (d + 1) _ l y z w6 w6 rfl rfl hA' (by omega) (Below.refl _ _) hsz ?_; rintro x7 w7 hA7 hb7)
          go_ret
          exact DrawsK.app hA7 (Nat.le_refl _) (by omega) (by omega) (small_app HS.out s1 s2) ⟨(hR6.below hb7 (by omega)).more (by omega), only_both hF6 hb7 (Nat.le_refl _)⟩
        · have hsz : w.heap.size ≤ w6.heap.size := hF6.size
          go_wp2_with (at_builtin; refine wpList_append_knot rfl (.tmp 90) (.tmp 92) rfl w.heap.size i x l 1000001 0 w6 w6 rfl rfl hA (by omega) (Below.refl _ _) hsz ?_; rintro x7 w7 hA7 hb7)
          go_ret
          exact DrawsK.app hA7 (Nat.le_refl _) (by omega) (by omega) (small_app HS.out (by omega) (by omega)) ⟨(hR6.below hb7 (by omega)).more (by omega), only_both hF6 hb7 (Nat.le_refl _)⟩
        · have hmk := run_make_13 w6
          have hsz : w.heap.size ≤ w6.heap.size := hF6.size
          have hrow := RowK.made w6 (13 * 2)
          have hF7 := only_alloc hF6 (.cells (madeCells #[.int .i64 0, .int .i64 0] (13 * 2)) 41)
          have hR7 := hR6.alloc (.cells (madeCells #[.int .i64 0, .int .i64 0] (13 * 2)) 41)
          have z6 := hR6.lt
          go_wp2
          clear hmk hA hR6 hF6
          go_loopw [10] (fun s wr => ∃ (t : Nat) (ys : List Int), t ≤ 13 ∧ s = .int .i64 t ∧ ys.length = 26 ∧ Small ys ∧ RowK wr w6.heap.size ys ∧ Rd wr R (N + 4 + 4 * i + 1 + 1) ∧ Only w wr R) (fun s _ => 13 - (intOf s).toNat)
          case atStart => exact ⟨0, _, Nat.zero_le _, rfl, by simp, small_zero _, hrow, hR7, hF7⟩
          case round =>
            clear hrow hR7 hF7
            obtain ⟨t, ys, ht, rfl, hy, hsm, hrow, hR7, hF7⟩ := hrel
            have HY := Lib.hid hy
            have HSM := Lib.hid hsm
            clear hy hsm
            by_cases hl13 : t < 13
            · have k1 := hrow.cell (j := t * 2) (by rw [HY.out]; omega)
              have f1 := hrow.frozen (t * 2)
              obtain ⟨old, ho⟩ : ∃ o, ys.getD (t * 2) 0 = o := ⟨_, rfl⟩
              rw [ho] at k1
              clear ho
              have i0 : (0 : Int) ≤ (t : Int) := by omega
              have i1 : (t : Int) < 13 := by omega
              have z7 := hrow.lt
              go_wp2
              go_roundw
              case rel =>
                refine ⟨t + 1, ys.set (t * 2) t, by omega, by go_num, by simp [HY.out], fun j hj => ?_, hrow.set_ (t * 2) _, hR7.far (p := ⟨w6.heap.size, t * 2, none⟩) z6 _, only_set hF7 (p := ⟨w6.heap.size, t * 2, none⟩) (.inr hsz) _⟩
                simp at hj
                by_cases hjt : j = t * 2
                · subst hjt; rw [getD_set_eq _ _ _ hj]; omega
                · rw [getD_set_ne _ _ _ _ hjt]; exact HSM.out j hj
              case measure => simp [intOf]; omega
            · have hkk : t = 13 := by omega
              subst hkk
              go_wp2
              go_ret
              exact ⟨_, 13, 13, ys, rfl, by omega, by omega, HSM.out, hrow.own hsz (by rw [HY.out]), hR7.more (by omega), hF7⟩
end Go.Proofs.Ytiimaodphhaohaa
