/- The walk of the law MiddleSpike; no condition. -/
import Derived.Test.YtpmojbdoiahodaaSerMath
import Derived.Test.YtpmojbdoiahodaaSerDraw2
namespace Go.Proofs.Ytpmojbdoiahodaa
open Go.RowKit
set_option linter.unusedVariables false
set_option linter.unusedSimpArgs false
set_option maxHeartbeats 2000000

theorem wpList_append_all {ops : Array Oper} {rest : List Oper} {o : Oper} {a : Act} {Q : Exit → Act → World → Prop} (hgd : o.guard = none) (s x : Operand) (ho : o.op = .call { callee := .builtin .append, args := #[s, x], argTypes := #[22, 22] })
    (B b off c : Nat) (v : Value) (l y : List Int) (w0 W : World) (hs : a.eval s = v) (hx : a.eval x = .slice (some ⟨b, off, none⟩) y.length c) (hA : App W B v l) (hy : ∀ j, j < y.length → W.cell? ⟨b, off + j, none⟩ = some (.int .i64 (y.getD j 0)))
    (hl : l.length ≤ 4294967296) (hyl : y.length ≤ 4294967296) (hb : Below B w0 W) (hB : B ≤ W.heap.size)
    (h : ∀ v' w', App w' B v' (l ++ y) → Below B w0 w' → wpList Try.prog ops Q rest (a.put o.dst v') w') : wpList Try.prog ops Q (o :: rest) a W := by
  obtain ⟨i, hi, hzz⟩ := Option.map_eq_some_iff.1 info_int
  simp only [Prod.mk.injEq] at hzz
  obtain ⟨hz, hsz, hby⟩ := hzz
  refine wpList_append_own _ hgd s x 22 ho B 3 i (.int .i64 0) 1 8 Try.underlying22 hi hz hsz hby rfl (by decide) v l.length (l.map (Value.int .i64)) hs hA
    ⟨b, off, none⟩ y.length c (y.map (Value.int .i64)) hx (by simp) ?_ ?_ (by unfold maxLen; omega) (by omega) hB ?_
  · intro j u hj
    have hj2 : j < y.length := by
      rcases Nat.lt_or_ge j y.length with h | h
      · exact h
      · rw [List.getElem?_eq_none (by simpa using h)] at hj; cases hj
    have e : (Addr.add ⟨b, off, none⟩ j) = ⟨b, off + j, none⟩ := by
      by_cases hj0 : j = 0
      · subst hj0; simp [Addr.add]
      · simp [Addr.add, hj0]
    rw [e, hy j hj2]
    rw [List.getElem?_map, List.getElem?_eq_getElem hj2] at hj
    simp only [Option.map_some, Option.some.injEq] at hj
    rw [← hj]
    simp [List.getD, hj2]
  · intro u hu
    rw [List.mem_map] at hu
    obtain ⟨q, _, rfl⟩ := hu
    rfl
  · intro v' w' hown hg _
    refine h v' w' ?_ (Below.grown hb hg hB fun k hk => ?_)
    · have e : l.map (Value.int IntKind.i64) ++ y.map (Value.int .i64) = (l ++ y).map (Value.int .i64) := by simp
      rw [e] at hown
      have e2 : l.length + y.length = (l ++ y).length := by simp
      rw [e2] at hown
      exact hown
    · exact (World.ownsRow.lt hA k hk).1
theorem App.two {w : World} {B : Nat} {v : Value} {l : List Int} (h : App w B v l) (hl : 0 < l.length) : ∃ g c, v = .slice (some ⟨g, 0, none⟩) l.length c ∧ B ≤ g ∧ l.length ≤ c ∧ Row w g l := by
  obtain ⟨A, c, rfl, ho⟩ := h.form
  obtain ⟨g, rfl, hg, hr⟩ := ho.2.2 hl
  exact ⟨g, c, rfl, hg, ho.2.1, hr⟩
def flat7 : List Int := [5, 5, 5, 5, 5, 5, 5]
theorem spike_math (p : Nat) (y : Int) (hp : 1 ≤ p ∧ p ≤ 5) (y0 : 0 ≤ y) (y1 : y ≤ 1000000) : middleFilter (flat7.set p y) = flat7 := by
  have hs : seriesB (flat7.set p y) = true := by
    refine seriesB_mk _ (by simp [flat7]) fun j hj => ?_
    have hj7 : j < 7 := by simpa [flat7] using hj
    by_cases hjp : j = p
    · subst hjp
      rw [getD_set_eq _ _ _ (by simpa [flat7] using hj7)]; omega
    · rw [getD_set_ne _ _ _ _ hjp]
      have : j = 0 ∨ j = 1 ∨ j = 2 ∨ j = 3 ∨ j = 4 ∨ j = 5 ∨ j = 6 := by omega
      rcases this with rfl | rfl | rfl | rfl | rfl | rfl | rfl <;> simp [flat7]
  unfold middleFilter
  rw [hs]
  have : p = 1 ∨ p = 2 ∨ p = 3 ∨ p = 4 ∨ p = 5 := by omega
  have e1 : max (min 5 y) (min (max 5 y) 5) = 5 := by omega
  have e2 : max (min 5 5) (min (max 5 5) y) = 5 := by omega
  have e3 : max (min y 5) (min (max y 5) 5) = 5 := by omega
  rcases this with rfl | rfl | rfl | rfl | rfl <;> simp [flat7, tab, midF, mid3, List.range_succ] <;> omega
theorem walk_FnMiddleSpike (A : Option Addr) (n c : Nat) (xs : List Int) (w : World) (h : Byts w w.heap.size A xs) (hn : xs.length = n) (hc : n ≤ c) (hm : c ≤ maxLen) :
    Calls Try.prog 10 #[.slice A n c] w fun e w' => e = .returned (.bool true) ∧ Below w.heap.size w w' := by
  by_cases hbig : 1048576 < n
  · unfold maxLen at hm
    clear hn
    go_enter Try.func10, Try.ntmps10
    go_wp2
    go_ret
    exact ⟨rfl, (by repeat (first | exact bw_refl _ | assumption | apply bw_alloc | apply bw_drew | apply bw_drewN | (refine bw_trans ?_ (by assumption)) | (refine bw_set ?_ (by simp only [go_sem]; omega) _)))⟩
  · have HN := Lib.hid hn
    clear hn
    go_enter Try.func10, Try.ntmps10
    go_wp2_with fail
    refine (drawMiddleFilter_any A n c xs w w h HN.out hc hm (by omega) (bw_refl w)).mono ?_
    rintro e w1 ⟨A1, c1, l, rfl, hl, o1, b1⟩
    have hlen : l.length ≤ 4294967296 := by omega
    have hRl : (middleFilter l).length ≤ 4294967296 := middleFilter_len l (by omega)
    have hi := o1.ints
    obtain ⟨R, hR⟩ : ∃ R, middleFilter l = R := ⟨_, rfl⟩
    have HR := Lib.hid hR
    rw [hR] at hRl
    clear hR o1
    go_wp2_with fail
    refine (implMiddleFilter_any A1 _ c1 l _ rfl hi hlen).mono ?_
    rintro e w2 hq
    rw [HR.out] at hq
    obtain ⟨⟨A2, c2, rfl, o2⟩, b2⟩ := hq
    have i1 := hi.up b2
    have i2 := o2.ints
    have d2 : Below w.heap.size w w2 := (by repeat (first | exact bw_refl _ | assumption | apply bw_alloc | apply bw_drew | apply bw_drewN | (refine bw_trans ?_ (by assumption)) | (refine bw_set ?_ (by simp only [go_sem]; omega) _)))
    clear hi
    go_wp2_with fail
    refine (specMiddleFilter_any A1 _ c1 l _ rfl i1 hlen).mono ?_
    rintro e w3 hq
    rw [HR.out] at hq
    obtain ⟨⟨A3, c3, rfl, o3⟩, b3⟩ := hq
    have j2 := i2.up b3
    have j3 := o3.ints
    clear i1 i2
    go_wp2_with fail
    refine (sameInts_any A2 A3 _ _ _ _ R R _ rfl rfl j2 j3 hRl hRl).mono ?_
    rintro e w4 ⟨he, b4⟩
    rw [eqIs_same] at he
    subst he
    have d4 : Below w.heap.size w w4 := (by repeat (first | exact bw_refl _ | assumption | apply bw_alloc | apply bw_drew | apply bw_drewN | (refine bw_trans ?_ (by assumption)) | (refine bw_set ?_ (by simp only [go_sem]; omega) _)))
    clear j2 j3 b1 b2 b3 b4 o2 o3
    have hA := App.empty w4 w4.heap.size (Nat.le_refl _)
    go_wp2
    go_loopw [4, 5] (fun v i wr => ∃ (x : Value) (k : Nat), x = v ∧ k ≤ 7 ∧ i = .int .i64 k ∧ App wr w4.heap.size x (flat7.take k) ∧ Below w4.heap.size w4 wr) (fun _ i _ => (7 - intOf i).toNat)
    case atStart => exact ⟨_, 0, rfl, by omega, rfl, hA, bw_alloc (bw_refl _) _⟩
    case round =>
      obtain ⟨x, k, rfl, hk, rfl, hP, hb⟩ := hrel
      have hsz := hb.size
      by_cases hlt : k < 7
      · have hfl : (flat7.take k).length ≤ 4294967296 := by rw [List.length_take]; omega
        have hnx : flat7.take k ++ [5] = flat7.take (k + 1) := by
          have : k = 0 ∨ k = 1 ∨ k = 2 ∨ k = 3 ∨ k = 4 ∨ k = 5 ∨ k = 6 := by omega
          rcases this with rfl | rfl | rfl | rfl | rfl | rfl | rfl <;> rfl
        have HX := Lib.hid hnx
        clear hnx
        go_wp2_with (at_builtin; refine wpList_append_int rfl (.tmp 23) (.tmp 24) rfl w4.heap.size x _ 5 w4 wr rfl rfl hP hfl hb hsz ?_; rintro v2 w5 hP2 hb5)
        go_roundw
        case rel => exact ⟨v2, k + 1, rfl, by omega, by go_num, by rw [← HX.out]; exact hP2, hb5⟩
        case measure => simp [intOf] <;> omega
      · obtain rfl : k = 7 := by omega
        have e7 : flat7.take 7 = flat7 := rfl
        rw [e7] at hP
        clear e7 hA
        obtain ⟨g, cg, rfl, hg, hcg, hrow⟩ := hP.two (by decide)
        have hfl : flat7.length = 7 := rfl
        rw [hfl]
        clear hP hfl
        have hA2 := App.empty wr wr.heap.size (Nat.le_refl _)
        have hrow2 := hrow.alloc (.cells #[] 3)
        have hcells : ∀ j, j < flat7.length → (wr.alloc (.cells #[] 3)).cell? ⟨g, 0 + j, none⟩ = some (.int .i64 (flat7.getD j 0)) := fun j hj => by rw [Nat.zero_add]; exact hrow2.cell hj
        have HC := Lib.hid hcells
        clear hcells
        have hb1 := bw_alloc (bw_refl wr) (.cells #[] 3)
        have hs1 : wr.heap.size ≤ (wr.alloc (.cells #[] 3)).heap.size := hb1.size
        obtain ⟨q, hq5⟩ : ∃ q, n % 5 = q := ⟨_, rfl⟩
        have hq4 : q ≤ 4 := by omega
        have em : (n : Int).tmod 5 = (q : Int) := by rw [Int.tmod_eq_emod_of_nonneg (by omega)]; omega
        have em2 : (n : Int) % 5 = (q : Int) := by omega
        have en : (1 + (q : Int)).toNat = 1 + q := by omega
        have i5 : (0 : Int) ≤ 1 + (q : Int) := by omega
        have i6 : 1 + (q : Int) < 7 := by omega
        have hSP := Lib.hid (spike_math (1 + q) ((l.length : Int) * 100) (by omega) (by omega) (by omega))
        have hfr : flat7.getD (1 + q) 0 = 5 := by
          have : q = 0 ∨ q = 1 ∨ q = 2 ∨ q = 3 ∨ q = 4 := by omega
          rcases this with rfl | rfl | rfl | rfl | rfl <;> rfl
        have hwn : IntKind.i64.wrap ((l.length : Int) * 100) = (l.length : Int) * 100 := IntWalk.i64_in _ (by omega)
        have HFR := Lib.hid hfr
        clear hfr hq5
        go_wp2_with (at_builtin; refine wpList_append_all rfl (.tmp 26) (.tmp 27) rfl wr.heap.size g 0 cg _ [] flat7 wr (wr.alloc (.cells #[] 3)) rfl rfl hA2 HC.out (by decide) (by decide) hb1 hs1 ?_; rintro v3 w6 hP3 hb6; rw [List.nil_append] at hP3; obtain ⟨g2, cg2, rfl, hg2, hcg2, hrow3⟩ := hP3.two (by decide); have k3 := hrow3.cell (j := 1 + q) (by simp [flat7]; omega); rw [HFR.out] at k3; have f3 := hrow3.frozen (1 + q); have e7 : flat7.length = 7 := rfl)
        have hs1 := hrow3.set_ (1 + q) ((l.length : Int) * 100)
        have hfl1 := (hrow.up hb6).far (p := ⟨g2, 1 + q, none⟩) (by simp; have := hrow.lt; omega) (.int .i64 ((l.length : Int) * 100))
        have d7 : Below w.heap.size w (w6.setCell ⟨g2, 1 + q, none⟩ (.int .i64 ((l.length : Int) * 100))) := bw_set (bw_trans (bw_trans d4 hb) hb6) (by simp; have := d4.size; omega) _
        have hlen7 : (flat7.set (1 + q) ((l.length : Int) * 100)).length = 7 := by simp [flat7]
        have HL7 := Lib.hid hlen7
        clear hlen7 k3 f3 hP3 hrow3
        refine (implMiddleFilter_any _ 7 cg2 _ _ HL7.out hs1.is (by omega)).mono ?_
        rintro e w8 hq
        rw [hSP.out] at hq
        obtain ⟨⟨A8, c8, rfl, o8⟩, b8⟩ := hq
        have e7' : flat7.length = 7 := rfl
        go_wp2_with fail
        refine (sameInts_any A8 _ _ _ _ _ flat7 flat7 _ rfl e7' o8.ints (hfl1.up b8).is (by decide) (by omega)).mono ?_
        rintro e w9 ⟨he, b9⟩
        rw [eqIs_same] at he
        subst he
        go_wp2_with (go_at_call 29; refine (alive_any _).mono ?_; rintro e w6 ⟨rfl, rfl⟩)
        go_ret
        exact ⟨ret_bool (by simp), (by repeat (first | exact bw_refl _ | assumption | apply bw_alloc | apply bw_drew | apply bw_drewN | (refine bw_trans ?_ (by assumption)) | (refine bw_set ?_ (by simp only [go_sem]; omega) _)))⟩
end Go.Proofs.Ytpmojbdoiahodaa
