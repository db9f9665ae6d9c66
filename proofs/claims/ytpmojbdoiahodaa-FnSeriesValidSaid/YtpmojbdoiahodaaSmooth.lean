/- Contracts of SmoothFilter, of the program's and the reference's, and the walk of its exact law; no condition. -/
import Derived.Test.YtpmojbdoiahodaaLimit
namespace Go.Proofs.Ytpmojbdoiahodaa
open Go.RowKit
set_option linter.unusedVariables false
set_option maxHeartbeats 4000000

theorem rdiv_bd (t d : Int) (hd : 0 < d) : (0 ≤ t → 0 ≤ rdiv t d ∧ rdiv t d ≤ t) ∧ (t ≤ 0 → t ≤ rdiv t d ∧ rdiv t d ≤ 0) := by
  have e : d * (t / d) + t % d = t := Int.mul_ediv_add_emod t d
  have r0 := Int.emod_nonneg t (b := d) (by omega)
  have r1 := Int.emod_lt_of_pos t hd
  obtain ⟨q, hq⟩ : ∃ q, t / d = q := ⟨_, rfl⟩
  obtain ⟨r, hr⟩ : ∃ r, t % d = r := ⟨_, rfl⟩
  rw [hq, hr] at e
  rw [hr] at r0 r1
  have er : t - t / d * d = r := by rw [hq, Int.mul_comm]; omega
  constructor
  · intro ht
    have q0 : 0 ≤ q := by rw [← hq]; exact Int.ediv_nonneg ht (by omega)
    have h1 : 1 * q ≤ d * q := Int.mul_le_mul_of_nonneg_right (by omega) q0
    unfold rdiv
    rw [er, hq]
    split
    · rename_i hs
      have d2 : 2 ≤ d := by omega
      have h2 : 2 * q ≤ d * q := Int.mul_le_mul_of_nonneg_right d2 q0
      omega
    · omega
  · intro ht
    have q1 : t ≤ q := by
      rw [← hq]
      refine Int.le_ediv_of_mul_le hd ?_
      have := Int.mul_le_mul_of_nonpos_left (a := t) (b := d) (c := 1) ht (by omega)
      omega
    have q2 : q ≤ 0 := by
      rcases Int.lt_or_le 0 q with h | h
      · have h1 : d * 1 ≤ d * q := Int.mul_le_mul_of_nonneg_left (by omega) (by omega)
        omega
      · exact h
    unfold rdiv
    rw [er, hq]
    split
    · rename_i hs
      refine ⟨by omega, ?_⟩
      rcases Int.lt_or_le q 0 with h | h
      · omega
      · have : q = 0 := by omega
        subst this
        omega
    · omega
def smF (xs : List Int) (d : Int) : Nat → Int
  | 0 => xs.getD 0 0
  | k + 1 => smF xs d k + rdiv (xs.getD (k + 1) 0 - smF xs d k) d
def smoothFilter (xs : List Int) (k : Int) : List Int := if seriesB xs && inB k 0 10 then tab (smF xs (2 ^ k.toNat)) xs.length else []
theorem smF_bd (xs : List Int) (d : Int) (h0 : 0 < d) (h : ∀ j, j < xs.length → -1000000 ≤ xs.getD j 0 ∧ xs.getD j 0 ≤ 1000000) : ∀ k, k < xs.length → -1000000 ≤ smF xs d k ∧ smF xs d k ≤ 1000000
  | 0, hk => h 0 hk
  | k + 1, hk => by
    have h1 := smF_bd xs d h0 h k (by omega)
    have h2 := h (k + 1) hk
    have h3 := rdiv_bd (xs.getD (k + 1) 0 - smF xs d k) d h0
    rw [smF]
    rcases Int.le_total 0 (xs.getD (k + 1) 0 - smF xs d k) with h4 | h4
    · have := h3.1 h4; omega
    · have := h3.2 h4; omega
theorem pow10_bd (k : Int) (k0 : 0 ≤ k) (k1 : k ≤ 10) : 1 ≤ (2 : Int) ^ k.toNat ∧ (2 : Int) ^ k.toNat ≤ 1024 := by
  have := pow2_bd k.toNat 10 (by omega)
  have d : (2 : Int) ^ 10 = 1024 := by decide
  omega
theorem specSmoothFilter_any (A : Option Addr) (n c : Nat) (xs : List Int) (m : Int) (w : World) (hn : xs.length = n) (h : Ints w w.heap.size A xs) (hlen : n ≤ 4294967296) :
    Calls Try.prog 24 #[.slice A n c, .int .i64 m] w fun e w' => IsNew w (smoothFilter xs m) e w' := by
  subst hn
  by_cases hv : (seriesB xs && inB m 0 10) = true
  · have E1 : Hid (smoothFilter xs m = tab (smF xs (2 ^ m.toNat)) xs.length) := by simp only [Hid, smoothFilter, hv, if_true]
    have hv2 := hv
    rw [Bool.and_eq_true] at hv2
    obtain ⟨hs, hm⟩ := hv2
    obtain ⟨l1, hall⟩ := seriesB_at xs hs
    obtain ⟨m0, m1⟩ := (inB_iff _ _ _).1 hm
    obtain ⟨d0, d1⟩ := pow10_bd m m0 m1
    have HB := Lib.hid (smF_bd xs (2 ^ m.toNat) (by omega) hall)
    have HA := Lib.hid hall
    clear hall hv
    go_enter Try.func24, Try.ntmps24
    go_wp2
    go_loopw [5, 6] (fun v i wr => ∃ k : Nat, k ≤ xs.length ∧ i = .int .i64 k ∧ App wr w.heap.size v (tab (smF xs (2 ^ m.toNat)) k) ∧ Below w.heap.size w wr) (fun _ i _ => xs.length - (intOf i).toNat)
    case atStart => exact ⟨0, by omega, rfl, App.empty w _ (Nat.le_refl _), (by repeat (first | exact bw_refl _ | assumption | apply bw_alloc | apply bw_drew | apply bw_drewN | (refine bw_trans ?_ (by assumption)) | (refine bw_set ?_ (by simp only [go_sem]; omega) _)))⟩
    case round =>
      obtain ⟨k, hk, rfl, hP, hb⟩ := hrel
      have hB : w.heap.size ≤ wr.heap.size := hb.size
      by_cases hlt : k < xs.length
      · obtain ⟨b, off, rfl, hbl, hc⟩ := h (by omega)
        have hI : Ints wr wr.heap.size (some ⟨b, off, none⟩) xs := h.up hb
        match k, hk, hlt, hP with
        | 0, hk, hlt, hP =>
          have hc1 : wr.cell? ⟨b, off, none⟩ = some (.int .i64 (xs.getD 0 0)) := (hb.cell (p := ⟨b, off, none⟩) hbl).trans (hc 0 hlt)
          clear hc
          have HF : Hid (smF xs (2 ^ m.toNat) 0 = xs.getD 0 0) := rfl
          obtain ⟨x, hx⟩ : ∃ x, xs.getD 0 0 = x := ⟨_, rfl⟩
          rw [hx] at hc1
          have HX := Lib.hid hx
          clear hx
          go_wp2_with (first
            | (go_at_call 14; refine (specSeriesValid_any _ _ _ xs _ rfl hI (by omega)).mono ?_; rintro e w' ⟨rfl, rfl⟩)
            | (go_at_call 36; refine (l1In_any _ _ _ _).mono ?_; rintro e w' ⟨rfl, rfl⟩)
            | (at_builtin; refine wpList_append_int rfl (.tmp 24) (.tmp 28) rfl w.heap.size _ _ x w wr rfl rfl hP (by rw [tab_length]; omega) hb hB ?_; rintro v' w' hP2 hb2))
          go_roundw
          case rel => exact ⟨1, by omega, by go_num, by rw [tab_succ, HF.out, HX.out]; exact hP2, hb2⟩
          case measure => simp [intOf] <;> omega
        | j + 1, hk, hlt, hP =>
          have hc1 : wr.cell? ⟨b, off + (j + 1), none⟩ = some (.int .i64 (xs.getD (j + 1) 0)) := (hb.cell (p := ⟨b, off + (j + 1), none⟩) hbl).trans (hc (j + 1) hlt)
          clear hc
          obtain ⟨x0, x1⟩ := HA.out (j + 1) hlt
          obtain ⟨y0, y1⟩ := HB.out j (by omega)
          obtain ⟨A', c', rfl, ho⟩ := hP.form
          rw [tab_length] at hP ho ⊢
          obtain ⟨g, rfl, hg, hR⟩ := ho.2.2 (by omega)
          have hc2 := hR.cell (j := j) (by rw [tab_length]; omega)
          have hf2 := hR.frozen j
          have hcap := ho.2.1
          rw [tab_getD _ _ _ (by omega)] at hc2
          clear ho hR
          have HF : Hid (smF xs (2 ^ m.toNat) (j + 1) = smF xs (2 ^ m.toNat) j + rdiv (xs.getD (j + 1) 0 - smF xs (2 ^ m.toNat) j) (2 ^ m.toNat)) := rfl
          obtain ⟨z0, z1⟩ := HB.out (j + 1) hlt
          rw [HF.out] at z0 z1
          obtain ⟨x, hx⟩ : ∃ x, xs.getD (j + 1) 0 = x := ⟨_, rfl⟩
          obtain ⟨y, hy⟩ : ∃ y, smF xs (2 ^ m.toNat) j = y := ⟨_, rfl⟩
          rw [hx] at hc1 x0 x1 z0 z1
          rw [hy] at hc2 y0 y1 z0 z1
          obtain ⟨r, hr⟩ : ∃ r, rdiv (x - y) (2 ^ m.toNat) = r := ⟨_, rfl⟩
          rw [hr] at z0 z1
          have HX := Lib.hid hx
          have HY := Lib.hid hy
          have HR := Lib.hid hr
          clear hx hy hr
          have ek : ((j + 1 : Nat) : Int) = (j : Int) + 1 := rfl
          rw [ek]
          clear ek
          go_wp2_with (first
            | (go_at_call 14; refine (specSeriesValid_any _ _ _ xs _ rfl hI (by omega)).mono ?_; rintro e w' ⟨rfl, rfl⟩)
            | (go_at_call 36; refine (l1In_any _ _ _ _).mono ?_; rintro e w' ⟨rfl, rfl⟩))
          have e1 : IntKind.i64.wrap (j : Int) = j := IntWalk.i64_in _ (by omega)
          have e2 : IntKind.i64.wrap (x - y) = x - y := IntWalk.i64_in _ (by omega)
          have e3 : IntKind.i64.wrap (y + r) = y + r := IntWalk.i64_in _ (by omega)
          have e4 : IntKind.i64.wrap (2 ^ m.toNat) = 2 ^ m.toNat := IntWalk.i64_in _ (by omega)
          have i1 : (j : Int) < (j : Int) + 1 := by omega
          have i2 : (j : Int) + 1 < xs.length := by omega
          have i3 : (0 : Int) ≤ (j : Int) + 1 := by omega
          go_region_law (first
            | (refine step_append_int rfl (.tmp 30) (.tmp 50) rfl w.heap.size _ _ _ w wr.drew (by simp [Act.eval]) (by simp [Act.eval]) hP (by rw [tab_length]; omega) (by repeat (first | exact bw_refl _ | assumption | apply bw_alloc | apply bw_drew | apply bw_drewN | (refine bw_trans ?_ (by assumption)) | (refine bw_set ?_ (by simp only [go_sem]; omega) _))) hB ?_; intro v' w' hP2 hb2)
            | (go_simp; go_at_call 38; refine (l1Round_any (x - y) (2 ^ m.toNat) (by omega) (by omega) (by omega) (by omega) _).mono ?_; rintro e w' ⟨rfl, rfl⟩; rw [HR.out]))
          all_goals
            go_wp2
            go_roundw
            case rel => exact ⟨j + 1 + 1, by omega, by go_num, by rw [tab_succ, HF.out, HY.out, HX.out, HR.out]; exact hP2, hb2⟩
            case measure => simp [intOf] <;> omega
      · have hkk : k = xs.length := by omega
        go_wp2
        go_ret
        rw [E1.out, ← hkk]
        exact IsNew.app hP hb
  · have E1 : Hid (smoothFilter xs m = []) := by simp only [Hid, smoothFilter, hv]; rfl
    have hv2 : seriesB xs = false ∨ inB m 0 10 = false := by
      cases h1 : seriesB xs
      · exact .inl rfl
      · cases h2 : inB m 0 10
        · exact .inr rfl
        · rw [h1, h2] at hv; exact absurd rfl hv
    clear hv
    go_enter Try.func24, Try.ntmps24
    go_wp2
    go_loopw [5, 6] (fun v i wr => i = .int .i64 0 ∧ App wr w.heap.size v [] ∧ Below w.heap.size w wr) (fun _ i _ => 0)
    case atStart => exact ⟨rfl, App.empty w _ (Nat.le_refl _), (by repeat (first | exact bw_refl _ | assumption | apply bw_alloc | apply bw_drew | apply bw_drewN | (refine bw_trans ?_ (by assumption)) | (refine bw_set ?_ (by simp only [go_sem]; omega) _)))⟩
    case round =>
      obtain ⟨rfl, hP, hb⟩ := hrel
      have hI : Ints wr wr.heap.size A xs := h.up hb
      by_cases hlt : 0 < xs.length
      · cases hs : seriesB xs
        · go_wp2_with (go_at_call 14; refine (specSeriesValid_any _ _ _ xs _ rfl hI (by omega)).mono ?_; rintro e w' ⟨rfl, rfl⟩)
          go_ret
          rw [E1.out]
          exact IsNew.app hP hb
        · have hm : inB m 0 10 = false := by rcases hv2 with h1 | h1; (rw [hs] at h1; cases h1); exact h1
          go_wp2_with (first
            | (go_at_call 14; refine (specSeriesValid_any _ _ _ xs _ rfl hI (by omega)).mono ?_; rintro e w' ⟨rfl, rfl⟩)
            | (go_at_call 36; refine (l1In_any _ _ _ _).mono ?_; rintro e w' ⟨rfl, rfl⟩))
          go_ret
          rw [E1.out]
          exact IsNew.app hP hb
      · have h0 : ((xs.length : Int)) = 0 := by omega
        go_wp2
        go_ret
        rw [E1.out]
        exact IsNew.app hP hb
theorem implSmoothFilter_any (A : Option Addr) (n c : Nat) (xs : List Int) (m : Int) (w : World) (hn : xs.length = n) (h : Ints w w.heap.size A xs) (hlen : n ≤ 4294967296) :
    Calls Try.prog 25 #[.slice A n c, .int .i64 m] w fun e w' => IsNew w (smoothFilter xs m) e w' := by
  subst hn
  by_cases hv : (seriesB xs && inB m 0 10) = true
  · have E1 : Hid (smoothFilter xs m = tab (smF xs (2 ^ m.toNat)) xs.length) := by simp only [Hid, smoothFilter, hv, if_true]
    have hv2 := hv
    rw [Bool.and_eq_true] at hv2
    obtain ⟨hs, hm⟩ := hv2
    obtain ⟨l1, hall⟩ := seriesB_at xs hs
    obtain ⟨m0, m1⟩ := (inB_iff _ _ _).1 hm
    obtain ⟨d0, d1⟩ := pow10_bd m m0 m1
    have HB := Lib.hid (smF_bd xs (2 ^ m.toNat) (by omega) hall)
    have HA := Lib.hid hall
    clear hall hv
    have hmk := run_make_row' (P := Try.prog) 22 3 (.int .i64 0) 8 Try.underlying22 info_int rfl .i64 .i64 xs.length (by omega) (by omega)
    go_enter Try.func25, Try.ntmps25
    go_wp2_with (go_at_call 16; refine (implSeriesValid_any _ _ _ xs _ rfl h (by omega)).mono ?_; rintro e w' ⟨rfl, rfl⟩)
    go_loopw [24] (fun i wr => ∃ (k : Nat) (ys : List Int), k ≤ xs.length ∧ i = .int .i64 (k : Int) ∧ ys.length = xs.length ∧ (∀ j, j < k → ys.getD j 0 = smF xs (2 ^ m.toNat) j) ∧ Row wr w.heap.size ys ∧ Below w.heap.size w wr) (fun i _ => xs.length - (intOf i).toNat)
    case atStart => exact ⟨0, List.replicate xs.length 0, Nat.zero_le _, rfl, by simp, fun j hj => by omega, Row.made w _, (by repeat (first | exact bw_refl _ | assumption | apply bw_alloc | apply bw_drew | apply bw_drewN | (refine bw_trans ?_ (by assumption)) | (refine bw_set ?_ (by simp only [go_sem]; omega) _)))⟩
    case round =>
      obtain ⟨k, ys, hk, rfl, hy, he, hR, hb⟩ := hrel
      have HE := Lib.hid he
      have HY := Lib.hid hy
      clear he hy
      by_cases hlt : k < xs.length
      · obtain ⟨b, off, rfl, hbl, hc⟩ := h (by omega)
        match k, hk, hlt, HE with
        | 0, hk, hlt, HE =>
          have hc1 : wr.cell? ⟨b, off, none⟩ = some (.int .i64 (xs.getD 0 0)) := (hb.cell (p := ⟨b, off, none⟩) hbl).trans (hc 0 hlt)
          have hc3 := hR.cell (j := 0) (by rw [HY.out]; omega)
          have hf3 := hR.frozen 0
          clear hc
          have HF : Hid (smF xs (2 ^ m.toNat) 0 = xs.getD 0 0) := rfl
          obtain ⟨x, hx⟩ : ∃ x, xs.getD 0 0 = x := ⟨_, rfl⟩
          obtain ⟨z, hz⟩ : ∃ z, ys.getD 0 0 = z := ⟨_, rfl⟩
          rw [hx] at hc1
          rw [hz] at hc3
          have HX := Lib.hid hx
          clear hx hz
          go_wp2
          go_roundw
          case rel =>
            refine ⟨1, ys.set 0 x, by omega, by go_num, by simp [HY.out], fun j hj => ?_, hR.set_ 0 _, hb.setCell (p := ⟨w.heap.size, 0, none⟩) (Nat.le_refl _) _⟩
            obtain rfl : j = 0 := by omega
            rw [HF.out, HX.out]; exact getD_set_eq _ _ _ (by rw [HY.out]; exact hlt)
          case measure => simp [intOf] <;> omega
        | j + 1, hk, hlt, HE =>
          have hc1 : wr.cell? ⟨b, off + (j + 1), none⟩ = some (.int .i64 (xs.getD (j + 1) 0)) := (hb.cell (p := ⟨b, off + (j + 1), none⟩) hbl).trans (hc (j + 1) hlt)
          have hc2 := hR.cell (j := j) (by rw [HY.out]; omega)
          have hc3 := hR.cell (j := j + 1) (by rw [HY.out]; omega)
          have hf3 := hR.frozen (j + 1)
          clear hc
          rw [HE.out j (by omega)] at hc2
          obtain ⟨x0, x1⟩ := HA.out (j + 1) hlt
          obtain ⟨y0, y1⟩ := HB.out j (by omega)
          have HF : Hid (smF xs (2 ^ m.toNat) (j + 1) = smF xs (2 ^ m.toNat) j + rdiv (xs.getD (j + 1) 0 - smF xs (2 ^ m.toNat) j) (2 ^ m.toNat)) := rfl
          obtain ⟨z0, z1⟩ := HB.out (j + 1) hlt
          rw [HF.out] at z0 z1
          obtain ⟨x, hx⟩ : ∃ x, xs.getD (j + 1) 0 = x := ⟨_, rfl⟩
          obtain ⟨y, hyy⟩ : ∃ y, smF xs (2 ^ m.toNat) j = y := ⟨_, rfl⟩
          obtain ⟨u, hu⟩ : ∃ u, ys.getD (j + 1) 0 = u := ⟨_, rfl⟩
          rw [hx] at hc1 x0 x1 z0 z1
          rw [hyy] at hc2 y0 y1 z0 z1
          rw [hu] at hc3
          obtain ⟨r, hr⟩ : ∃ r, rdiv (x - y) (2 ^ m.toNat) = r := ⟨_, rfl⟩
          rw [hr] at z0 z1
          have HX := Lib.hid hx
          have HY2 := Lib.hid hyy
          have HRr := Lib.hid hr
          clear hx hyy hr hu
          have ek : ((j + 1 : Nat) : Int) = (j : Int) + 1 := rfl
          rw [ek]
          clear ek
          have q0 : (((j : Int) + 1) == 0) = false := by simp; omega
          go_wp2
          have e1 : IntKind.i64.wrap (j : Int) = j := IntWalk.i64_in _ (by omega)
          have e2 : IntKind.i64.wrap (x - y) = x - y := IntWalk.i64_in _ (by omega)
          have e3 : IntKind.i64.wrap (y + r) = y + r := IntWalk.i64_in _ (by omega)
          have i1 : (j : Int) < xs.length := by omega
          have i2 : (j : Int) + 1 < xs.length := by omega
          have i3 : (0 : Int) ≤ (j : Int) + 1 := by omega
          go_region_law (go_simp; go_at_call 39; refine (implRoundShift_ok (x - y) m (by omega) (by omega) (by omega) (by omega) _).mono ?_; rintro e w' ⟨rfl, rfl⟩; rw [HRr.out])
          all_goals
            go_wp2
            go_roundw
            case rel =>
              refine ⟨j + 1 + 1, ys.set (j + 1) (y + r), by omega, by go_num, by simp [HY.out], fun i hi => ?_, Row.set_ (w := wr.drew) hR (j + 1) _, Below.setCell (p := ⟨w.heap.size, j + 1, none⟩) (bw_drew hb) (Nat.le_refl _) _⟩
              by_cases hij : i = j + 1
              · subst hij; rw [HF.out, HY2.out, HX.out, HRr.out]; exact getD_set_eq _ _ _ (by rw [HY.out]; exact hlt)
              · rw [getD_set_ne _ _ _ _ hij]; exact HE.out i (by omega)
            case measure => simp [intOf] <;> omega
      · have hkk : k = xs.length := by omega
        go_wp2
        go_ret
        rw [E1.out]
        refine IsNew.row (by rw [tab_length]) (Nat.le_refl _) (Nat.le_refl _) (hR.congr (by rw [tab_length, HY.out]) fun j hj => ?_) hb
        rw [HY.out] at hj
        rw [tab_getD _ _ _ hj, HE.out j (by omega)]
  · have E1 : Hid (smoothFilter xs m = []) := by simp only [Hid, smoothFilter, hv]; rfl
    cases hs : seriesB xs
    · clear hv
      go_enter Try.func25, Try.ntmps25
      go_wp2_with (go_at_call 16; refine (implSeriesValid_any _ _ _ xs _ rfl h (by omega)).mono ?_; rintro e w' ⟨rfl, rfl⟩)
      go_ret
      rw [E1.out]
      exact IsNew.nil (by repeat (first | exact bw_refl _ | assumption | apply bw_alloc | apply bw_drew | apply bw_drewN | (refine bw_trans ?_ (by assumption)) | (refine bw_set ?_ (by simp only [go_sem]; omega) _)))
    · have hm : ¬ (0 ≤ m ∧ m ≤ 10) := fun hm => hv (by rw [hs, (inB_iff _ _ _).2 hm]; rfl)
      clear hv
      by_cases hm0 : m < 0
      · go_enter Try.func25, Try.ntmps25
        go_wp2_with (go_at_call 16; refine (implSeriesValid_any _ _ _ xs _ rfl h (by omega)).mono ?_; rintro e w' ⟨rfl, rfl⟩)
        go_ret
        rw [E1.out]
        exact IsNew.nil (by repeat (first | exact bw_refl _ | assumption | apply bw_alloc | apply bw_drew | apply bw_drewN | (refine bw_trans ?_ (by assumption)) | (refine bw_set ?_ (by simp only [go_sem]; omega) _)))
      · have hm1 : 10 < m := by omega
        go_enter Try.func25, Try.ntmps25
        go_wp2_with (go_at_call 16; refine (implSeriesValid_any _ _ _ xs _ rfl h (by omega)).mono ?_; rintro e w' ⟨rfl, rfl⟩)
        go_ret
        rw [E1.out]
        exact IsNew.nil (by repeat (first | exact bw_refl _ | assumption | apply bw_alloc | apply bw_drew | apply bw_drewN | (refine bw_trans ?_ (by assumption)) | (refine bw_set ?_ (by simp only [go_sem]; omega) _)))
theorem smoothFilter_len (xs : List Int) (m : Int) (h : xs.length ≤ 1048576) : (smoothFilter xs m).length ≤ 4294967296 := by
  unfold smoothFilter
  split
  · rw [tab_length]; omega
  · simp
theorem walk_FnExactSmoothFilter (A : Option Addr) (n c : Nat) (xs : List Int) (m : Int) (w : World) (h : Ints w w.heap.size A xs) (hn : xs.length = n) (_ : n ≤ c) (_ : c ≤ maxLen) (hm : (Lit.int .i64 m).wf = true) :
    Calls Try.prog 6 #[.slice A n c, .int .i64 m] w fun e w' => e = .returned (.bool true) ∧ Below w.heap.size w w' := by
  subst hn
  by_cases hbig : 1048576 < xs.length
  · go_enter Try.func6, Try.ntmps6
    go_wp2
    go_ret
    exact ⟨rfl, (by repeat (first | exact bw_refl _ | assumption | apply bw_alloc | apply bw_drew | apply bw_drewN | (refine bw_trans ?_ (by assumption)) | (refine bw_set ?_ (by simp only [go_sem]; omega) _)))⟩
  · have hsame := eqIs_same xs
    have hS := fun (A : Option Addr) (c : Nat) (w : World) h' => specSmoothFilter_any A xs.length c xs m w rfl h' (by omega)
    have hI := fun (A : Option Addr) (c : Nat) (w : World) h' => implSmoothFilter_any A xs.length c xs m w rfl h' (by omega)
    have hL : (smoothFilter xs m).length ≤ 4294967296 := smoothFilter_len xs m (by omega)
    generalize smoothFilter xs m = R at hS hI hL
    have hsr := eqIs_same R
    go_enter Try.func6, Try.ntmps6
    go_wp2_with fail
    refine (toIntS_any A _ _ xs _ rfl h (by omega)).mono ?_
    rintro e w1 ⟨rfl, r1, b1⟩
    go_wp2_with fail
    refine (hS _ _ _ r1.is).mono ?_
    rintro e w2 ⟨⟨A2, c2, rfl, o2⟩, b2⟩
    go_wp2_with fail
    refine (toIntS_any A _ _ xs _ rfl (h.up (by repeat (first | exact bw_refl _ | assumption | apply bw_alloc | apply bw_drew | apply bw_drewN | (refine bw_trans ?_ (by assumption)) | (refine bw_set ?_ (by simp only [go_sem]; omega) _)))) (by omega)).mono ?_
    rintro e w3 ⟨rfl, r3, b3⟩
    go_wp2_with fail
    refine (hI _ _ _ r3.is).mono ?_
    rintro e w4 ⟨⟨A4, c4, rfl, o4⟩, b4⟩
    go_wp2_with fail
    refine (eqIntS_any _ _ _ _ _ _ R R _ rfl rfl o4.ints (o2.up (by repeat (first | exact bw_refl _ | assumption | apply bw_alloc | apply bw_drew | apply bw_drewN | (refine bw_trans ?_ (by assumption)) | (refine bw_set ?_ (by simp only [go_sem]; omega) _)))).ints hL hL).mono ?_
    rintro e w5 ⟨rfl, b5⟩
    go_wp2_with fail
    refine (toIntS_any A _ _ xs _ rfl (h.up (by repeat (first | exact bw_refl _ | assumption | apply bw_alloc | apply bw_drew | apply bw_drewN | (refine bw_trans ?_ (by assumption)) | (refine bw_set ?_ (by simp only [go_sem]; omega) _)))) (by omega)).mono ?_
    rintro e w6 ⟨rfl, r6, b6⟩
    go_wp2_with fail
    refine (eqIntS_any _ _ _ _ _ _ xs xs _ rfl rfl (r3.up (by repeat (first | exact bw_refl _ | assumption | apply bw_alloc | apply bw_drew | apply bw_drewN | (refine bw_trans ?_ (by assumption)) | (refine bw_set ?_ (by simp only [go_sem]; omega) _)))).is r6.is (by omega) (by omega)).mono ?_
    rintro e w7 ⟨rfl, b7⟩
    have z1 := b1.size
    have z2 := b2.size
    have z3 := r3.lt
    have x7 : Own w.heap.size w7 (some ⟨w2.heap.size, 0, none⟩) xs.length xs.length xs := ⟨rfl, Nat.le_refl _, fun _ => ⟨_, rfl, by omega, r3.up (by repeat (first | exact bw_refl _ | assumption | apply bw_alloc | apply bw_drew | apply bw_drewN | (refine bw_trans ?_ (by assumption)) | (refine bw_set ?_ (by simp only [go_sem]; omega) _)))⟩⟩
    have o27 : Own w1.heap.size w7 A2 R.length c2 R := o2.up (by repeat (first | exact bw_refl _ | assumption | apply bw_alloc | apply bw_drew | apply bw_drewN | (refine bw_trans ?_ (by assumption)) | (refine bw_set ?_ (by simp only [go_sem]; omega) _)))
    have o47 : Own w3.heap.size w7 A4 R.length c4 R := o4.up (by repeat (first | exact bw_refl _ | assumption | apply bw_alloc | apply bw_drew | apply bw_drewN | (refine bw_trans ?_ (by assumption)) | (refine bw_set ?_ (by simp only [go_sem]; omega) _)))
    have c7 : Below w.heap.size w w7 := (by repeat (first | exact bw_refl _ | assumption | apply bw_alloc | apply bw_drew | apply bw_drewN | (refine bw_trans ?_ (by assumption)) | (refine bw_set ?_ (by simp only [go_sem]; omega) _)))
    go_wp2_with fail
    refine (markIntS_any _ _ _ _ _ _ _ x7 (by omega) (by omega) (by omega)).mono ?_
    rintro e w8 ⟨rfl, x8, t8⟩
    have o28 := o27.tch t8 fun g e e' => by
      have := blk_eq (ite_blk e).2
      rcases Nat.eq_zero_or_pos R.length with h0 | h0
      · exact h0
      · have := o2.lt e' h0
        omega
    have o48 := o47.tch t8 fun g e e' => by
      have := blk_eq (ite_blk e).2
      rcases Nat.eq_zero_or_pos R.length with h0 | h0
      · exact h0
      · have := o4.ge e' h0
        omega
    have c8 : Below w.heap.size w w8 := c7.trans (t8.below fun g e => by have := blk_eq (ite_blk e).2; omega)
    clear x8
    go_wp2_with fail
    refine (eqIntS_any _ _ _ _ _ _ R R _ rfl rfl o48.ints o28.ints hL hL).mono ?_
    rintro e w9 ⟨rfl, b9⟩
    have o49 := o48.up b9
    go_wp2_with fail
    refine (markIntS_any _ _ _ _ _ _ _ o49 (by omega) (by omega) (by omega)).mono ?_
    rintro e w10 ⟨rfl, g10, t10⟩
    have o210 := (o28.up b9).tch t10 fun g e e' => by
      have h0 := ite_blk e
      have := o2.lt e' h0.1
      have := o4.ge h0.2 h0.1
      omega
    have c10 : Below w.heap.size w w10 := Below.trans ((by repeat (first | exact bw_refl _ | assumption | apply bw_alloc | apply bw_drew | apply bw_drewN | (refine bw_trans ?_ (by assumption)) | (refine bw_set ?_ (by simp only [go_sem]; omega) _))) : Below w.heap.size w w9) (t10.below fun g e => by have h0 := ite_blk e; have := o4.ge h0.2 h0.1; omega)
    go_wp2_with fail
    refine (heldIntS_any _ _ _ _ _ g10.ints (by omega) (by omega) (by omega)).mono ?_
    rintro e w11 ⟨rfl, rfl⟩
    go_wp2_with fail
    refine (toIntS_any A _ _ xs _ rfl (h.up (by repeat (first | exact bw_refl _ | assumption | apply bw_alloc | apply bw_drew | apply bw_drewN | (refine bw_trans ?_ (by assumption)) | (refine bw_set ?_ (by simp only [go_sem]; omega) _)))) (by omega)).mono ?_
    rintro e w12 ⟨rfl, r12, b12⟩
    go_wp2_with fail
    refine (hI _ _ _ r12.is).mono ?_
    rintro e w13 ⟨⟨A13, c13, rfl, o13⟩, b13⟩
    go_wp2_with fail
    refine (eqIntS_any _ _ _ _ _ _ R R _ rfl rfl o13.ints (o210.up (by repeat (first | exact bw_refl _ | assumption | apply bw_alloc | apply bw_drew | apply bw_drewN | (refine bw_trans ?_ (by assumption)) | (refine bw_set ?_ (by simp only [go_sem]; omega) _)))).ints hL hL).mono ?_
    rintro e w14 ⟨rfl, b14⟩
    go_wp2_with fail
    refine (heldIntS_any _ _ _ _ _ (g10.up (by repeat (first | exact bw_refl _ | assumption | apply bw_alloc | apply bw_drew | apply bw_drewN | (refine bw_trans ?_ (by assumption)) | (refine bw_set ?_ (by simp only [go_sem]; omega) _)))).ints (by omega) (by omega) (by omega)).mono ?_
    rintro e w15 ⟨rfl, rfl⟩
    go_wp2
    go_ret
    exact ⟨rfl, (by repeat (first | exact bw_refl _ | assumption | apply bw_alloc | apply bw_drew | apply bw_drewN | (refine bw_trans ?_ (by assumption)) | (refine bw_set ?_ (by simp only [go_sem]; omega) _)))⟩
end Go.Proofs.Ytpmojbdoiahodaa
