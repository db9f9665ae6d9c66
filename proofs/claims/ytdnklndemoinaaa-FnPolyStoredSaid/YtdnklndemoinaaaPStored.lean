/- Contracts of PolyStored, of the program's and the reference's, and the walk of its exact law; no condition. -/
import Derived.Test.YtdnklndemoinaaaStored
import Derived.Test.YtdnklndemoinaaaLists2
import Derived.Test.YtdnklndemoinaaaLDraw
namespace Go.Proofs.Ytdnklndemoinaaa
open Go.RowKit
set_option linter.unusedVariables false
set_option linter.unusedSimpArgs false
set_option maxHeartbeats 2000000
set_option maxRecDepth 100000

def mulSV (W P a x : Int) : Int := putV W P a x (rdiv (a * x) (2 ^ P.toNat))
def mulSB (W P a x : Int) : Bool := putB W P a x (rdiv (a * x) (2 ^ P.toNat))
def addSV (W P a b : Int) : Int := putV W P a b (a + b)
def addSB (W P a b : Int) : Bool := putB W P a b (a + b)
/-- The value and whether nothing was cut, behind d steps. -/
def psD (W P x : Int) (l : List Int) : Nat → Int × Bool
  | 0 => (l.getD (l.length - 1) 0, true)
  | d + 1 => (addSV W P (mulSV W P (psD W P x l d).1 x) (l.getD (l.length - 2 - d) 0), (psD W P x l d).2 && mulSB W P (psD W P x l d).1 x && addSB W P (mulSV W P (psD W P x l d).1 x) (l.getD (l.length - 2 - d) 0))
def allFit (W P : Int) (l : List Int) : Bool := l.all fun a => fitsB W P a
def polyS (W P : Int) (l : List Int) (x : Int) : Int × Bool :=
  if fitsB W P x && (decide (1 ≤ l.length) && decide (l.length ≤ 7)) && allFit W P l then psD W P x l (l.length - 1) else (0, false)
theorem allFit_iff (W P : Int) (xs : List Int) : allFit W P xs = true ↔ ∀ j, j < xs.length → fitsB W P (xs.getD j 0) = true := by
  unfold allFit
  rw [List.all_eq_true]
  constructor
  · intro h j hj
    rw [List.getD_eq_getElem?_getD, List.getElem?_eq_getElem hj]
    exact h _ (List.getElem_mem hj)
  · intro h x hx
    obtain ⟨j, hj, rfl⟩ := List.mem_iff_getElem.1 hx
    have := h j hj
    rwa [List.getD_eq_getElem?_getD, List.getElem?_eq_getElem hj] at this
theorem allFit_no (W P : Int) (xs : List Int) (k : Nat) (hk : k < xs.length) (h : fitsB W P (xs.getD k 0) = false) : allFit W P xs = false := by
  cases ha : allFit W P xs
  · rfl
  · rw [(allFit_iff W P xs).1 ha k hk] at h; cases h
theorem pcell2 {w : World} {g : Nat} {t : TypeId} {a b : Value} (h : Blk w g t #[a, b]) : w.cell? ⟨g, 0, none⟩ = some a ∧ w.cell? ⟨g, 1, none⟩ = some b := ⟨h.cell 0, h.cell 1⟩

theorem implPolyStored_any (A : Option Addr) (n c : Nat) (xs : List Int) (W P x : Int) (w : World) (hn : xs.length = n) (h : Ints w w.heap.size A xs) (hlen : n ≤ 4294967296) :
    Calls Try.prog 24 #[.agg #[.int .i64 W, .int .i64 P], .slice A n c, .int .i64 x] w fun e w' => e = .returned (.tuple #[.int .i64 (polyS W P xs x).1, .bool (polyS W P xs x).2]) ∧ Below w.heap.size w w' := by
  subst hn
  have K1 := Blk.new w 32 #[.int .i64 W, .int .i64 P]
  by_cases hv : (fitsB W P x && (decide (1 ≤ xs.length) && decide (xs.length ≤ 7))) = true
  · have hv2 := hv
    rw [Bool.and_eq_true, Bool.and_eq_true, decide_eq_true_eq, decide_eq_true_eq] at hv2
    obtain ⟨hfx, hl1, hl7⟩ := hv2
    have HFX := Lib.hid hfx
    have HV := Lib.hid hv
    have hin1 : inB (xs.length : Int) 1 7 = true := (inB_iff _ _ _).2 (by omega)
    clear hv hfx
    go_enter Try.func24, Try.ntmps24
    go_wp2_with (first
      | (go_at_call 31; refine (implStoredFits_any W P x _).mono ?_; rintro e w1 ⟨he, hb1⟩; rw [HFX.out] at he; subst he))
    have K2 := K1.kept hb1
    have hbw : Below w.heap.size w w1 := Below.trans (bw_alloc (bw_refl w) _) (hb1.mono (by rw [World.size_alloc]; exact Nat.le_succ _))
    clear K1 hb1 hin1
    go_loopw [33] (fun i wr => ∃ k : Nat, k ≤ xs.length ∧ i = .int .i64 k ∧ (∀ j, j < k → fitsB W P (xs.getD j 0) = true) ∧ Blk wr w.heap.size 32 #[.int .i64 W, .int .i64 P] ∧ Below w.heap.size w wr) (fun i _ => xs.length - (intOf i).toNat)
    case atStart => exact ⟨0, Nat.zero_le _, rfl, fun j hj => absurd hj (Nat.not_lt_zero _), K2, hbw⟩
    case round =>
      obtain ⟨k, hk, rfl, hall, K3, hb3⟩ := hrel
      have HALL := Lib.hid hall
      clear hall K2 hbw
      obtain ⟨n0, n1⟩ := pcell2 K3
      by_cases hlt : k < xs.length
      · obtain ⟨g, f, rfl, hg, hcl⟩ := h (by omega)
        have hc1 := (hb3.cell (p := ⟨g, f + k, none⟩) hg).trans (hcl k hlt)
        have zg := lt_keep hb3 hg
        clear hcl
        obtain ⟨u, hu⟩ : ∃ u, xs.getD k 0 = u := ⟨_, rfl⟩
        rw [hu] at hc1
        have HU := Lib.hid hu
        clear hu
        have z0 := K3.lt
        cases hfu : fitsB W P u
        · have HFU := Lib.hid hfu
          clear hfu
          go_wp2_with (go_at_call 31; refine (implStoredFits_any W P u _).mono ?_; rintro e w5 ⟨he, hb5⟩; rw [HFU.out] at he; subst he)
          go_ret2
          have hno : polyS W P xs x = (0, false) := by unfold polyS; rw [HV.out, allFit_no W P xs k hlt (by rw [HU.out]; exact HFU.out)]; rfl
          rw [hno]
          exact ⟨rfl, (by repeat (first | exact bw_refl _ | assumption | apply bw_alloc | apply bw_drew | apply bw_drewN | (refine bw_trans ?_ (by assumption)) | (refine bw_set ?_ (by simp only [go_sem]; omega) _)))⟩
        · have HFU := Lib.hid hfu
          clear hfu
          go_wp2_with (go_at_call 31; refine (implStoredFits_any W P u _).mono ?_; rintro e w5 ⟨he, hb5⟩; rw [HFU.out] at he; subst he)
          have hb6 := hb5
          go_roundw
          case rel =>
            refine ⟨k + 1, by omega, by go_num, fun j hj => ?_, K3.kept hb6, bw_trans hb3 hb6⟩
            by_cases hjk : j = k
            · subst hjk; rw [HU.out]; exact HFU.out
            · exact HALL.out j (by omega)
          case measure => simp [intOf] <;> omega
      · have hkk : k = xs.length := by omega
        have hps : polyS W P xs x = psD W P x xs (xs.length - 1) := by
          unfold polyS; rw [HV.out, (allFit_iff W P xs).2 (fun j hj => HALL.out j (by omega))]; rfl
        have HPS := Lib.hid hps
        subst hkk
        obtain ⟨g, f, rfl, hg, hcl⟩ := h (by omega)
        have hc1 := (hb3.cell (p := ⟨g, f + (xs.length - 1), none⟩) hg).trans (hcl (xs.length - 1) (by omega))
        obtain ⟨u, hu⟩ : ∃ u, xs.getD (xs.length - 1) 0 = u := ⟨_, rfl⟩
        rw [hu] at hc1
        have HU := Lib.hid hu
        have HCL := Lib.hid hcl
        clear hu hcl hps
        have e1 : IntKind.i64.wrap ((xs.length : Int) - 1) = (xs.length : Int) - 1 := IntWalk.i64_in _ (by omega)
        have e2 : ((xs.length : Int) - 1).toNat = xs.length - 1 := by omega
        have e3 : (0 : Int) ≤ (xs.length : Int) - 1 := by omega
        have e5 : (1 : Int) ≤ (xs.length : Int) := by omega
        have e6 : (xs.length : Int) - 1 < (xs.length : Int) := by omega
        go_wp2
        clear e1 e2 e3 e6 hc1
        go_loopw [10, 11, 12] (fun v q i wr => ∃ (d : Nat) (vv : Int) (qq : Bool), d ≤ xs.length - 1 ∧ v = .int .i64 vv ∧ q = .bool qq ∧ i = .int .i64 ((xs.length : Int) - 2 - (d : Int)) ∧ psD W P x xs d = (vv, qq) ∧ Blk wr w.heap.size 32 #[.int .i64 W, .int .i64 P] ∧ Below w.heap.size w wr) (fun _ _ i _ => (intOf i + 1).toNat)
        case atStart => exact ⟨0, u, true, Nat.zero_le _, rfl, rfl, by simp, by rw [psD, HU.out], K3, hb3⟩
        case round =>
          obtain ⟨d, vv, qq, hd, rfl, rfl, rfl, hpd, K4, hb4⟩ := hrel
          have HPD := Lib.hid hpd
          clear hpd K3 hb3 n0 n1
          obtain ⟨n0, n1⟩ := pcell2 K4
          have z0 := K4.lt
          have zg := lt_keep hb4 hg
          by_cases hlt : d < xs.length - 1
          · obtain ⟨j, hj⟩ : ∃ j : Nat, xs.length = j + 2 + d := ⟨xs.length - 2 - d, by omega⟩
            have ei : (xs.length : Int) - 2 - (d : Int) = (j : Int) := by omega
            rw [ei]
            have hc2 := (hb4.cell (p := ⟨g, f + j, none⟩) hg).trans (HCL.out j (by omega))
            have ejn : xs.length - 2 - d = j := by omega
            have HJ := Lib.hid ejn
            have HJ2 := Lib.hid hj
            obtain ⟨a, ha⟩ : ∃ a, xs.getD j 0 = a := ⟨_, rfl⟩
            rw [ha] at hc2
            have HAA := Lib.hid ha
            have hjl : (j : Int) < (xs.length : Int) := by omega
            have hj0 : (0 : Int) ≤ (j : Int) := by omega
            obtain ⟨mv, hmv⟩ : ∃ m, mulSV W P vv x = m := ⟨_, rfl⟩
            obtain ⟨mb, hmb⟩ : ∃ m, mulSB W P vv x = m := ⟨_, rfl⟩
            obtain ⟨sv, hsv⟩ : ∃ m, addSV W P mv a = m := ⟨_, rfl⟩
            obtain ⟨sb, hsb⟩ : ∃ m, addSB W P mv a = m := ⟨_, rfl⟩
            have hnext : psD W P x xs (d + 1) = (sv, qq && mb && sb) := by
              rw [psD, HPD.out, ejn, ha]
              show (addSV W P (mulSV W P vv x) a, qq && mulSB W P vv x && addSB W P (mulSV W P vv x) a) = _
              rw [hmv, hmb, hsv, hsb]
            have HNX := Lib.hid hnext
            have HMV := Lib.hid hmv
            have HMB := Lib.hid hmb
            have HSV := Lib.hid hsv
            have HSB := Lib.hid hsb
            unfold mulSV at hmv
            unfold mulSB at hmb
            unfold addSV at hsv
            unfold addSB at hsb
            have KMV := Lib.hid hmv
            have KMB := Lib.hid hmb
            have KSV := Lib.hid hsv
            have KSB := Lib.hid hsb
            clear ei ejn ha hmv hmb hsv hsb hnext hj
            go_upto_region 15 with (go_at_call 37; refine (implMulStored_any W P vv x _).mono ?_; rintro e w5 ⟨he, hb5⟩; rw [KMV.out, KMB.out] at he; subst he; replace K4 := K4.kept hb5; replace hc2 := cell_keep hb5 hc2; replace zg := lt_keep hb5 zg; replace hb4 := bw_trans hb4 hb5; clear n0 n1 z0 hb5; obtain ⟨n0, n1⟩ := pcell2 K4; have z0 := K4.lt)
            refine wp_region_below (by kernel_rfl) (fun wD hHeld => ?_)
            refine wpAnyH_take (i := 0) (v := ?_) (by (simp only [List.getElem?_toArray, List.getElem?_cons_zero]; rfl)) (by kernel_rfl) (by kernel_rfl) (by kernel_rfl) (by exact fun _ _ _ h => h) (Or.inl ⟨by rfl, ?_⟩) (by assumption) ?_
            rotate_left
            · (intro wS hS; have hSc := (bcell hS).1; clear hS; go_simp; try with_reducible rfl)
            try simp only [Act.put, List.setIfInBounds_toArray, List.set_cons_zero, List.set_cons_succ]
            refine wpAnyH_take (i := 1) (v := ?_) (by (simp only [List.getElem?_toArray, List.getElem?_cons_succ, List.getElem?_cons_zero]; rfl)) (by kernel_rfl) (by kernel_rfl) (by kernel_rfl) (by exact fun _ _ _ h => h) (Or.inl ⟨by rfl, ?_⟩) (by assumption) ?_
            rotate_left
            · (intro wS hS; clear hS; go_simp; try with_reducible rfl)
            try simp only [Act.put, List.setIfInBounds_toArray, List.set_cons_zero, List.set_cons_succ]
            refine wpAnyH_take (i := 2) (v := ?_) (by (simp only [List.getElem?_toArray, List.getElem?_cons_succ, List.getElem?_cons_zero]; rfl)) (by kernel_rfl) (by kernel_rfl) (by kernel_rfl) (by exact fun _ _ _ h => h) (Or.inl ⟨by rfl, ?_⟩) (by assumption) ?_
            rotate_left
            · (intro wS hS; clear hS; go_simp; try with_reducible rfl)
            try simp only [Act.put, List.setIfInBounds_toArray, List.set_cons_zero, List.set_cons_succ]
            refine wpAnyH_take (i := 3) (v := ?_) (by (simp only [List.getElem?_toArray, List.getElem?_cons_succ, List.getElem?_cons_zero]; rfl)) (by kernel_rfl) (by kernel_rfl) (by kernel_rfl) (by exact fun _ _ _ h => h) (Or.inl ⟨by rfl, ?_⟩) (by assumption) ?_
            rotate_left
            · (intro wS hS; clear hS; go_simp; try with_reducible rfl)
            try simp only [Act.put, List.setIfInBounds_toArray, List.set_cons_zero, List.set_cons_succ]
            refine wpAnyH_take (i := 4) (v := ?_) (by (simp only [List.getElem?_toArray, List.getElem?_cons_succ, List.getElem?_cons_zero]; rfl)) (by kernel_rfl) (by kernel_rfl) (by kernel_rfl) (by exact fun _ _ _ h => h) (Or.inl ⟨by rfl, ?_⟩) (by assumption) ?_
            rotate_left
            · (intro wS hS; clear hS; go_simp; try with_reducible rfl)
            try simp only [Act.put, List.setIfInBounds_toArray, List.set_cons_zero, List.set_cons_succ]
            refine wpAnyH_take (i := 5) (v := ?_) (by (simp only [List.getElem?_toArray, List.getElem?_cons_succ, List.getElem?_cons_zero]; rfl)) (by kernel_rfl) (by kernel_rfl) (by kernel_rfl) (by exact fun _ _ _ h => h) (Or.inl ⟨by rfl, ?_⟩) (by assumption) ?_
            rotate_left
            · (intro wS hS; have hSc := (bcell hS).1; clear hS; go_simp; try with_reducible rfl)
            try simp only [Act.put, List.setIfInBounds_toArray, List.set_cons_zero, List.set_cons_succ]
            refine wpAnyH_ready (rs := [6]) (by kernel_rfl) (by simp) ?_
            refine AllReadyH.cons (by (simp only [List.getElem?_toArray, List.getElem?_cons_succ, List.getElem?_cons_zero]; rfl)) (fun K hK => ?_) AllReadyH.nil
            go_simp
            ((go_at_call 38; refine (implAddStored_any W P mv a _).mono ?_; rintro e w6 ⟨he, hb6⟩; rw [KSV.out, KSB.out] at he; subst he))
            (try go_wp2_with fail)
            refine hK.out _ _ (by repeat (first | exact bw_refl _ | assumption | apply bw_alloc | apply bw_drew | apply bw_drewN | (refine bw_trans ?_ (by assumption)) | (refine bw_set ?_ (by simp only [go_sem]; omega) _))) (fun hHeld => ?_)
            clear hK K
            try simp only [Act.put, List.setIfInBounds_toArray, List.set_cons_zero, List.set_cons_succ]
            refine wpAnyH_take (i := 7) (v := ?_) (by (simp only [List.getElem?_toArray, List.getElem?_cons_succ, List.getElem?_cons_zero]; rfl)) (by kernel_rfl) (by kernel_rfl) (by kernel_rfl) (by exact fun _ _ _ h => h) (Or.inl ⟨by rfl, ?_⟩) (by assumption) ?_
            rotate_left
            · (intro wS hS; clear hS; go_simp; try with_reducible rfl)
            try simp only [Act.put, List.setIfInBounds_toArray, List.set_cons_zero, List.set_cons_succ]
            refine wpAnyH_take (i := 8) (v := ?_) (by (simp only [List.getElem?_toArray, List.getElem?_cons_succ, List.getElem?_cons_zero]; rfl)) (by kernel_rfl) (by kernel_rfl) (by kernel_rfl) (by exact fun _ _ _ h => h) (Or.inl ⟨by rfl, ?_⟩) (by assumption) ?_
            rotate_left
            · (intro wS hS; clear hS; go_simp; try with_reducible rfl)
            try simp only [Act.put, List.setIfInBounds_toArray, List.set_cons_zero, List.set_cons_succ]
            refine wpAnyH_take (i := 9) (v := ?_) (by (simp only [List.getElem?_toArray, List.getElem?_cons_succ, List.getElem?_cons_zero]; rfl)) (by kernel_rfl) (by kernel_rfl) (by kernel_rfl) (by exact fun _ _ _ h => h) (Or.inl ⟨by rfl, ?_⟩) (by assumption) ?_
            rotate_left
            · (intro wS hS; clear hS; go_simp; try with_reducible rfl)
            try simp only [Act.put, List.setIfInBounds_toArray, List.set_cons_zero, List.set_cons_succ]
            refine wpAnyH_take (i := 10) (v := ?_) (by (simp only [List.getElem?_toArray, List.getElem?_cons_succ, List.getElem?_cons_zero]; rfl)) (by kernel_rfl) (by kernel_rfl) (by kernel_rfl) (by exact fun _ _ _ h => h) (Or.inl ⟨by rfl, ?_⟩) (by assumption) ?_
            rotate_left
            · (intro wS hS; clear hS; go_simp; try with_reducible rfl)
            try simp only [Act.put, List.setIfInBounds_toArray, List.set_cons_zero, List.set_cons_succ]
            refine wpAnyH_take (i := 11) (v := ?_) (by (simp only [List.getElem?_toArray, List.getElem?_cons_succ, List.getElem?_cons_zero]; rfl)) (by kernel_rfl) (by kernel_rfl) (by kernel_rfl) (by exact fun _ _ _ h => h) (Or.inl ⟨by rfl, ?_⟩) (by assumption) ?_
            rotate_left
            · (intro wS hS; clear hS; go_simp; try with_reducible rfl)
            try simp only [Act.put, List.setIfInBounds_toArray, List.set_cons_zero, List.set_cons_succ]
            refine wpAnyH_done (by kernel_rfl) ?_ _
            cases qq
            · go_wp2
              go_roundw
              case rel => first | exact ⟨d + 1, sv, _, by omega, rfl, rfl, congrArg (Value.int .i64) (by have := HJ2.out; omega), HNX.out, K4.kept hHeld, bw_trans hb4 hHeld⟩ | ((repeat apply Exists.intro); exact ⟨⟨d + 1, sv, _, by omega, rfl, rfl, congrArg (Value.int .i64) (by have := HJ2.out; omega), HNX.out, K4.kept hHeld, bw_trans hb4 hHeld⟩, rfl⟩)
              case measure => simp [intOf] <;> omega
            · cases mb
              · go_wp2
                go_roundw
                case rel => first | exact ⟨d + 1, sv, _, by omega, rfl, rfl, congrArg (Value.int .i64) (by have := HJ2.out; omega), HNX.out, K4.kept hHeld, bw_trans hb4 hHeld⟩ | ((repeat apply Exists.intro); exact ⟨⟨d + 1, sv, _, by omega, rfl, rfl, congrArg (Value.int .i64) (by have := HJ2.out; omega), HNX.out, K4.kept hHeld, bw_trans hb4 hHeld⟩, rfl⟩)
                case measure => simp [intOf] <;> omega
              · go_wp2
                go_roundw
                case rel => first | exact ⟨d + 1, sv, _, by omega, rfl, rfl, congrArg (Value.int .i64) (by have := HJ2.out; omega), HNX.out, K4.kept hHeld, bw_trans hb4 hHeld⟩ | ((repeat apply Exists.intro); exact ⟨⟨d + 1, sv, _, by omega, rfl, rfl, congrArg (Value.int .i64) (by have := HJ2.out; omega), HNX.out, K4.kept hHeld, bw_trans hb4 hHeld⟩, rfl⟩)
                case measure => simp [intOf] <;> omega
          · have hdd : d = xs.length - 1 := by omega
            have hneg : (xs.length : Int) - 2 - (d : Int) < 0 := by omega
            go_wp2
            go_ret2
            rw [HPS.out, ← hdd, HPD.out]
            exact ⟨rfl, (by repeat (first | exact bw_refl _ | assumption | apply bw_alloc | apply bw_drew | apply bw_drewN | (refine bw_trans ?_ (by assumption)) | (refine bw_set ?_ (by simp only [go_sem]; omega) _)))⟩
  · have hno : polyS W P xs x = (0, false) := by
      unfold polyS
      have : ((fitsB W P x && (decide (1 ≤ xs.length) && decide (xs.length ≤ 7))) && allFit W P xs) = false := by rw [Bool.eq_false_iff.2 hv]; rfl
      rw [this]; rfl
    have HNO := Lib.hid hno
    have hcase : fitsB W P x = false ∨ (fitsB W P x = true ∧ xs.length < 1) ∨ (fitsB W P x = true ∧ 7 < xs.length) := by
      cases hfx : fitsB W P x
      · exact .inl rfl
      · right
        rw [hfx] at hv
        simp only [Bool.true_and, Bool.and_eq_true, decide_eq_true_eq] at hv
        have : xs.length < 1 ∨ 7 < xs.length := by omega
        rcases this with h | h
        · exact .inl ⟨rfl, h⟩
        · exact .inr ⟨rfl, h⟩
    clear hno hv
    rcases hcase with hfx | ⟨hfx, hl⟩ | ⟨hfx, hl⟩
    all_goals
      have HFX := Lib.hid hfx
      clear hfx
      skip
      go_enter Try.func24, Try.ntmps24
      go_wp2_with (first
        | (go_at_call 31; refine (implStoredFits_any W P x _).mono ?_; rintro e w1 ⟨he, hb1⟩; rw [HFX.out] at he; subst he))
      go_ret2
      rw [HNO.out]
      exact ⟨rfl, (by repeat (first | exact bw_refl _ | assumption | apply bw_alloc | apply bw_drew | apply bw_drewN | (refine bw_trans ?_ (by assumption)) | (refine bw_set ?_ (by simp only [go_sem]; omega) _)))⟩

theorem specPolyStored_any (A : Option Addr) (n c : Nat) (xs : List Int) (W P x : Int) (w : World) (hn : xs.length = n) (h : Ints w w.heap.size A xs) (hlen : n ≤ 4294967296) :
    Calls Try.prog 22 #[.agg #[.int .i64 W, .int .i64 P], .slice A n c, .int .i64 x] w fun e w' => e = .returned (.tuple #[.int .i64 (polyS W P xs x).1, .bool (polyS W P xs x).2]) ∧ Below w.heap.size w w' := by
  subst hn
  have K1 := Blk.new w 32 #[.int .i64 W, .int .i64 P]
  by_cases hv : (fitsB W P x && (decide (1 ≤ xs.length) && decide (xs.length ≤ 7))) = true
  · have hv2 := hv
    rw [Bool.and_eq_true, Bool.and_eq_true, decide_eq_true_eq, decide_eq_true_eq] at hv2
    obtain ⟨hfx, hl1, hl7⟩ := hv2
    have HFX := Lib.hid hfx
    have HV := Lib.hid hv
    have hin1 : inB (xs.length : Int) 1 7 = true := (inB_iff _ _ _).2 (by omega)
    clear hv hfx
    go_enter Try.func22, Try.ntmps22
    go_wp2_with (first
      | (go_at_call 34; refine (specStoredFits_any W P x _).mono ?_; rintro e w1 ⟨he, hb1⟩; rw [HFX.out] at he; subst he) | (go_at_call 32; refine (l1In_any _ _ _ _).mono ?_; rintro e w' ⟨rfl, rfl⟩))
    have K2 := K1.kept hb1
    have hbw : Below w.heap.size w w1 := Below.trans (bw_alloc (bw_refl w) _) (hb1.mono (by rw [World.size_alloc]; exact Nat.le_succ _))
    clear K1 hb1 hin1
    go_loopw [8] (fun i wr => ∃ k : Nat, k ≤ xs.length ∧ i = .int .i64 k ∧ (∀ j, j < k → fitsB W P (xs.getD j 0) = true) ∧ Blk wr w.heap.size 32 #[.int .i64 W, .int .i64 P] ∧ Below w.heap.size w wr) (fun i _ => xs.length - (intOf i).toNat)
    case atStart => exact ⟨0, Nat.zero_le _, rfl, fun j hj => absurd hj (Nat.not_lt_zero _), K2, hbw⟩
    case round =>
      obtain ⟨k, hk, rfl, hall, K3, hb3⟩ := hrel
      have HALL := Lib.hid hall
      clear hall K2 hbw
      obtain ⟨n0, n1⟩ := pcell2 K3
      by_cases hlt : k < xs.length
      · obtain ⟨g, f, rfl, hg, hcl⟩ := h (by omega)
        have hc1 := (hb3.cell (p := ⟨g, f + k, none⟩) hg).trans (hcl k hlt)
        have zg := lt_keep hb3 hg
        clear hcl
        obtain ⟨u, hu⟩ : ∃ u, xs.getD k 0 = u := ⟨_, rfl⟩
        rw [hu] at hc1
        have HU := Lib.hid hu
        clear hu
        have z0 := K3.lt
        cases hfu : fitsB W P u
        · have HFU := Lib.hid hfu
          clear hfu
          go_upto_region 6 with fail
          refine wp_region_below (by kernel_rfl) (fun wD hHeld => ?_)
          refine wpAnyH_take (i := 0) (v := ?_) (by (simp only [List.getElem?_toArray, List.getElem?_cons_zero]; rfl)) (by kernel_rfl) (by kernel_rfl) (by kernel_rfl) (by exact fun _ _ _ h => h) (Or.inl ⟨by rfl, ?_⟩) (by assumption) ?_
          rotate_left
          · (intro wS hS; have hSc := (bcell hS).1; clear hS; go_simp; try with_reducible rfl)
          try simp only [Act.put, List.setIfInBounds_toArray, List.set_cons_zero, List.set_cons_succ]
          refine wpAnyH_take (i := 1) (v := ?_) (by (simp only [List.getElem?_toArray, List.getElem?_cons_succ, List.getElem?_cons_zero]; rfl)) (by kernel_rfl) (by kernel_rfl) (by kernel_rfl) (by exact fun _ _ _ h => h) (Or.inl ⟨by rfl, ?_⟩) (by assumption) ?_
          rotate_left
          · (intro wS hS; clear hS; go_simp; try with_reducible rfl)
          try simp only [Act.put, List.setIfInBounds_toArray, List.set_cons_zero, List.set_cons_succ]
          refine wpAnyH_take (i := 2) (v := ?_) (by (simp only [List.getElem?_toArray, List.getElem?_cons_succ, List.getElem?_cons_zero]; rfl)) (by kernel_rfl) (by kernel_rfl) (by kernel_rfl) (by exact fun _ _ _ h => h) (Or.inl ⟨by rfl, ?_⟩) (by assumption) ?_
          rotate_left
          · (intro wS hS; clear hS; go_simp; try with_reducible rfl)
          try simp only [Act.put, List.setIfInBounds_toArray, List.set_cons_zero, List.set_cons_succ]
          refine wpAnyH_take (i := 3) (v := ?_) (by (simp only [List.getElem?_toArray, List.getElem?_cons_succ, List.getElem?_cons_zero]; rfl)) (by kernel_rfl) (by kernel_rfl) (by kernel_rfl) (by exact fun _ _ _ h => h) (Or.inl ⟨by rfl, ?_⟩) (by assumption) ?_
          rotate_left
          · (intro wS hS; clear hS; go_simp; try with_reducible rfl)
          try simp only [Act.put, List.setIfInBounds_toArray, List.set_cons_zero, List.set_cons_succ]
          refine wpAnyH_take (i := 4) (v := ?_) (by (simp only [List.getElem?_toArray, List.getElem?_cons_succ, List.getElem?_cons_zero]; rfl)) (by kernel_rfl) (by kernel_rfl) (by kernel_rfl) (by exact fun _ _ _ h => h) (Or.inl ⟨by rfl, ?_⟩) (by assumption) ?_
          rotate_left
          · (intro wS hS; have hSc := (bcell hS).1; clear hS; go_simp; try with_reducible rfl)
          try simp only [Act.put, List.setIfInBounds_toArray, List.set_cons_zero, List.set_cons_succ]
          refine wpAnyH_ready (rs := [5]) (by kernel_rfl) (by simp) ?_
          refine AllReadyH.cons (by (simp only [List.getElem?_toArray, List.getElem?_cons_succ, List.getElem?_cons_zero]; rfl)) (fun K hK => ?_) AllReadyH.nil
          go_simp
          ((go_at_call 34; refine (specStoredFits_any W P u _).mono ?_; rintro e w5 ⟨he, hb5⟩; rw [HFU.out] at he; subst he))
          (try go_wp2_with fail)
          refine hK.out _ _ (by repeat (first | exact bw_refl _ | assumption | apply bw_alloc | apply bw_drew | apply bw_drewN | (refine bw_trans ?_ (by assumption)) | (refine bw_set ?_ (by simp only [go_sem]; omega) _))) (fun hHeld => ?_)
          clear hK K
          try simp only [Act.put, List.setIfInBounds_toArray, List.set_cons_zero, List.set_cons_succ]
          refine wpAnyH_take (i := 6) (v := ?_) (by (simp only [List.getElem?_toArray, List.getElem?_cons_succ, List.getElem?_cons_zero]; rfl)) (by kernel_rfl) (by kernel_rfl) (by kernel_rfl) (by exact fun _ _ _ h => h) (Or.inl ⟨by rfl, ?_⟩) (by assumption) ?_
          rotate_left
          · (intro wS hS; clear hS; go_simp; try with_reducible rfl)
          try simp only [Act.put, List.setIfInBounds_toArray, List.set_cons_zero, List.set_cons_succ]
          refine wpAnyH_done (by kernel_rfl) ?_ _
          go_wp2
          have hb6 := hHeld
          go_ret2
          have hno : polyS W P xs x = (0, false) := by unfold polyS; rw [HV.out, allFit_no W P xs k hlt (by rw [HU.out]; exact HFU.out)]; rfl
          rw [hno]
          exact ⟨rfl, (by repeat (first | exact bw_refl _ | assumption | apply bw_alloc | apply bw_drew | apply bw_drewN | (refine bw_trans ?_ (by assumption)) | (refine bw_set ?_ (by simp only [go_sem]; omega) _)))⟩
        · have HFU := Lib.hid hfu
          clear hfu
          go_upto_region 6 with fail
          refine wp_region_below (by kernel_rfl) (fun wD hHeld => ?_)
          refine wpAnyH_take (i := 0) (v := ?_) (by (simp only [List.getElem?_toArray, List.getElem?_cons_zero]; rfl)) (by kernel_rfl) (by kernel_rfl) (by kernel_rfl) (by exact fun _ _ _ h => h) (Or.inl ⟨by rfl, ?_⟩) (by assumption) ?_
          rotate_left
          · (intro wS hS; have hSc := (bcell hS).1; clear hS; go_simp; try with_reducible rfl)
          try simp only [Act.put, List.setIfInBounds_toArray, List.set_cons_zero, List.set_cons_succ]
          refine wpAnyH_take (i := 1) (v := ?_) (by (simp only [List.getElem?_toArray, List.getElem?_cons_succ, List.getElem?_cons_zero]; rfl)) (by kernel_rfl) (by kernel_rfl) (by kernel_rfl) (by exact fun _ _ _ h => h) (Or.inl ⟨by rfl, ?_⟩) (by assumption) ?_
          rotate_left
          · (intro wS hS; clear hS; go_simp; try with_reducible rfl)
          try simp only [Act.put, List.setIfInBounds_toArray, List.set_cons_zero, List.set_cons_succ]
          refine wpAnyH_take (i := 2) (v := ?_) (by (simp only [List.getElem?_toArray, List.getElem?_cons_succ, List.getElem?_cons_zero]; rfl)) (by kernel_rfl) (by kernel_rfl) (by kernel_rfl) (by exact fun _ _ _ h => h) (Or.inl ⟨by rfl, ?_⟩) (by assumption) ?_
          rotate_left
          · (intro wS hS; clear hS; go_simp; try with_reducible rfl)
          try simp only [Act.put, List.setIfInBounds_toArray, List.set_cons_zero, List.set_cons_succ]
          refine wpAnyH_take (i := 3) (v := ?_) (by (simp only [List.getElem?_toArray, List.getElem?_cons_succ, List.getElem?_cons_zero]; rfl)) (by kernel_rfl) (by kernel_rfl) (by kernel_rfl) (by exact fun _ _ _ h => h) (Or.inl ⟨by rfl, ?_⟩) (by assumption) ?_
          rotate_left
          · (intro wS hS; clear hS; go_simp; try with_reducible rfl)
          try simp only [Act.put, List.setIfInBounds_toArray, List.set_cons_zero, List.set_cons_succ]
          refine wpAnyH_take (i := 4) (v := ?_) (by (simp only [List.getElem?_toArray, List.getElem?_cons_succ, List.getElem?_cons_zero]; rfl)) (by kernel_rfl) (by kernel_rfl) (by kernel_rfl) (by exact fun _ _ _ h => h) (Or.inl ⟨by rfl, ?_⟩) (by assumption) ?_
          rotate_left
          · (intro wS hS; have hSc := (bcell hS).1; clear hS; go_simp; try with_reducible rfl)
          try simp only [Act.put, List.setIfInBounds_toArray, List.set_cons_zero, List.set_cons_succ]
          refine wpAnyH_ready (rs := [5]) (by kernel_rfl) (by simp) ?_
          refine AllReadyH.cons (by (simp only [List.getElem?_toArray, List.getElem?_cons_succ, List.getElem?_cons_zero]; rfl)) (fun K hK => ?_) AllReadyH.nil
          go_simp
          ((go_at_call 34; refine (specStoredFits_any W P u _).mono ?_; rintro e w5 ⟨he, hb5⟩; rw [HFU.out] at he; subst he))
          (try go_wp2_with fail)
          refine hK.out _ _ (by repeat (first | exact bw_refl _ | assumption | apply bw_alloc | apply bw_drew | apply bw_drewN | (refine bw_trans ?_ (by assumption)) | (refine bw_set ?_ (by simp only [go_sem]; omega) _))) (fun hHeld => ?_)
          clear hK K
          try simp only [Act.put, List.setIfInBounds_toArray, List.set_cons_zero, List.set_cons_succ]
          refine wpAnyH_take (i := 6) (v := ?_) (by (simp only [List.getElem?_toArray, List.getElem?_cons_succ, List.getElem?_cons_zero]; rfl)) (by kernel_rfl) (by kernel_rfl) (by kernel_rfl) (by exact fun _ _ _ h => h) (Or.inl ⟨by rfl, ?_⟩) (by assumption) ?_
          rotate_left
          · (intro wS hS; clear hS; go_simp; try with_reducible rfl)
          try simp only [Act.put, List.setIfInBounds_toArray, List.set_cons_zero, List.set_cons_succ]
          refine wpAnyH_done (by kernel_rfl) ?_ _
          go_wp2
          have hb6 := hHeld
          go_roundw
          case rel =>
            refine ⟨k + 1, by omega, by go_num, fun j hj => ?_, K3.kept hb6, bw_trans hb3 hb6⟩
            by_cases hjk : j = k
            · subst hjk; rw [HU.out]; exact HFU.out
            · exact HALL.out j (by omega)
          case measure => simp [intOf] <;> omega
      · have hkk : k = xs.length := by omega
        have hps : polyS W P xs x = psD W P x xs (xs.length - 1) := by
          unfold polyS; rw [HV.out, (allFit_iff W P xs).2 (fun j hj => HALL.out j (by omega))]; rfl
        have HPS := Lib.hid hps
        subst hkk
        obtain ⟨g, f, rfl, hg, hcl⟩ := h (by omega)
        have hc1 := (hb3.cell (p := ⟨g, f + (xs.length - 1), none⟩) hg).trans (hcl (xs.length - 1) (by omega))
        obtain ⟨u, hu⟩ : ∃ u, xs.getD (xs.length - 1) 0 = u := ⟨_, rfl⟩
        rw [hu] at hc1
        have HU := Lib.hid hu
        have HCL := Lib.hid hcl
        clear hu hcl hps
        have e1 : IntKind.i64.wrap ((xs.length : Int) - 1) = (xs.length : Int) - 1 := IntWalk.i64_in _ (by omega)
        have e2 : ((xs.length : Int) - 1).toNat = xs.length - 1 := by omega
        have e3 : (0 : Int) ≤ (xs.length : Int) - 1 := by omega
        have e5 : (1 : Int) ≤ (xs.length : Int) := by omega
        have e6 : (xs.length : Int) - 1 < (xs.length : Int) := by omega
        go_wp2
        clear e1 e2 e3 e6 hc1
        go_loopw [9, 10, 11] (fun v q i wr => ∃ (d : Nat) (vv : Int) (qq : Bool), d ≤ xs.length - 1 ∧ v = .int .i64 vv ∧ q = .bool qq ∧ i = .int .i64 ((xs.length : Int) - 2 - (d : Int)) ∧ psD W P x xs d = (vv, qq) ∧ Blk wr w.heap.size 32 #[.int .i64 W, .int .i64 P] ∧ Below w.heap.size w wr) (fun _ _ i _ => (intOf i + 1).toNat)
        case atStart => exact ⟨0, u, true, Nat.zero_le _, rfl, rfl, by simp, by rw [psD, HU.out], K3, hb3⟩
        case round =>
          obtain ⟨d, vv, qq, hd, rfl, rfl, rfl, hpd, K4, hb4⟩ := hrel
          have HPD := Lib.hid hpd
          clear hpd K3 hb3 n0 n1
          obtain ⟨n0, n1⟩ := pcell2 K4
          have z0 := K4.lt
          have zg := lt_keep hb4 hg
          by_cases hlt : d < xs.length - 1
          · obtain ⟨j, hj⟩ : ∃ j : Nat, xs.length = j + 2 + d := ⟨xs.length - 2 - d, by omega⟩
            have ei : (xs.length : Int) - 2 - (d : Int) = (j : Int) := by omega
            rw [ei]
            have hc2 := (hb4.cell (p := ⟨g, f + j, none⟩) hg).trans (HCL.out j (by omega))
            have ejn : xs.length - 2 - d = j := by omega
            have HJ := Lib.hid ejn
            have HJ2 := Lib.hid hj
            obtain ⟨a, ha⟩ : ∃ a, xs.getD j 0 = a := ⟨_, rfl⟩
            rw [ha] at hc2
            have HAA := Lib.hid ha
            have hjl : (j : Int) < (xs.length : Int) := by omega
            have hj0 : (0 : Int) ≤ (j : Int) := by omega
            obtain ⟨mv, hmv⟩ : ∃ m, mulSV W P vv x = m := ⟨_, rfl⟩
            obtain ⟨mb, hmb⟩ : ∃ m, mulSB W P vv x = m := ⟨_, rfl⟩
            obtain ⟨sv, hsv⟩ : ∃ m, addSV W P mv a = m := ⟨_, rfl⟩
            obtain ⟨sb, hsb⟩ : ∃ m, addSB W P mv a = m := ⟨_, rfl⟩
            have hnext : psD W P x xs (d + 1) = (sv, qq && mb && sb) := by
              rw [psD, HPD.out, ejn, ha]
              show (addSV W P (mulSV W P vv x) a, qq && mulSB W P vv x && addSB W P (mulSV W P vv x) a) = _
              rw [hmv, hmb, hsv, hsb]
            have HNX := Lib.hid hnext
            have HMV := Lib.hid hmv
            have HMB := Lib.hid hmb
            have HSV := Lib.hid hsv
            have HSB := Lib.hid hsb
            unfold mulSV at hmv
            unfold mulSB at hmb
            unfold addSV at hsv
            unfold addSB at hsb
            have KMV := Lib.hid hmv
            have KMB := Lib.hid hmb
            have KSV := Lib.hid hsv
            have KSB := Lib.hid hsb
            clear ei ejn ha hmv hmb hsv hsb hnext hj
            go_upto_region 14 with (go_at_call 35; refine (specMulStored_any W P vv x _).mono ?_; rintro e w5 ⟨he, hb5⟩; rw [KMV.out, KMB.out] at he; subst he; replace K4 := K4.kept hb5; replace hc2 := cell_keep hb5 hc2; replace zg := lt_keep hb5 zg; replace hb4 := bw_trans hb4 hb5; clear n0 n1 z0 hb5; obtain ⟨n0, n1⟩ := pcell2 K4; have z0 := K4.lt)
            refine wp_region_below (by kernel_rfl) (fun wD hHeld => ?_)
            refine wpAnyH_take (i := 0) (v := ?_) (by (simp only [List.getElem?_toArray, List.getElem?_cons_zero]; rfl)) (by kernel_rfl) (by kernel_rfl) (by kernel_rfl) (by exact fun _ _ _ h => h) (Or.inl ⟨by rfl, ?_⟩) (by assumption) ?_
            rotate_left
            · (intro wS hS; have hSc := (bcell hS).1; clear hS; go_simp; try with_reducible rfl)
            try simp only [Act.put, List.setIfInBounds_toArray, List.set_cons_zero, List.set_cons_succ]
            refine wpAnyH_take (i := 1) (v := ?_) (by (simp only [List.getElem?_toArray, List.getElem?_cons_succ, List.getElem?_cons_zero]; rfl)) (by kernel_rfl) (by kernel_rfl) (by kernel_rfl) (by exact fun _ _ _ h => h) (Or.inl ⟨by rfl, ?_⟩) (by assumption) ?_
            rotate_left
            · (intro wS hS; clear hS; go_simp; try with_reducible rfl)
            try simp only [Act.put, List.setIfInBounds_toArray, List.set_cons_zero, List.set_cons_succ]
            refine wpAnyH_take (i := 2) (v := ?_) (by (simp only [List.getElem?_toArray, List.getElem?_cons_succ, List.getElem?_cons_zero]; rfl)) (by kernel_rfl) (by kernel_rfl) (by kernel_rfl) (by exact fun _ _ _ h => h) (Or.inl ⟨by rfl, ?_⟩) (by assumption) ?_
            rotate_left
            · (intro wS hS; clear hS; go_simp; try with_reducible rfl)
            try simp only [Act.put, List.setIfInBounds_toArray, List.set_cons_zero, List.set_cons_succ]
            refine wpAnyH_take (i := 3) (v := ?_) (by (simp only [List.getElem?_toArray, List.getElem?_cons_succ, List.getElem?_cons_zero]; rfl)) (by kernel_rfl) (by kernel_rfl) (by kernel_rfl) (by exact fun _ _ _ h => h) (Or.inl ⟨by rfl, ?_⟩) (by assumption) ?_
            rotate_left
            · (intro wS hS; clear hS; go_simp; try with_reducible rfl)
            try simp only [Act.put, List.setIfInBounds_toArray, List.set_cons_zero, List.set_cons_succ]
            refine wpAnyH_take (i := 4) (v := ?_) (by (simp only [List.getElem?_toArray, List.getElem?_cons_succ, List.getElem?_cons_zero]; rfl)) (by kernel_rfl) (by kernel_rfl) (by kernel_rfl) (by exact fun _ _ _ h => h) (Or.inl ⟨by rfl, ?_⟩) (by assumption) ?_
            rotate_left
            · (intro wS hS; clear hS; go_simp; try with_reducible rfl)
            try simp only [Act.put, List.setIfInBounds_toArray, List.set_cons_zero, List.set_cons_succ]
            refine wpAnyH_take (i := 5) (v := ?_) (by (simp only [List.getElem?_toArray, List.getElem?_cons_succ, List.getElem?_cons_zero]; rfl)) (by kernel_rfl) (by kernel_rfl) (by kernel_rfl) (by exact fun _ _ _ h => h) (Or.inl ⟨by rfl, ?_⟩) (by assumption) ?_
            rotate_left
            · (intro wS hS; have hSc := (bcell hS).1; clear hS; go_simp; try with_reducible rfl)
            try simp only [Act.put, List.setIfInBounds_toArray, List.set_cons_zero, List.set_cons_succ]
            refine wpAnyH_ready (rs := [6]) (by kernel_rfl) (by simp) ?_
            refine AllReadyH.cons (by (simp only [List.getElem?_toArray, List.getElem?_cons_succ, List.getElem?_cons_zero]; rfl)) (fun K hK => ?_) AllReadyH.nil
            go_simp
            ((go_at_call 36; refine (specAddStored_any W P mv a _).mono ?_; rintro e w6 ⟨he, hb6⟩; rw [KSV.out, KSB.out] at he; subst he))
            (try go_wp2_with fail)
            refine hK.out _ _ (by repeat (first | exact bw_refl _ | assumption | apply bw_alloc | apply bw_drew | apply bw_drewN | (refine bw_trans ?_ (by assumption)) | (refine bw_set ?_ (by simp only [go_sem]; omega) _))) (fun hHeld => ?_)
            clear hK K
            try simp only [Act.put, List.setIfInBounds_toArray, List.set_cons_zero, List.set_cons_succ]
            refine wpAnyH_take (i := 7) (v := ?_) (by (simp only [List.getElem?_toArray, List.getElem?_cons_succ, List.getElem?_cons_zero]; rfl)) (by kernel_rfl) (by kernel_rfl) (by kernel_rfl) (by exact fun _ _ _ h => h) (Or.inl ⟨by rfl, ?_⟩) (by assumption) ?_
            rotate_left
            · (intro wS hS; clear hS; go_simp; try with_reducible rfl)
            try simp only [Act.put, List.setIfInBounds_toArray, List.set_cons_zero, List.set_cons_succ]
            refine wpAnyH_take (i := 8) (v := ?_) (by (simp only [List.getElem?_toArray, List.getElem?_cons_succ, List.getElem?_cons_zero]; rfl)) (by kernel_rfl) (by kernel_rfl) (by kernel_rfl) (by exact fun _ _ _ h => h) (Or.inl ⟨by rfl, ?_⟩) (by assumption) ?_
            rotate_left
            · (intro wS hS; clear hS; go_simp; try with_reducible rfl)
            try simp only [Act.put, List.setIfInBounds_toArray, List.set_cons_zero, List.set_cons_succ]
            refine wpAnyH_take (i := 9) (v := ?_) (by (simp only [List.getElem?_toArray, List.getElem?_cons_succ, List.getElem?_cons_zero]; rfl)) (by kernel_rfl) (by kernel_rfl) (by kernel_rfl) (by exact fun _ _ _ h => h) (Or.inl ⟨by rfl, ?_⟩) (by assumption) ?_
            rotate_left
            · (intro wS hS; clear hS; go_simp; try with_reducible rfl)
            try simp only [Act.put, List.setIfInBounds_toArray, List.set_cons_zero, List.set_cons_succ]
            refine wpAnyH_take (i := 10) (v := ?_) (by (simp only [List.getElem?_toArray, List.getElem?_cons_succ, List.getElem?_cons_zero]; rfl)) (by kernel_rfl) (by kernel_rfl) (by kernel_rfl) (by exact fun _ _ _ h => h) (Or.inl ⟨by rfl, ?_⟩) (by assumption) ?_
            rotate_left
            · (intro wS hS; clear hS; go_simp; try with_reducible rfl)
            try simp only [Act.put, List.setIfInBounds_toArray, List.set_cons_zero, List.set_cons_succ]
            refine wpAnyH_take (i := 11) (v := ?_) (by (simp only [List.getElem?_toArray, List.getElem?_cons_succ, List.getElem?_cons_zero]; rfl)) (by kernel_rfl) (by kernel_rfl) (by kernel_rfl) (by exact fun _ _ _ h => h) (Or.inl ⟨by rfl, ?_⟩) (by assumption) ?_
            rotate_left
            · (intro wS hS; clear hS; go_simp; try with_reducible rfl)
            try simp only [Act.put, List.setIfInBounds_toArray, List.set_cons_zero, List.set_cons_succ]
            refine wpAnyH_done (by kernel_rfl) ?_ _
            cases qq
            · go_wp2
              go_roundw
              case rel => first | exact ⟨d + 1, sv, _, by omega, rfl, rfl, congrArg (Value.int .i64) (by have := HJ2.out; omega), HNX.out, K4.kept hHeld, bw_trans hb4 hHeld⟩ | ((repeat apply Exists.intro); exact ⟨⟨d + 1, sv, _, by omega, rfl, rfl, congrArg (Value.int .i64) (by have := HJ2.out; omega), HNX.out, K4.kept hHeld, bw_trans hb4 hHeld⟩, rfl⟩)
              case measure => simp [intOf] <;> omega
            · cases mb
              · go_wp2
                go_roundw
                case rel => first | exact ⟨d + 1, sv, _, by omega, rfl, rfl, congrArg (Value.int .i64) (by have := HJ2.out; omega), HNX.out, K4.kept hHeld, bw_trans hb4 hHeld⟩ | ((repeat apply Exists.intro); exact ⟨⟨d + 1, sv, _, by omega, rfl, rfl, congrArg (Value.int .i64) (by have := HJ2.out; omega), HNX.out, K4.kept hHeld, bw_trans hb4 hHeld⟩, rfl⟩)
                case measure => simp [intOf] <;> omega
              · go_wp2
                go_roundw
                case rel => first | exact ⟨d + 1, sv, _, by omega, rfl, rfl, congrArg (Value.int .i64) (by have := HJ2.out; omega), HNX.out, K4.kept hHeld, bw_trans hb4 hHeld⟩ | ((repeat apply Exists.intro); exact ⟨⟨d + 1, sv, _, by omega, rfl, rfl, congrArg (Value.int .i64) (by have := HJ2.out; omega), HNX.out, K4.kept hHeld, bw_trans hb4 hHeld⟩, rfl⟩)
                case measure => simp [intOf] <;> omega
          · have hdd : d = xs.length - 1 := by omega
            have hneg : (xs.length : Int) - 2 - (d : Int) < 0 := by omega
            go_wp2
            go_ret2
            rw [HPS.out, ← hdd, HPD.out]
            exact ⟨rfl, (by repeat (first | exact bw_refl _ | assumption | apply bw_alloc | apply bw_drew | apply bw_drewN | (refine bw_trans ?_ (by assumption)) | (refine bw_set ?_ (by simp only [go_sem]; omega) _)))⟩
  · have hno : polyS W P xs x = (0, false) := by
      unfold polyS
      have : ((fitsB W P x && (decide (1 ≤ xs.length) && decide (xs.length ≤ 7))) && allFit W P xs) = false := by rw [Bool.eq_false_iff.2 hv]; rfl
      rw [this]; rfl
    have HNO := Lib.hid hno
    have hcase : fitsB W P x = false ∨ (fitsB W P x = true ∧ xs.length < 1) ∨ (fitsB W P x = true ∧ 7 < xs.length) := by
      cases hfx : fitsB W P x
      · exact .inl rfl
      · right
        rw [hfx] at hv
        simp only [Bool.true_and, Bool.and_eq_true, decide_eq_true_eq] at hv
        have : xs.length < 1 ∨ 7 < xs.length := by omega
        rcases this with h | h
        · exact .inl ⟨rfl, h⟩
        · exact .inr ⟨rfl, h⟩
    clear hno hv
    rcases hcase with hfx | ⟨hfx, hl⟩ | ⟨hfx, hl⟩
    all_goals
      have HFX := Lib.hid hfx
      clear hfx
      try (have hinx : inB (xs.length : Int) 1 7 = false := (inB_no _ _ _).2 (by omega))
      go_enter Try.func22, Try.ntmps22
      go_wp2_with (first
        | (go_at_call 34; refine (specStoredFits_any W P x _).mono ?_; rintro e w1 ⟨he, hb1⟩; rw [HFX.out] at he; subst he) | (go_at_call 32; refine (l1In_any _ _ _ _).mono ?_; rintro e w' ⟨rfl, rfl⟩))
      go_ret2
      rw [HNO.out]
      exact ⟨rfl, (by repeat (first | exact bw_refl _ | assumption | apply bw_alloc | apply bw_drew | apply bw_drewN | (refine bw_trans ?_ (by assumption)) | (refine bw_set ?_ (by simp only [go_sem]; omega) _)))⟩
end Go.Proofs.Ytdnklndemoinaaa
