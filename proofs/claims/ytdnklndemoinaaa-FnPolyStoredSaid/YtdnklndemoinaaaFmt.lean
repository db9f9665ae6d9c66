/- Contracts of the functions on formats and stored numbers; conditions: where a function takes it for granted, that the format is valid. -/
import Derived.Test.YtdnklndemoinaaaNum
namespace Go.Proofs.Ytdnklndemoinaaa
open Go.RowKit
set_option linter.unusedVariables false

def fmtB (W P : Int) : Bool := inB W 1 12 && inB P 0 16
/-- 2 to the number of digits of a format. -/
def pw (W P : Int) : Int := 2 ^ (W + P).toNat
def fitsB (W P n : Int) : Bool := fmtB W P && inB n (-(pw W P)) (pw W P - 1)
def cutF (W P n : Int) : Int := max (-(pw W P)) (min (pw W P - 1) n)
theorem fmtB_iff (W P : Int) : fmtB W P = true ↔ (1 ≤ W ∧ W ≤ 12) ∧ 0 ≤ P ∧ P ≤ 16 := by simp [fmtB, inB_iff]
theorem fmtB_cases (W P : Int) : (fmtB W P = true ∧ 1 ≤ W ∧ W ≤ 12 ∧ 0 ≤ P ∧ P ≤ 16) ∨ (fmtB W P = false ∧ (inB W 1 12 = false ∨ inB P 0 16 = false)) := by
  cases h : fmtB W P
  · right
    refine ⟨rfl, ?_⟩
    cases hW : inB W 1 12
    · exact .inl rfl
    · rw [fmtB, hW] at h; exact .inr (by simpa using h)
  · left
    have := (fmtB_iff W P).1 h
    exact ⟨rfl, this.1.1, this.1.2, this.2.1, this.2.2⟩
theorem pw_bd (W P : Int) (h0 : 1 ≤ W) (h1 : W ≤ 12) (h2 : 0 ≤ P) (h3 : P ≤ 16) : 2 ≤ pw W P ∧ pw W P ≤ 268435456 := by
  unfold pw
  have a := pow2_bd (W + P).toNat 28 (by omega)
  have b := pow2_bd 1 (W + P).toNat (by omega)
  have c : (2 : Int) ^ 28 = 268435456 := by decide
  have d : (2 : Int) ^ 1 = 2 := by decide
  omega
theorem toNat_split (W P : Int) (h0 : 1 ≤ W) (h2 : 0 ≤ P) : ∃ a b : Nat, W = a ∧ P = b ∧ pw W P = 2 ^ (a + b) :=
  ⟨W.toNat, P.toNat, by omega, by omega, by unfold pw; congr 1; omega⟩

theorem cutF_cases (W P n : Int) (h : 2 ≤ pw W P) : (cutF W P n = n ∧ -(pw W P) ≤ n ∧ n ≤ pw W P - 1) ∨ (cutF W P n = pw W P - 1 ∧ pw W P - 1 < n) ∨ (cutF W P n = -(pw W P) ∧ n < -(pw W P)) := by
  unfold cutF; omega
theorem specFormatValid_any (W P : Int) (w : World) : Calls Try.prog 48 #[.agg #[.int .i64 W, .int .i64 P]] w fun e w' => e = .returned (.bool (fmtB W P)) ∧ Below w.heap.size w w' := by
  cases hW : inB W 1 12
  all_goals
    have e1 : fmtB W P = (inB W 1 12 && inB P 0 16) := rfl
    rw [e1, hW]
    clear e1
    go_enter Try.func48, Try.ntmps48
    go_wp2_with (go_at_call 32; refine (l1In_any _ _ _ _).mono ?_; rintro e w' ⟨rfl, rfl⟩)
    go_ret
    exact ⟨ret_bool (by simp), (by repeat (first | exact bw_refl _ | assumption | apply bw_alloc | apply bw_drew | apply bw_drewN | (refine bw_trans ?_ (by assumption)) | (refine bw_set ?_ (by simp only [go_sem]; omega) _)))⟩
theorem implFormatValid_any (W P : Int) (w : World) : Calls Try.prog 45 #[.agg #[.int .i64 W, .int .i64 P]] w fun e w' => e = .returned (.bool (fmtB W P)) ∧ Below w.heap.size w w' := by
  rcases fmtB_cases W P with ⟨h, h0, h1, h2, h3⟩ | ⟨h, hn⟩
  · have H := Lib.hid h
    clear h
    go_enter Try.func45, Try.ntmps45
    go_wp2
    go_ret
    exact ⟨ret_bool (by rw [H.out]), (by repeat (first | exact bw_refl _ | assumption | apply bw_alloc | apply bw_drew | apply bw_drewN | (refine bw_trans ?_ (by assumption)) | (refine bw_set ?_ (by simp only [go_sem]; omega) _)))⟩
  · have H := Lib.hid h
    have hq : ¬ ((1 ≤ W ∧ W ≤ 12) ∧ 0 ≤ P ∧ P ≤ 16) := by rw [← fmtB_iff, h]; simp
    have HQ := Lib.hid hq
    clear h hn hq
    go_enter Try.func45, Try.ntmps45
    go_wp2
    all_goals
      go_ret
      refine ⟨ret_bool ?_, (by repeat (first | exact bw_refl _ | assumption | apply bw_alloc | apply bw_drew | apply bw_drewN | (refine bw_trans ?_ (by assumption)) | (refine bw_set ?_ (by simp only [go_sem]; omega) _)))⟩
      first | (rw [H.out]; done) | (rw [H.out]; have := HQ.out; simp <;> omega)
theorem l4Most_ok (W P : Int) (h0 : 1 ≤ W) (h1 : W ≤ 12) (h2 : 0 ≤ P) (h3 : P ≤ 16) (w : World) :
    Calls Try.prog 49 #[.agg #[.int .i64 W, .int .i64 P]] w fun e w' => e = .returned (.int .i64 (pw W P - 1)) ∧ Below w.heap.size w w' := by
  obtain ⟨b0, b1⟩ := pw_bd W P h0 h1 h2 h3
  have HP : Hid (pw W P = 2 ^ (W + P).toNat) := Lib.hid rfl
  have b2 : 2 ≤ (2 : Int) ^ (W + P).toNat := by rw [← HP.out]; exact b0
  have b3 : (2 : Int) ^ (W + P).toNat ≤ 268435456 := by rw [← HP.out]; exact b1
  go_enter Try.func49, Try.ntmps49
  go_wp2
  go_ret
  exact ⟨ret_int (by rw [HP.out]), (by repeat (first | exact bw_refl _ | assumption | apply bw_alloc | apply bw_drew | apply bw_drewN | (refine bw_trans ?_ (by assumption)) | (refine bw_set ?_ (by simp only [go_sem]; omega) _)))⟩
theorem least_ok (W P : Int) (h0 : 1 ≤ W) (h1 : W ≤ 12) (h2 : 0 ≤ P) (h3 : P ≤ 16) (w : World) :
    Calls Try.prog 46 #[.agg #[.int .i64 W, .int .i64 P]] w fun e w' => e = .returned (.int .i64 (-(pw W P))) ∧ Below w.heap.size w w' := by
  obtain ⟨b0, b1⟩ := pw_bd W P h0 h1 h2 h3
  have HP : Hid (pw W P = 2 ^ (W + P).toNat) := Lib.hid rfl
  have b2 : 2 ≤ (2 : Int) ^ (W + P).toNat := by rw [← HP.out]; exact b0
  have b3 : (2 : Int) ^ (W + P).toNat ≤ 268435456 := by rw [← HP.out]; exact b1
  go_enter Try.func46, Try.ntmps46
  go_wp2
  go_ret
  exact ⟨ret_int (by rw [HP.out]), (by repeat (first | exact bw_refl _ | assumption | apply bw_alloc | apply bw_drew | apply bw_drewN | (refine bw_trans ?_ (by assumption)) | (refine bw_set ?_ (by simp only [go_sem]; omega) _)))⟩
theorem greatest_ok (W P : Int) (h0 : 1 ≤ W) (h1 : W ≤ 12) (h2 : 0 ≤ P) (h3 : P ≤ 16) (w : World) :
    Calls Try.prog 47 #[.agg #[.int .i64 W, .int .i64 P]] w fun e w' => e = .returned (.int .i64 (pw W P - 1)) ∧ Below w.heap.size w w' := by
  obtain ⟨b0, b1⟩ := pw_bd W P h0 h1 h2 h3
  have HP : Hid (pw W P = 2 ^ (W + P).toNat) := Lib.hid rfl
  have b2 : 2 ≤ (2 : Int) ^ (W + P).toNat := by rw [← HP.out]; exact b0
  have b3 : (2 : Int) ^ (W + P).toNat ≤ 268435456 := by rw [← HP.out]; exact b1
  go_enter Try.func47, Try.ntmps47
  go_wp2
  go_ret
  exact ⟨ret_int (by rw [HP.out]), (by repeat (first | exact bw_refl _ | assumption | apply bw_alloc | apply bw_drew | apply bw_drewN | (refine bw_trans ?_ (by assumption)) | (refine bw_set ?_ (by simp only [go_sem]; omega) _)))⟩
theorem implStoredFits_any (W P n : Int) (w : World) : Calls Try.prog 31 #[.agg #[.int .i64 W, .int .i64 P], .int .i64 n] w fun e w' => e = .returned (.bool (fitsB W P n)) ∧ Below w.heap.size w w' := by
  rcases fmtB_cases W P with ⟨h, h0, h1, h2, h3⟩ | ⟨h, -⟩
  · have e1 : fitsB W P n = (decide (-(pw W P) ≤ n) && decide (n ≤ pw W P - 1)) := by simp [fitsB, h, inB]
    rw [e1]
    clear e1
    obtain ⟨b0, b1⟩ := pw_bd W P h0 h1 h2 h3
    go_enter Try.func31, Try.ntmps31
    go_wp2_with (first
      | (go_at_call 45; refine (implFormatValid_any _ _ _).mono ?_; rintro e w1 ⟨rfl, hb⟩; (first | (have hq := bcomp hc hf hz hb; clear hc hf hz; obtain ⟨hc, hf, hz⟩ := hq) | (obtain ⟨hc, hf⟩ := bcell hb; have hz := bsize hb)))
      | (go_at_call 46; refine (least_ok W P h0 h1 h2 h3 _).mono ?_; rintro e w1 ⟨rfl, hb⟩; (first | (have hq := bcomp hc hf hz hb; clear hc hf hz; obtain ⟨hc, hf, hz⟩ := hq) | (obtain ⟨hc, hf⟩ := bcell hb; have hz := bsize hb)))
      | (go_at_call 47; refine (greatest_ok W P h0 h1 h2 h3 _).mono ?_; rintro e w1 ⟨rfl, hb⟩; (first | (have hq := bcomp hc hf hz hb; clear hc hf hz; obtain ⟨hc, hf, hz⟩ := hq) | (obtain ⟨hc, hf⟩ := bcell hb; have hz := bsize hb))))
    all_goals
      go_ret
      exact ⟨ret_bool (by first | rfl | (simp; done) | (simp <;> omega) | (simp [*] <;> omega) | (rw [Bool.eq_iff_iff]; simp [inB] <;> omega)), (by repeat (first | exact bw_refl _ | assumption | apply bw_alloc | apply bw_drew | apply bw_drewN | (refine bw_trans ?_ (by assumption)) | (refine bw_set ?_ (by simp only [go_sem]; omega) _)))⟩
  · have e1 : fitsB W P n = false := by simp [fitsB, h]
    rw [e1]
    clear e1
    go_enter Try.func31, Try.ntmps31
    go_wp2_with (first
      | (go_at_call 45; refine (implFormatValid_any _ _ _).mono ?_; rintro e w1 ⟨rfl, hb⟩; (first | (have hq := bcomp hc hf hz hb; clear hc hf hz; obtain ⟨hc, hf, hz⟩ := hq) | (obtain ⟨hc, hf⟩ := bcell hb; have hz := bsize hb))))
    go_ret
    exact ⟨rfl, (by repeat (first | exact bw_refl _ | assumption | apply bw_alloc | apply bw_drew | apply bw_drewN | (refine bw_trans ?_ (by assumption)) | (refine bw_set ?_ (by simp only [go_sem]; omega) _)))⟩
theorem specStoredFits_any (W P n : Int) (w : World) : Calls Try.prog 34 #[.agg #[.int .i64 W, .int .i64 P], .int .i64 n] w fun e w' => e = .returned (.bool (fitsB W P n)) ∧ Below w.heap.size w w' := by
  rcases fmtB_cases W P with ⟨h, h0, h1, h2, h3⟩ | ⟨h, -⟩
  · have e1 : fitsB W P n = inB n (-(pw W P)) (pw W P - 1) := by simp [fitsB, h]
    rw [e1]
    clear e1
    obtain ⟨b0, b1⟩ := pw_bd W P h0 h1 h2 h3
    have q1 : IntKind.i64.wrap (-(pw W P - 1)) = -(pw W P - 1) := IntWalk.i64_in _ (by omega)
    have q2 : IntKind.i64.wrap (-(pw W P - 1) - 1) = -(pw W P) := by rw [IntWalk.i64_in _ (by omega)]; omega
    go_enter Try.func34, Try.ntmps34
    go_wp2
    go_region_held3 (fun w' => w'.cell? ⟨w.heap.size, 0, none⟩ = some (.int .i64 W) ∧ w'.cell? ⟨w.heap.size, 1, none⟩ = some (.int .i64 P)) (first | exact ⟨cell_keep hb (And.left (by assumption)), cell_keep hb (And.right (by assumption))⟩ | (simp [*]; done) | go_keep)
      (first
      | (go_at_call 48; refine (specFormatValid_any _ _ _).mono ?_; rintro e w1 ⟨rfl, hb⟩; (first | (have hq := bcomp hc hf hz hb; clear hc hf hz; obtain ⟨hc, hf, hz⟩ := hq) | (obtain ⟨hc, hf⟩ := bcell hb; have hz := bsize hb)))
      | (go_at_call 49; refine (l4Most_ok W P h0 h1 h2 h3 _).mono ?_; rintro e w1 ⟨rfl, hb⟩; (first | (have hq := bcomp hc hf hz hb; clear hc hf hz; obtain ⟨hc, hf, hz⟩ := hq) | (obtain ⟨hc, hf⟩ := bcell hb; have hz := bsize hb)))
      | (go_at_call 32; refine (l1In_any _ _ _ _).mono ?_; rintro e w' ⟨rfl, rfl⟩))
    go_wp2
    go_ret
    exact ⟨ret_bool (by first | rfl | (simp; done) | (simp <;> omega) | (simp [*] <;> omega) | (rw [Bool.eq_iff_iff]; simp [inB] <;> omega)), (by repeat (first | exact bw_refl _ | assumption | apply bw_alloc | apply bw_drew | apply bw_drewN | (refine bw_trans ?_ (by assumption)) | (refine bw_set ?_ (by simp only [go_sem]; omega) _)))⟩
  · have e1 : fitsB W P n = false := by simp [fitsB, h]
    rw [e1]
    clear e1
    go_enter Try.func34, Try.ntmps34
    go_wp2
    refine wp_region_below (by kernel_rfl) (fun wD hHeld => ?_)
    refine wpAnyH_take (i := 0) (v := ?_) (by (simp only [List.getElem?_toArray, List.getElem?_cons_zero]; rfl)) (by kernel_rfl) (by kernel_rfl) (by kernel_rfl) (by exact fun _ _ _ h => h) (Or.inl ⟨by rfl, ?_⟩) (by assumption) ?_
    rotate_left
    · (intro wS hS; have hSc := (bcell hS).1; clear hS; go_simp; try with_reducible rfl)
    try simp only [Act.put, List.setIfInBounds_toArray, List.set_cons_zero, List.set_cons_succ]
    refine wpAnyH_ready (rs := [1]) (by kernel_rfl) (by simp) ?_
    refine AllReadyH.cons (by (simp only [List.getElem?_toArray, List.getElem?_cons_succ, List.getElem?_cons_zero]; rfl)) (fun K hK => ?_) AllReadyH.nil
    go_simp
    ((go_at_call 48; refine (specFormatValid_any _ _ _).mono ?_; rintro e w1 ⟨rfl, hb⟩; (first | (have hq := bcomp hc hf hz hb; clear hc hf hz; obtain ⟨hc, hf, hz⟩ := hq) | (obtain ⟨hc, hf⟩ := bcell hb; have hz := bsize hb))))
    (try go_wp2_with fail)
    refine hK.out _ _ (by repeat (first | exact bw_refl _ | assumption | apply bw_alloc | apply bw_drew | apply bw_drewN | (refine bw_trans ?_ (by assumption)) | (refine bw_set ?_ (by simp only [go_sem]; omega) _))) (fun hHeld => ?_)
    clear hK K
    try simp only [Act.put, List.setIfInBounds_toArray, List.set_cons_zero, List.set_cons_succ]
    refine wpAnyH_take (i := 2) (v := ?_) (by (simp only [List.getElem?_toArray, List.getElem?_cons_succ, List.getElem?_cons_zero]; rfl)) (by kernel_rfl) (by kernel_rfl) (by kernel_rfl) (by exact fun _ _ _ h => h) (Or.inl ⟨by rfl, ?_⟩) (by assumption) ?_
    rotate_left
    · (intro wS hS; clear hS; go_simp; try with_reducible rfl)
    try simp only [Act.put, List.setIfInBounds_toArray, List.set_cons_zero, List.set_cons_succ]
    refine wpAnyH_take (i := 3) (v := undef) (by (simp only [List.getElem?_toArray, List.getElem?_cons_succ, List.getElem?_cons_zero]; rfl)) (by kernel_rfl) (by kernel_rfl) (by kernel_rfl) (by exact fun _ _ _ h => h) (Or.inr ⟨by rfl, rfl⟩) (by assumption) ?_
    try simp only [Act.put, List.setIfInBounds_toArray, List.set_cons_zero, List.set_cons_succ]
    refine wpAnyH_take (i := 4) (v := undef) (by (simp only [List.getElem?_toArray, List.getElem?_cons_succ, List.getElem?_cons_zero]; rfl)) (by kernel_rfl) (by kernel_rfl) (by kernel_rfl) (by exact fun _ _ _ h => h) (Or.inr ⟨by rfl, rfl⟩) (by assumption) ?_
    try simp only [Act.put, List.setIfInBounds_toArray, List.set_cons_zero, List.set_cons_succ]
    refine wpAnyH_take (i := 5) (v := undef) (by (simp only [List.getElem?_toArray, List.getElem?_cons_succ, List.getElem?_cons_zero]; rfl)) (by kernel_rfl) (by kernel_rfl) (by kernel_rfl) (by exact fun _ _ _ h => h) (Or.inr ⟨by rfl, rfl⟩) (by assumption) ?_
    try simp only [Act.put, List.setIfInBounds_toArray, List.set_cons_zero, List.set_cons_succ]
    refine wpAnyH_take (i := 6) (v := undef) (by (simp only [List.getElem?_toArray, List.getElem?_cons_succ, List.getElem?_cons_zero]; rfl)) (by kernel_rfl) (by kernel_rfl) (by kernel_rfl) (by exact fun _ _ _ h => h) (Or.inr ⟨by rfl, rfl⟩) (by assumption) ?_
    try simp only [Act.put, List.setIfInBounds_toArray, List.set_cons_zero, List.set_cons_succ]
    refine wpAnyH_take (i := 7) (v := undef) (by (simp only [List.getElem?_toArray, List.getElem?_cons_succ, List.getElem?_cons_zero]; rfl)) (by kernel_rfl) (by kernel_rfl) (by kernel_rfl) (by exact fun _ _ _ h => h) (Or.inr ⟨by rfl, rfl⟩) (by assumption) ?_
    try simp only [Act.put, List.setIfInBounds_toArray, List.set_cons_zero, List.set_cons_succ]
    refine wpAnyH_take (i := 8) (v := undef) (by (simp only [List.getElem?_toArray, List.getElem?_cons_succ, List.getElem?_cons_zero]; rfl)) (by kernel_rfl) (by kernel_rfl) (by kernel_rfl) (by exact fun _ _ _ h => h) (Or.inr ⟨by rfl, rfl⟩) (by assumption) ?_
    try simp only [Act.put, List.setIfInBounds_toArray, List.set_cons_zero, List.set_cons_succ]
    refine wpAnyH_take (i := 9) (v := undef) (by (simp only [List.getElem?_toArray, List.getElem?_cons_succ, List.getElem?_cons_zero]; rfl)) (by kernel_rfl) (by kernel_rfl) (by kernel_rfl) (by exact fun _ _ _ h => h) (Or.inr ⟨by rfl, rfl⟩) (by assumption) ?_
    try simp only [Act.put, List.setIfInBounds_toArray, List.set_cons_zero, List.set_cons_succ]
    refine wpAnyH_take (i := 10) (v := undef) (by (simp only [List.getElem?_toArray, List.getElem?_cons_succ, List.getElem?_cons_zero]; rfl)) (by kernel_rfl) (by kernel_rfl) (by kernel_rfl) (by exact fun _ _ _ h => h) (Or.inr ⟨by rfl, rfl⟩) (by assumption) ?_
    try simp only [Act.put, List.setIfInBounds_toArray, List.set_cons_zero, List.set_cons_succ]
    refine wpAnyH_take (i := 11) (v := ?_) (by (simp only [List.getElem?_toArray, List.getElem?_cons_succ, List.getElem?_cons_zero]; rfl)) (by kernel_rfl) (by kernel_rfl) (by kernel_rfl) (by exact fun _ _ _ h => h) (Or.inl ⟨by rfl, ?_⟩) (by assumption) ?_
    rotate_left
    · (intro wS hS; clear hS; go_simp; try with_reducible rfl)
    try simp only [Act.put, List.setIfInBounds_toArray, List.set_cons_zero, List.set_cons_succ]
    refine wpAnyH_take (i := 12) (v := ?_) (by (simp only [List.getElem?_toArray, List.getElem?_cons_succ, List.getElem?_cons_zero]; rfl)) (by kernel_rfl) (by kernel_rfl) (by kernel_rfl) (by exact fun _ _ _ h => h) (Or.inl ⟨by rfl, ?_⟩) (by assumption) ?_
    rotate_left
    · (intro wS hS; clear hS; go_simp; try with_reducible rfl)
    try simp only [Act.put, List.setIfInBounds_toArray, List.set_cons_zero, List.set_cons_succ]
    refine wpAnyH_done (by kernel_rfl) ?_ _
    go_wp2
    go_ret
    exact ⟨rfl, (by repeat (first | exact bw_refl _ | assumption | apply bw_alloc | apply bw_drew | apply bw_drewN | (refine bw_trans ?_ (by assumption)) | (refine bw_set ?_ (by simp only [go_sem]; omega) _)))⟩
theorem l4Cut_ok (W P n : Int) (h0 : 1 ≤ W) (h1 : W ≤ 12) (h2 : 0 ≤ P) (h3 : P ≤ 16) (w : World) :
    Calls Try.prog 51 #[.agg #[.int .i64 W, .int .i64 P], .int .i64 n] w fun e w' => e = .returned (.tuple #[.int .i64 (cutF W P n), .bool (cutF W P n == n)]) ∧ Below w.heap.size w w' := by
  obtain ⟨b0, b1⟩ := pw_bd W P h0 h1 h2 h3
  rcases cutF_cases W P n b0 with ⟨e, g1, g2⟩ | ⟨e, g1⟩ | ⟨e, g1⟩
  all_goals
    have E := Lib.hid e
    clear e
    have q1 : IntKind.i64.wrap (-(pw W P - 1)) = -(pw W P - 1) := IntWalk.i64_in _ (by omega)
    have q2 : IntKind.i64.wrap (-(pw W P - 1) - 1) = -(pw W P) := by rw [IntWalk.i64_in _ (by omega)]; omega
    go_enter Try.func51, Try.ntmps51
    go_wp2
    go_region_held3 (fun w' => w'.cell? ⟨w.heap.size, 0, none⟩ = some (.int .i64 W) ∧ w'.cell? ⟨w.heap.size, 1, none⟩ = some (.int .i64 P)) (first | exact ⟨cell_keep hb (And.left (by assumption)), cell_keep hb (And.right (by assumption))⟩ | (simp [*]; done) | go_keep)
      (first
      | (go_at_call 49; refine (l4Most_ok W P h0 h1 h2 h3 _).mono ?_; rintro e w1 ⟨rfl, hb⟩; (first | (have hq := bcomp hc hf hz hb; clear hc hf hz; obtain ⟨hc, hf, hz⟩ := hq) | (obtain ⟨hc, hf⟩ := bcell hb; have hz := bsize hb))))
    all_goals
      go_wp2
      all_goals
        go_ret2
        refine ⟨?_, (by repeat (first | exact bw_refl _ | assumption | apply bw_alloc | apply bw_drew | apply bw_drewN | (refine bw_trans ?_ (by assumption)) | (refine bw_set ?_ (by simp only [go_sem]; omega) _)))⟩
        rw [E.out]
        simp <;> omega
def cutFv (W P n : Int) : Int := if fmtB W P = true then cutF W P n else 0
def cutFb (W P n : Int) : Bool := fmtB W P && cutF W P n == n
theorem implCutStored_any (W P n : Int) (w : World) :
    Calls Try.prog 60 #[.agg #[.int .i64 W, .int .i64 P], .int .i64 n] w fun e w' => e = .returned (.tuple #[.int .i64 (cutFv W P n), .bool (cutFb W P n)]) ∧ Below w.heap.size w w' := by
  rcases fmtB_cases W P with ⟨h, h0, h1, h2, h3⟩ | ⟨h, -⟩
  · obtain ⟨b0, b1⟩ := pw_bd W P h0 h1 h2 h3
    rcases cutF_cases W P n b0 with ⟨e, g1, g2⟩ | ⟨e, g1⟩ | ⟨e, g1⟩
    all_goals
      have E : Hid (cutFv W P n = _ ∧ cutFb W P n = _) := ⟨by rw [cutFv, if_pos h, e], by rw [cutFb, h, e, Bool.true_and]⟩
      clear e
      go_enter Try.func60, Try.ntmps60
      go_wp2_with (go_at_call 45; refine (implFormatValid_any _ _ _).mono ?_; rintro e w1 ⟨rfl, hb⟩; (first | (have hq := bcomp hc hf hz hb; clear hc hf hz; obtain ⟨hc, hf, hz⟩ := hq) | (obtain ⟨hc, hf⟩ := bcell hb; have hz := bsize hb)))
      go_region_held3 (fun w' => w'.cell? ⟨w.heap.size, 0, none⟩ = some (.int .i64 W) ∧ w'.cell? ⟨w.heap.size, 1, none⟩ = some (.int .i64 P)) (first | exact ⟨cell_keep hb (And.left (by assumption)), cell_keep hb (And.right (by assumption))⟩ | (simp [*]; done) | go_keep)
        (first
        | (go_at_call 46; refine (least_ok W P h0 h1 h2 h3 _).mono ?_; rintro e w1 ⟨rfl, hb⟩; (first | (have hq := bcomp hc hf hz hb; clear hc hf hz; obtain ⟨hc, hf, hz⟩ := hq) | (obtain ⟨hc, hf⟩ := bcell hb; have hz := bsize hb)))
        | (go_at_call 47; refine (greatest_ok W P h0 h1 h2 h3 _).mono ?_; rintro e w1 ⟨rfl, hb⟩; (first | (have hq := bcomp hc hf hz hb; clear hc hf hz; obtain ⟨hc, hf, hz⟩ := hq) | (obtain ⟨hc, hf⟩ := bcell hb; have hz := bsize hb))))
      all_goals
        go_wp2
        all_goals
          go_ret2
          refine ⟨?_, (by repeat (first | exact bw_refl _ | assumption | apply bw_alloc | apply bw_drew | apply bw_drewN | (refine bw_trans ?_ (by assumption)) | (refine bw_set ?_ (by simp only [go_sem]; omega) _)))⟩
          rw [E.out.1, E.out.2]
          simp <;> omega
  · have E : Hid (cutFv W P n = 0 ∧ cutFb W P n = false) := ⟨by simp [cutFv, h], by simp [cutFb, h]⟩
    go_enter Try.func60, Try.ntmps60
    go_wp2_with (go_at_call 45; refine (implFormatValid_any _ _ _).mono ?_; rintro e w1 ⟨rfl, hb⟩; (first | (have hq := bcomp hc hf hz hb; clear hc hf hz; obtain ⟨hc, hf, hz⟩ := hq) | (obtain ⟨hc, hf⟩ := bcell hb; have hz := bsize hb)))
    go_ret2
    refine ⟨?_, (by repeat (first | exact bw_refl _ | assumption | apply bw_alloc | apply bw_drew | apply bw_drewN | (refine bw_trans ?_ (by assumption)) | (refine bw_set ?_ (by simp only [go_sem]; omega) _)))⟩
    rw [E.out.1, E.out.2]
    rfl
end Go.Proofs.Ytdnklndemoinaaa
