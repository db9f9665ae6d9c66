/- Contracts of SumAll, of the program's and the reference's, and the walk of its exact law; no condition. -/
import Derived.Test.YtmpcoljollkfjaaSums
import Derived.Test.YtmpcoljollkfjaaLists
namespace Go.Proofs.Ytmpcoljollkfjaa
open Go.RowKit
set_option linter.unusedVariables false

def sumStep (s : Int × Bool) (n : Int) : Int × Bool := (sumV s.1 n, sumL s.1 s.2 n)
def sumFold (xs : List Int) : Int × Bool := xs.foldl sumStep (0, false)
def allWork (xs : List Int) : Bool := xs.all fun x => inB x (-1152921504606846976) 1152921504606846976
def sumAll (xs : List Int) : Int × Bool := if decide (xs.length ≤ 100) && allWork xs then sumFold xs else (0, false)
theorem sumFold_snoc (xs : List Int) (k : Nat) (h : k < xs.length) : sumFold (xs.take (k + 1)) = sumStep (sumFold (xs.take k)) (xs.getD k 0) := by
  unfold sumFold
  rw [List.take_succ_eq_append_getElem h, List.foldl_append]
  simp [List.getD, List.getElem?_eq_getElem h]
theorem allWork_iff (xs : List Int) : allWork xs = true ↔ ∀ j, j < xs.length → inB (xs.getD j 0) (-1152921504606846976) 1152921504606846976 = true := by
  unfold allWork
  rw [List.all_eq_true]
  constructor
  · intro h j hj
    have := h (xs[j]) (List.getElem_mem hj)
    simpa [List.getD, List.getElem?_eq_getElem hj] using this
  · intro h x hx
    obtain ⟨j, hj, rfl⟩ := List.getElem_of_mem hx
    have := h j hj
    simpa [List.getD, List.getElem?_eq_getElem hj] using this
theorem allWork_no (xs : List Int) (k : Nat) (hk : k < xs.length) (h : inB (xs.getD k 0) (-1152921504606846976) 1152921504606846976 = false) : allWork xs = false := by
  cases h' : allWork xs
  · rfl
  · rw [(allWork_iff xs).1 h' k hk] at h; cases h
theorem sumV_bd (v n : Int) : -1125899906842624 ≤ sumV v n ∧ sumV v n ≤ 1125899906842624 := by
  unfold sumV
  have := cutS_bd (v + n)
  split <;> omega
theorem sumFold_bd (xs : List Int) : -1125899906842624 ≤ (sumFold xs).1 ∧ (sumFold xs).1 ≤ 1125899906842624 := by
  rcases List.eq_nil_or_concat xs with rfl | ⟨ys, y, rfl⟩
  · simp [sumFold]
  · simp only [sumFold, List.concat_eq_append, List.foldl_append, List.foldl_cons, List.foldl_nil]
    exact sumV_bd _ _

theorem Blk_at {w : World} {n : Nat} {t : TypeId} {cs : Array Value} (h : n = w.heap.size) : Blk (w.alloc (.cells cs t)) n t cs := by subst h; exact Blk.new _ _ _
theorem ret_sum {p : Int × Bool} {v : Int} {l : Bool} (h : p = (v, l)) : Ending.returned (.agg #[.int .i64 v, .bool l]) = .returned (.agg #[.int .i64 p.1, .bool p.2]) := by rw [h]

theorem implSumAll_any (A : Option Addr) (n c : Nat) (xs : List Int) (w : World) (hn : xs.length = n) (h : Ints w w.heap.size A xs) (hlen : n ≤ 4294967296) :
    Calls Try.prog 25 #[.slice A n c] w fun e w' => e = .returned (.agg #[.int .i64 (sumAll xs).1, .bool (sumAll xs).2]) ∧ Below w.heap.size w w' := by
  subst hn
  by_cases hbig : 100 < xs.length
  · have e1 : sumAll xs = (0, false) := by simp [sumAll]; omega
    rw [e1]
    clear e1
    go_enter Try.func25, Try.ntmps25
    go_wp2
    refine bodyPost_ret (by simp only [results, Try.results25]; go_simp; all_goals (try exact rfl)) rfl ⟨rfl, (by repeat (first | exact bw_refl _ | assumption | apply bw_alloc | apply bw_drew | apply bw_drewN | (refine bw_trans ?_ (by assumption)) | (refine bw_set ?_ (by simp only [go_sem]; omega) _)))⟩
  · go_enter Try.func25, Try.ntmps25
    go_wp2
    go_loopw [12] (fun i wr => ∃ (k : Nat) (v : Int) (l : Bool), k ≤ xs.length ∧ i = .int .i64 k ∧ (v, l) = sumFold (xs.take k) ∧ (∀ j, j < k → inB (xs.getD j 0) (-1152921504606846976) 1152921504606846976 = true) ∧
        Blk wr w.heap.size 26 #[.int .i64 0, .bool false] ∧ Blk wr (w.heap.size + 1) 26 #[.int .i64 v, .bool l] ∧ Below w.heap.size w wr)
      (fun i _ => xs.length - (intOf i).toNat)
    case atStart => exact ⟨0, 0, false, Nat.zero_le _, rfl, rfl, fun j hj => by omega, (Blk.new _ _ _).alloc _, Blk_at (by simp), (by repeat (first | exact bw_refl _ | assumption | apply bw_alloc | apply bw_drew | apply bw_drewN | (refine bw_trans ?_ (by assumption)) | (refine bw_set ?_ (by simp only [go_sem]; omega) _)))⟩
    case round =>
      obtain ⟨k, v, l, hk, rfl, hv, he, h0, h1, hb0⟩ := hrel
      have HV := Lib.hid hv
      have HE := Lib.hid he
      clear hv he
      have c00 : wr.cell? ⟨w.heap.size, 0, none⟩ = some (.int .i64 0) := h0.cell 0
      have c01 : wr.cell? ⟨w.heap.size, 1, none⟩ = some (.bool false) := h0.cell 1
      have c10 : wr.cell? ⟨w.heap.size + 1, 0, none⟩ = some (.int .i64 v) := h1.cell 0
      have c11 : wr.cell? ⟨w.heap.size + 1, 1, none⟩ = some (.bool l) := h1.cell 1
      have f00 := h0.frozen 0
      have f01 := h0.frozen 1
      by_cases hlt : k < xs.length
      · obtain ⟨b, off, rfl, hbl, hc⟩ := h (by omega)
        have hc1 : wr.cell? ⟨b, off + k, none⟩ = some (.int .i64 (xs.getD k 0)) := (hb0.cell (p := ⟨b, off + k, none⟩) hbl).trans (hc k hlt)
        clear hc
        obtain ⟨x, hx⟩ : ∃ x, xs.getD k 0 = x := ⟨_, rfl⟩
        rw [hx] at hc1
        have HX := Lib.hid hx
        clear hx
        rcases inB_cases x (-1152921504606846976) 1152921504606846976 with ⟨hi, x0, x1⟩ | ⟨hi, -⟩
        · go_wp2_with (first
            | (go_at_call 47; refine (workable_any _ _).mono ?_; rintro e w' ⟨rfl, rfl⟩)
            | (go_at_call 21; refine (implSumAdd_any v l x _).mono ?_; rintro e w1 ⟨rfl, hb⟩; have k0 := h0.below hb h0.lt; have k1 := h1.below hb h1.lt;
               have d10 : w1.cell? ⟨w.heap.size + 1, 0, none⟩ = some (.int .i64 v) := k1.cell 0; have d11 : w1.cell? ⟨w.heap.size + 1, 1, none⟩ = some (.bool l) := k1.cell 1; have g10 := k1.frozen 0; have g11 := k1.frozen 1))
          go_roundw
          case rel =>
            refine ⟨k + 1, _, _, by omega, by go_num, ?_, fun j hj => ?_, (k0.far (p := ⟨w.heap.size + 1, 0, none⟩) (by simp) _).far (p := ⟨w.heap.size + 1, 1, none⟩) (by simp) _, k1.two _ _, (by repeat (first | exact bw_refl _ | assumption | apply bw_alloc | apply bw_drew | apply bw_drewN | (refine bw_trans ?_ (by assumption)) | (refine bw_set ?_ (by simp only [go_sem]; omega) _)))⟩
            · rw [sumFold_snoc _ _ hlt, ← HV.out, HX.out]; rfl
            · by_cases hjk : j = k
              · subst hjk; rw [HX.out]; exact hi
              · exact HE.out j (by omega)
          case measure => simp [intOf]; omega
        · have e1 : sumAll xs = (0, false) := by
            have := allWork_no xs k hlt (by rw [HX.out]; exact hi)
            simp [sumAll, this]
          have E1 := Lib.hid e1
          clear e1
          go_wp2_with (first
            | (go_at_call 47; refine (workable_any _ _).mono ?_; rintro e w' ⟨rfl, rfl⟩))
          refine bodyPost_ret (by simp only [results, Try.results25]; go_simp; all_goals (try exact rfl)) rfl ⟨ret_sum E1.out, (by repeat (first | exact bw_refl _ | assumption | apply bw_alloc | apply bw_drew | apply bw_drewN | (refine bw_trans ?_ (by assumption)) | (refine bw_set ?_ (by simp only [go_sem]; omega) _)))⟩
      · have e1 : (v, l) = sumAll xs := by
          have hkk : k = xs.length := by omega
          have h2 : allWork xs = true := (allWork_iff _).2 fun j hj => HE.out j (by omega)
          have h3 : xs.take k = xs := by rw [hkk]; exact List.take_length
          rw [HV.out, h3]
          simp [sumAll, h2]; omega
        have E1 := Lib.hid e1
        clear e1
        go_wp2
        refine bodyPost_ret (by simp only [results, Try.results25]; go_simp; all_goals (try exact rfl)) rfl ⟨ret_sum E1.out.symm, (by repeat (first | exact bw_refl _ | assumption | apply bw_alloc | apply bw_drew | apply bw_drewN | (refine bw_trans ?_ (by assumption)) | (refine bw_set ?_ (by simp only [go_sem]; omega) _)))⟩
theorem specSumAll_any (A : Option Addr) (n c : Nat) (xs : List Int) (w : World) (hn : xs.length = n) (h : Ints w w.heap.size A xs) (hlen : n ≤ 4294967296) :
    Calls Try.prog 23 #[.slice A n c] w fun e w' => e = .returned (.agg #[.int .i64 (sumAll xs).1, .bool (sumAll xs).2]) ∧ Below w.heap.size w w' := by
  subst hn
  go_enter Try.func23, Try.ntmps23
  go_wp2
  go_loopw [4] (fun i wr => ∃ (k : Nat) (v : Int) (l : Bool), k ≤ xs.length ∧ (0 < k → xs.length ≤ 100) ∧ i = .int .i64 k ∧ (v, l) = sumFold (xs.take k) ∧ (∀ j, j < k → inB (xs.getD j 0) (-1152921504606846976) 1152921504606846976 = true) ∧
      Blk wr w.heap.size 26 #[.int .i64 0, .bool false] ∧ Blk wr (w.heap.size + 1) 26 #[.int .i64 v, .bool l] ∧ Below w.heap.size w wr)
    (fun i _ => xs.length - (intOf i).toNat)
  case atStart => exact ⟨0, 0, false, Nat.zero_le _, fun h => by omega, rfl, rfl, fun j hj => by omega, (Blk.new _ _ _).alloc _, Blk_at (by simp), (by repeat (first | exact bw_refl _ | assumption | apply bw_alloc | apply bw_drew | apply bw_drewN | (refine bw_trans ?_ (by assumption)) | (refine bw_set ?_ (by simp only [go_sem]; omega) _)))⟩
  case round =>
    obtain ⟨k, v, l, hk, h100, rfl, hv, he, h0, h1, hb0⟩ := hrel
    have hvb : -1125899906842624 ≤ v ∧ v ≤ 1125899906842624 := by
      have := sumFold_bd (xs.take k)
      rw [← hv] at this
      exact this
    obtain ⟨v0, v1⟩ := hvb
    have HV := Lib.hid hv
    have HE := Lib.hid he
    have HH := Lib.hid h100
    clear hv he h100
    have c00 : wr.cell? ⟨w.heap.size, 0, none⟩ = some (.int .i64 0) := h0.cell 0
    have c01 : wr.cell? ⟨w.heap.size, 1, none⟩ = some (.bool false) := h0.cell 1
    have c10 : wr.cell? ⟨w.heap.size + 1, 0, none⟩ = some (.int .i64 v) := h1.cell 0
    have c11 : wr.cell? ⟨w.heap.size + 1, 1, none⟩ = some (.bool l) := h1.cell 1
    have f00 := h0.frozen 0
    have f01 := h0.frozen 1
    by_cases hlt : k < xs.length
    · obtain ⟨b, off, rfl, hbl, hc⟩ := h (by omega)
      have hc1 : wr.cell? ⟨b, off + k, none⟩ = some (.int .i64 (xs.getD k 0)) := (hb0.cell (p := ⟨b, off + k, none⟩) hbl).trans (hc k hlt)
      clear hc
      obtain ⟨x, hx⟩ : ∃ x, xs.getD k 0 = x := ⟨_, rfl⟩
      rw [hx] at hc1
      have HX := Lib.hid hx
      clear hx
      by_cases hbig : 100 < xs.length
      · have e1 : sumAll xs = (0, false) := by simp [sumAll]; omega
        have E1 := Lib.hid e1
        clear e1
        go_wp2
        refine bodyPost_ret (by simp only [results, Try.results23]; go_simp; all_goals (try exact rfl)) rfl ⟨ret_sum E1.out, (by repeat (first | exact bw_refl _ | assumption | apply bw_alloc | apply bw_drew | apply bw_drewN | (refine bw_trans ?_ (by assumption)) | (refine bw_set ?_ (by simp only [go_sem]; omega) _)))⟩
      · rcases inB_cases x (-1152921504606846976) 1152921504606846976 with ⟨hi, x0, x1⟩ | ⟨hi, -⟩
        · go_wp2_with (first
            | (go_at_call 44; refine (l1In_any _ _ _ _).mono ?_; rintro e w' ⟨rfl, rfl⟩))
          go_region_with (first
            | (go_at_call 46; refine (l21Add_ok v l x v0 v1 x0 x1 _).mono ?_; rintro e w1 ⟨rfl, hb⟩; have k0 := (h0.drewN 1).below hb h0.lt; have k1 := (h1.drewN 1).below hb h1.lt;
               have d10 : w1.cell? ⟨w.heap.size + 1, 0, none⟩ = some (.int .i64 v) := k1.cell 0; have d11 : w1.cell? ⟨w.heap.size + 1, 1, none⟩ = some (.bool l) := k1.cell 1; have g10 := k1.frozen 0; have g11 := k1.frozen 1))
          all_goals
            go_wp2
            go_roundw
            case rel =>
              refine ⟨k + 1, _, _, by omega, fun _ => by omega, by go_num, ?_, fun j hj => ?_, (k0.far (p := ⟨w.heap.size + 1, 0, none⟩) (by simp) _).far (p := ⟨w.heap.size + 1, 1, none⟩) (by simp) _, k1.two _ _, (by repeat (first | exact bw_refl _ | assumption | apply bw_alloc | apply bw_drew | apply bw_drewN | (refine bw_trans ?_ (by assumption)) | (refine bw_set ?_ (by simp only [go_sem]; omega) _)))⟩
              · rw [sumFold_snoc _ _ hlt, ← HV.out, HX.out]
                simp [sumStep, sumV, sumL, okS, hi, (inB_iff _ _ _).2 ⟨v0, v1⟩]
              · by_cases hjk : j = k
                · subst hjk; rw [HX.out]; exact hi
                · exact HE.out j (by omega)
            case measure => simp [intOf]; omega
        · have e1 : sumAll xs = (0, false) := by
            have := allWork_no xs k hlt (by rw [HX.out]; exact hi)
            simp [sumAll, this]
          have E1 := Lib.hid e1
          clear e1
          go_wp2_with (first
            | (go_at_call 44; refine (l1In_any _ _ _ _).mono ?_; rintro e w' ⟨rfl, rfl⟩))
          refine bodyPost_ret (by simp only [results, Try.results23]; go_simp; all_goals (try exact rfl)) rfl ⟨ret_sum E1.out, (by repeat (first | exact bw_refl _ | assumption | apply bw_alloc | apply bw_drew | apply bw_drewN | (refine bw_trans ?_ (by assumption)) | (refine bw_set ?_ (by simp only [go_sem]; omega) _)))⟩
    · have e1 : (v, l) = sumAll xs := by
        have hkk : k = xs.length := by omega
        have h2 : allWork xs = true := (allWork_iff _).2 fun j hj => HE.out j (by omega)
        have h3 : xs.take k = xs := by rw [hkk]; exact List.take_length
        rw [HV.out, h3]
        rcases Nat.eq_zero_or_pos k with hk0 | hk0
        · have : xs = [] := List.eq_nil_of_length_eq_zero (by omega)
          subst this; rfl
        · have := HH.out hk0
          simp [sumAll, h2]; omega
      have E1 := Lib.hid e1
      clear e1
      go_wp2
      refine bodyPost_ret (by simp only [results, Try.results23]; go_simp; all_goals (try exact rfl)) rfl ⟨ret_sum E1.out.symm, (by repeat (first | exact bw_refl _ | assumption | apply bw_alloc | apply bw_drew | apply bw_drewN | (refine bw_trans ?_ (by assumption)) | (refine bw_set ?_ (by simp only [go_sem]; omega) _)))⟩

theorem walk_FnExactSumAll (A : Option Addr) (n c : Nat) (xs : List Int) (w : World) (h : Ints w w.heap.size A xs) (hn : xs.length = n) (_ : n ≤ c) (_ : c ≤ maxLen) :
    Calls Try.prog 6 #[.slice A n c] w fun e w' => e = .returned (.bool true) ∧ Below w.heap.size w w' := by
  subst hn
  by_cases hbig : 1048576 < xs.length
  · go_enter Try.func6, Try.ntmps6
    go_wp2
    go_ret
    exact ⟨rfl, (by repeat (first | exact bw_refl _ | assumption | apply bw_alloc | apply bw_drew | apply bw_drewN | (refine bw_trans ?_ (by assumption)) | (refine bw_set ?_ (by simp only [go_sem]; omega) _)))⟩
  · have hsame := eqIs_same xs
    go_enter Try.func6, Try.ntmps6
    go_wp2_with fail
    refine (toIntS_any A _ _ xs _ rfl h (by omega)).mono ?_
    rintro e w1 ⟨rfl, r1, b1⟩
    go_wp2_with fail
    refine (specSumAll_any _ _ _ xs _ rfl r1.is (by omega)).mono ?_
    rintro e w2 ⟨rfl, b2⟩
    go_wp2_with fail
    refine (toIntS_any A _ _ xs _ rfl (h.up (by repeat (first | exact bw_refl _ | assumption | apply bw_alloc | apply bw_drew | apply bw_drewN | (refine bw_trans ?_ (by assumption)) | (refine bw_set ?_ (by simp only [go_sem]; omega) _)))) (by omega)).mono ?_
    rintro e w3 ⟨rfl, r3, hb⟩
    (first | (have hq := bcomp hc hf hz hb; clear hc hf hz; obtain ⟨hc, hf, hz⟩ := hq) | (obtain ⟨hc, hf⟩ := bcell hb; have hz := bsize hb))
    simp only [World.size_alloc] at r3
    go_wp2_with fail
    refine (implSumAll_any _ _ _ xs _ rfl r3.is (by omega)).mono ?_
    rintro e w4 ⟨rfl, hb⟩
    have r4 := r3.up hb
    (first | (have hq := bcomp hc hf hz hb; clear hc hf hz; obtain ⟨hc, hf, hz⟩ := hq) | (obtain ⟨hc, hf⟩ := bcell hb; have hz := bsize hb))
    go_wp2_with fail
    refine (eqSum_same _ _ _).mono ?_
    rintro e w5 ⟨rfl, hb⟩
    have r5 := (r4.alloc _).up hb
    (first | (have hq := bcomp hc hf hz hb; clear hc hf hz; obtain ⟨hc, hf, hz⟩ := hq) | (obtain ⟨hc, hf⟩ := bcell hb; have hz := bsize hb))
    go_wp2_with fail
    refine (toIntS_any A _ _ xs _ rfl (h.up (by repeat (first | exact bw_refl _ | assumption | apply bw_alloc | apply bw_drew | apply bw_drewN | (refine bw_trans ?_ (by assumption)) | (refine bw_set ?_ (by simp only [go_sem]; omega) _)))) (by omega)).mono ?_
    rintro e w6 ⟨rfl, r6, hb⟩
    have r7 := r5.up hb
    go_wp2_with fail
    refine (eqIntS_any _ _ _ _ _ _ xs xs _ rfl rfl r7.is r6.is (by omega) (by omega)).mono ?_
    rintro e w7 ⟨rfl, hb⟩
    go_wp2
    go_ret
    exact ⟨rfl, (by repeat (first | exact bw_refl _ | assumption | apply bw_alloc | apply bw_drew | apply bw_drewN | (refine bw_trans ?_ (by assumption)) | (refine bw_set ?_ (by simp only [go_sem]; omega) _)))⟩
end Go.Proofs.Ytmpcoljollkfjaa
