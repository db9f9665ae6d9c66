/- The walk of the exact law of PolyStored; no condition. -/
import Derived.Test.YtdnklndemoinaaaPStored
import Derived.Test.YtdnklndemoinaaaSlices
namespace Go.Proofs.Ytdnklndemoinaaa
open Go.RowKit
set_option linter.unusedVariables false
set_option linter.unusedSimpArgs false
set_option maxHeartbeats 1000000

theorem toFormat_any (W P : Int) (w : World) : Calls Try.prog 23 #[.agg #[.int .i64 W, .int .i64 P]] w fun e w' => e = .returned (.agg #[.int .i64 W, .int .i64 P]) ∧ Below w.heap.size w w' := by
  go_enter Try.func23, Try.ntmps23
  go_wp2
  exact bodyPost_ret (v := .agg #[.int .i64 W, .int .i64 P]) (by simp [results, Try.results23, go_sem]) rfl ⟨rfl, (by repeat (first | exact bw_refl _ | assumption | apply bw_alloc | apply bw_drew | apply bw_drewN | (refine bw_trans ?_ (by assumption)) | (refine bw_set ?_ (by simp only [go_sem]; omega) _)))⟩
theorem walk_FnExactPolyStored (W P : Int) (A : Option Addr) (n c : Nat) (xs : List Int) (x : Int) (w : World) (_ : (Lit.int .i64 W).wf = true) (_ : (Lit.int .i64 P).wf = true) (h : Ints w w.heap.size A xs) (hn : xs.length = n) (hc : n ≤ c) (hm : c ≤ maxLen) (_ : (Lit.int .i64 x).wf = true) :
    Calls Try.prog 6 #[.agg #[.int .i64 W, .int .i64 P], .slice A n c, .int .i64 x] w fun e w' => e = .returned (.bool true) ∧ Below w.heap.size w w' := by
  subst hn
  unfold maxLen at hm
  by_cases hbig : 1048576 < xs.length
  · go_enter Try.func6, Try.ntmps6
    go_wp2
    go_ret
    exact ⟨rfl, (by repeat (first | exact bw_refl _ | assumption | apply bw_alloc | apply bw_drew | apply bw_drewN | (refine bw_trans ?_ (by assumption)) | (refine bw_set ?_ (by simp only [go_sem]; omega) _)))⟩
  · obtain ⟨v, hv⟩ : ∃ v, (polyS W P xs x).1 = v := ⟨_, rfl⟩
    obtain ⟨q, hq⟩ : ∃ v, (polyS W P xs x).2 = v := ⟨_, rfl⟩
    have HV := Lib.hid hv
    have HQ := Lib.hid hq
    clear hv hq
    have hlen : xs.length ≤ 4294967296 := by omega
    have K1 := Blk.new w 29 #[.int .i64 W, .int .i64 P]
    have hI := h.up (bw_alloc (bw_refl w) (.cells #[.int .i64 W, .int .i64 P] 29))
    have hbw := bw_alloc (bw_refl w) (.cells #[.int .i64 W, .int .i64 P] 29)
    go_enter Try.func6, Try.ntmps6
    go_wp2_with fail
    refine (toFormat_any W P _).mono ?_
    rintro e w1 ⟨rfl, hb⟩
    replace K1 := K1.kept hb
    replace hI := hI.up hb
    replace hbw := bw_trans hbw hb
    clear hb
    go_wp2_with fail
    refine (toIntS_any A _ _ xs _ rfl hI hlen).mono ?_
    rintro e w2 ⟨rfl, r2, hb⟩
    replace K1 := K1.kept hb
    replace hI := hI.up hb
    replace hbw := bw_trans hbw hb
    clear hb
    go_wp2_with fail
    refine (specPolyStored_any _ _ _ xs W P x _ rfl r2.is hlen).mono ?_
    rintro e w3 ⟨he, hb⟩
    rw [HV.out, HQ.out] at he
    subst he
    replace K1 := K1.kept hb
    replace hI := hI.up hb
    replace hbw := bw_trans hbw hb
    clear hb r2
    obtain ⟨n0, n1, m0, m1⟩ := (⟨K1.cell 0, K1.cell 1, K1.frozen 0, K1.frozen 1⟩ : w3.cell? ⟨w.heap.size, 0, none⟩ = _ ∧ w3.cell? ⟨w.heap.size, 1, none⟩ = _ ∧ w3.frozen? ⟨w.heap.size, 0, none⟩ = _ ∧ w3.frozen? ⟨w.heap.size, 1, none⟩ = _)
    simp at n0 n1
    go_wp2_with fail
    refine (toIntS_any A _ _ xs _ rfl hI hlen).mono ?_
    rintro e w4 ⟨rfl, r4, hb⟩
    replace K1 := K1.kept hb
    replace hI := hI.up hb
    replace hbw := bw_trans hbw hb
    clear hb n0 n1 m0 m1
    have n0 : w4.cell? ⟨w.heap.size, 0, none⟩ = some (.int .i64 W) := K1.cell 0
    have n1 : w4.cell? ⟨w.heap.size, 1, none⟩ = some (.int .i64 P) := K1.cell 1
    go_wp2_with fail
    refine (toFormat_any W P _).mono ?_
    rintro e w5 ⟨rfl, hb⟩
    replace hI := hI.up hb
    replace hbw := bw_trans hbw hb
    replace r4 := r4.up hb
    clear hb n0 n1 K1
    go_wp2_with fail
    refine (implPolyStored_any _ _ _ xs W P x _ rfl r4.is hlen).mono ?_
    rintro e w6 ⟨he, hb⟩
    rw [HV.out, HQ.out] at he
    subst he
    replace hI := hI.up hb
    replace hbw := bw_trans hbw hb
    replace r4 := r4.up hb
    clear hb
    go_wp2_with fail
    refine (toIntS_any A _ _ xs _ rfl hI hlen).mono ?_
    rintro e w7 ⟨rfl, r7, hb⟩
    replace hbw := bw_trans hbw hb
    replace r4 := r4.up hb
    clear hb
    go_wp2_with fail
    refine (eqIntS_any _ _ _ _ _ _ xs xs _ rfl rfl r4.is r7.is hlen hlen).mono ?_
    rintro e w8 ⟨he, hb⟩
    rw [eqIs_same] at he
    subst he
    go_wp2
    go_ret
    exact ⟨ret_bool (by simp), (by repeat (first | exact bw_refl _ | assumption | apply bw_alloc | apply bw_drew | apply bw_drewN | (refine bw_trans ?_ (by assumption)) | (refine bw_set ?_ (by simp only [go_sem]; omega) _)))⟩
end Go.Proofs.Ytdnklndemoinaaa
