/- Rows of knots of the call's own, toKnot, toKnotS; condition: lengths of at most 2^32. -/
import Derived.Test.YtiimaodphhaohaaKn
import Derived.Deep.OwnRows
namespace Go.Proofs.Ytiimaodphhaohaa
open Go.RowKit
set_option linter.unusedVariables false
set_option linter.unusedSimpArgs false

theorem info_knot : (Try.prog.info? 41).map (fun i => (i.zero, i.size, i.bytes)) = some (some (.agg #[.int .i64 0, .int .i64 0]), 2, 16) := by kernel_rfl

/-- Block g is a row of knots whose first cells, two to a knot, are xs. -/
def RowK (w : World) (g : Nat) (xs : List Int) : Prop := ∃ cs : Array Value, w.heap[g]? = some (.cells cs 41 (0, 0)) ∧ ∀ j, j < xs.length → cs[j]? = some (.int .i64 (xs.getD j 0))
section
variable {w w' : World} {g : Nat} {xs : List Int}
theorem RowK.lt (h : RowK w g xs) : g < w.heap.size := by
  obtain ⟨cs, h, _⟩ := h
  rcases Nat.lt_or_ge g w.heap.size with hlt | hge
  · exact hlt
  · rw [Array.getElem?_eq_none hge] at h; cases h
theorem RowK.cell (h : RowK w g xs) {j : Nat} (hj : j < xs.length) : w.cell? ⟨g, j, none⟩ = some (.int .i64 (xs.getD j 0)) := by
  obtain ⟨cs, h, hc⟩ := h
  rw [cell_of_row w g j cs 41 (0, 0) h]; exact hc j hj
theorem RowK.frozen (h : RowK w g xs) (j : Nat) : w.frozen? ⟨g, j, none⟩ = false := by
  obtain ⟨cs, h, _⟩ := h
  simp [World.frozen?, h]
theorem RowK.of_block (h : RowK w g xs) (hb : w'.heap[g]? = w.heap[g]?) : RowK w' g xs := by
  obtain ⟨cs, h, hc⟩ := h
  exact ⟨cs, hb.trans h, hc⟩
theorem RowK.drewN (h : RowK w g xs) (n : Nat) : RowK (w.drewN n) g xs := h
theorem RowK.alloc (h : RowK w g xs) (o : Obj) : RowK (w.alloc o) g xs := h.of_block (Below.heap_alloc w o g h.lt)
theorem RowK.below {B : Nat} (h : RowK w g xs) (hb : Below B w w') (hg : g < B) : RowK w' g xs := h.of_block (hb.block g hg)
theorem RowK.far (h : RowK w g xs) {p : Addr} (hp : g ≠ p.block) (u : Value) : RowK (w.setCell p u) g xs := h.of_block (Below.heap_setCell w p u g hp)
theorem RowK.set_ (h : RowK w g xs) (k : Nat) (v : Int) : RowK (w.setCell ⟨g, k, none⟩ (.int .i64 v)) g (xs.set k v) := by
  obtain ⟨cs, h, hc⟩ := h
  refine ⟨cs.setIfInBounds k (.int .i64 v), by simp [World.setCell, Array.getElem?_modify, h], fun j hj => ?_⟩
  simp only [List.length_set] at hj
  have := hc j hj
  by_cases hk : k = j
  · subst hk
    have hs : k < cs.size := by
      rcases Nat.lt_or_ge k cs.size with h1 | h1
      · exact h1
      · rw [Array.getElem?_eq_none h1] at this; cases this
    simp [hs, List.getD, hj]
  · rw [Array.getElem?_setIfInBounds, if_neg hk, this]
    simp [List.getD, hk]
theorem RowK.made (w : World) (n : Nat) : RowK (w.alloc (.cells (madeCells #[.int .i64 0, .int .i64 0] n) 41)) w.heap.size (List.replicate n 0) := by
  refine ⟨_, heap_alloc_new w _, fun j hj => ?_⟩
  simp only [List.length_replicate] at hj
  have h2 : j % 2 = 0 ∨ j % 2 = 1 := by omega
  rcases h2 with h2 | h2 <;> simp [madeCells, hj, List.getD, h2]
theorem RowK.congr {ys : List Int} (h : RowK w g xs) (hl : ys.length = xs.length) (he : ∀ j, j < xs.length → ys.getD j 0 = xs.getD j 0) : RowK w g ys := by
  obtain ⟨cs, h, hc⟩ := h
  exact ⟨cs, h, fun j hj => by rw [he j (by omega)]; exact hc j (by omega)⟩
theorem RowK.ints (h : RowK w g xs) {B : Nat} (hB : g < B) : Ints w B (some ⟨g, 0, none⟩) xs := fun _ => ⟨g, 0, rfl, hB, fun j hj => by rw [Nat.zero_add]; exact h.cell hj⟩
end
theorem getD_set_ne (ys : List Int) (k j : Nat) (v : Int) (h : j ≠ k) : (ys.set k v).getD j 0 = ys.getD j 0 := by
  simp [List.getD, Ne.symm h]
theorem getD_set_eq (ys : List Int) (k : Nat) (v : Int) (h : k < ys.length) : (ys.set k v).getD k 0 = v := by
  simp [List.getD, h]
theorem list_ext_getD {xs ys : List Int} (hl : xs.length = ys.length) (h : ∀ j, j < xs.length → xs.getD j 0 = ys.getD j 0) : xs = ys := by
  refine List.ext_getElem hl fun i h1 h2 => ?_
  have := h i h1
  simpa [List.getD, List.getElem?_eq_getElem h1, List.getElem?_eq_getElem h2] using this

theorem RowK.up {w w' : World} {g : Nat} {xs : List Int} (h : RowK w g xs) (hb : Below w.heap.size w w') : RowK w' g xs := h.below hb h.lt
theorem RowK.is {w : World} {g : Nat} {xs : List Int} (h : RowK w g xs) : Ints w w.heap.size (some ⟨g, 0, none⟩) xs := h.ints h.lt
theorem Ints.up {w w' : World} {A : Option Addr} {xs : List Int} (h : Ints w w.heap.size A xs) (hb : Below w.heap.size w w') : Ints w' w'.heap.size A xs := (h.below hb).more hb.size
/-- A slice of knots of the call's own. -/
def OwnK (B : Nat) (w : World) (A : Option Addr) (n c : Nat) (xs : List Int) : Prop := xs.length = n * 2 ∧ n ≤ c ∧ (0 < n → ∃ g, A = some ⟨g, 0, none⟩ ∧ B ≤ g ∧ RowK w g xs)
theorem toKnot_any (x y : Int) (w : World) : Calls Try.prog 36 #[.agg #[.int .i64 x, .int .i64 y]] w fun e w' => e = .returned (.agg #[.int .i64 x, .int .i64 y]) ∧ Below w.heap.size w w' := by
  go_enter Try.func36, Try.ntmps36
  go_wp2
  refine bodyPost_ret (by simp only [results, Try.results36]; go_simp; all_goals (first | exact rfl | exact ⟨rfl, rfl⟩ | skip)) rfl ⟨rfl, (by repeat (first | exact bw_refl _ | assumption | apply bw_alloc | apply bw_drew | apply bw_drewN | (refine bw_trans ?_ (by assumption)) | (refine bw_set ?_ (by simp only [go_sem]; omega) _)))⟩
theorem run_make_knots (n : Nat) (hn : n ≤ 4294967296) (w : World) : (Instr.makeSlice 25 (.int .i64 (n : Int)) (.int .i64 (n : Int))).run Try.prog w = .ok (.slice (some ⟨w.heap.size, 0, none⟩) n n) (w.alloc (.cells (madeCells #[.int .i64 0, .int .i64 0] (n * 2)) 41)) := by
  obtain ⟨i, hi, hzz⟩ := Option.map_eq_some_iff.1 info_knot
  simp only [Prod.mk.injEq] at hzz
  obtain ⟨hz, hs, hb⟩ := hzz
  have hs2 : i.size = 2 := hs
  have hb2 : i.bytes = 16 := hb
  have hr := run_make (P := Try.prog) w 25 41 i _ Try.underlying25 hi hz .i64 .i64 n n (by omega) (Int.le_refl _) (by rw [hb2]; omega) (by omega)
  simp only [Int.toNat_natCast, hs2] at hr
  exact hr
theorem toKnotS_any (A : Option Addr) (n c : Nat) (xs : List Int) (w : World) (hn : xs.length = n * 2) (h : Ints w w.heap.size A xs) (hlen : n ≤ 4294967296) :
    Calls Try.prog 15 #[.slice A n c] w fun e w' => e = .returned (.slice (some ⟨w.heap.size, 0, none⟩) n n) ∧ RowK w' w.heap.size xs ∧ Below w.heap.size w w' := by
  have hmk := run_make_knots n hlen
  have HN := Lib.hid hn
  clear hn
  go_enter Try.func15, Try.ntmps15
  go_wp2
  go_loopw [4] (fun i wr => ∃ (k : Nat) (ys : List Int), k ≤ n ∧ i = .int .i64 k ∧ ys.length = xs.length ∧ (∀ j, j < k * 2 → ys.getD j 0 = xs.getD j 0) ∧ RowK wr w.heap.size ys ∧ Below w.heap.size w wr)
    (fun i _ => n - (intOf i).toNat)
  case atStart => exact ⟨0, List.replicate (n * 2) 0, Nat.zero_le _, rfl, by simp [HN.out], fun j hj => by omega, RowK.made w _, (by repeat (first | exact bw_refl _ | assumption | apply bw_alloc | apply bw_drew | apply bw_drewN | (refine bw_trans ?_ (by assumption)) | (refine bw_set ?_ (by simp only [go_sem]; omega) _)))⟩
  case round =>
    obtain ⟨k, ys, hk, rfl, hy, he, hR, hb⟩ := hrel
    have HE := Lib.hid he
    have HY := Lib.hid hy
    clear he hy
    by_cases hlt : k < n
    · obtain ⟨b, off, rfl, hbl, hc⟩ := h (by rw [HN.out]; omega)
      have hc1 : wr.cell? ⟨b, off + k * 2, none⟩ = some (.int .i64 (xs.getD (k * 2) 0)) := (hb.cell (p := ⟨b, off + k * 2, none⟩) hbl).trans (hc (k * 2) (by rw [HN.out]; omega))
      have hc2 : wr.cell? ⟨b, off + k * 2 + 1, none⟩ = some (.int .i64 (xs.getD (k * 2 + 1) 0)) := (hb.cell (p := ⟨b, off + k * 2 + 1, none⟩) hbl).trans (hc (k * 2 + 1) (by rw [HN.out]; omega))
      have hd1 := hR.cell (j := k * 2) (by rw [HY.out, HN.out]; omega)
      have hd2 := hR.cell (j := k * 2 + 1) (by rw [HY.out, HN.out]; omega)
      have hf1 := hR.frozen (k * 2)
      have hf2 := hR.frozen (k * 2 + 1)
      clear hc
      obtain ⟨x, hx⟩ : ∃ x, xs.getD (k * 2) 0 = x := ⟨_, rfl⟩
      obtain ⟨y, hy⟩ : ∃ x, xs.getD (k * 2 + 1) 0 = x := ⟨_, rfl⟩
      rw [hx] at hc1
      rw [hy] at hc2
      have HX := Lib.hid hx
      have HY2 := Lib.hid hy
      clear hx hy
      go_wp2_with fail
      refine (toKnot_any x y _).mono ?_
      rintro e w2 ⟨rfl, hb2⟩
      have hd1 := cell_keep hb2 hd1
      have hd2 := cell_keep hb2 hd2
      have hR2 := hR.up hb2
      have hf1 := hR2.frozen (k * 2)
      have hf2 := hR2.frozen (k * 2 + 1)
      go_wp2
      go_roundw
      case rel =>
        refine ⟨k + 1, (ys.set (k * 2) x).set (k * 2 + 1) y, by omega, by go_num, by simp [HY.out], fun j hj => ?_, (hR2.set_ (k * 2) _).set_ (k * 2 + 1) _, bw_set (bw_set (bw_trans hb hb2) (Nat.le_refl _) _) (Nat.le_refl _) _⟩
        have hl1 : k * 2 + 1 < ys.length := by rw [HY.out, HN.out]; omega
        by_cases hj1 : j = k * 2 + 1
        · subst hj1; rw [HY2.out]; exact getD_set_eq _ _ _ (by simpa using hl1)
        · rw [getD_set_ne _ _ _ _ hj1]
          by_cases hj0 : j = k * 2
          · subst hj0; rw [HX.out]; exact getD_set_eq _ _ _ (by omega)
          · rw [getD_set_ne _ _ _ _ hj0]; exact HE.out j (by omega)
      case measure => simp [intOf]; omega
    · have hkk : k = n := by omega
      go_wp2
      go_ret
      exact ⟨rfl, hR.congr HY.out.symm (fun j hj => (HE.out j (by rw [HY.out, HN.out] at hj; omega)).symm), hb⟩
end Go.Proofs.Ytiimaodphhaohaa
