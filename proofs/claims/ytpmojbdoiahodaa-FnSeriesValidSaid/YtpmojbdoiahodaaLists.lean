/- Slices of integers: laws on rows of the call's own, and the contracts of the law package's helpers on them (toIntS, eqIntS, markIntS, heldIntS); condition: lengths of at most 2^32. -/
import Derived.Test.YtpmojbdoiahodaaNum
import Derived.Deep.OwnRows
namespace Go.Proofs.Ytpmojbdoiahodaa
open Go.RowKit
set_option linter.unusedVariables false

theorem info_int : (Try.prog.info? 3).map (fun i => (i.zero, i.size, i.bytes)) = some (some (.int .i64 0), 1, 8) := by kernel_rfl

/-- Block g is a row of integers whose first cells are xs. -/
def Row (w : World) (g : Nat) (xs : List Int) : Prop := ∃ cs : Array Value, w.heap[g]? = some (.cells cs 3 (0, 0)) ∧ ∀ j, j < xs.length → cs[j]? = some (.int .i64 (xs.getD j 0))
section
variable {w w' : World} {g : Nat} {xs : List Int}
theorem Row.lt (h : Row w g xs) : g < w.heap.size := by
  obtain ⟨cs, h, _⟩ := h
  rcases Nat.lt_or_ge g w.heap.size with hlt | hge
  · exact hlt
  · rw [Array.getElem?_eq_none hge] at h; cases h
theorem Row.cell (h : Row w g xs) {j : Nat} (hj : j < xs.length) : w.cell? ⟨g, j, none⟩ = some (.int .i64 (xs.getD j 0)) := by
  obtain ⟨cs, h, hc⟩ := h
  rw [cell_of_row w g j cs 3 (0, 0) h]; exact hc j hj
theorem Row.frozen (h : Row w g xs) (j : Nat) : w.frozen? ⟨g, j, none⟩ = false := by
  obtain ⟨cs, h, _⟩ := h
  simp [World.frozen?, h]
theorem Row.of_block (h : Row w g xs) (hb : w'.heap[g]? = w.heap[g]?) : Row w' g xs := by
  obtain ⟨cs, h, hc⟩ := h
  exact ⟨cs, hb.trans h, hc⟩
theorem Row.drewN (h : Row w g xs) (n : Nat) : Row (w.drewN n) g xs := h
theorem Row.alloc (h : Row w g xs) (o : Obj) : Row (w.alloc o) g xs := h.of_block (Below.heap_alloc w o g h.lt)
theorem Row.below {B : Nat} (h : Row w g xs) (hb : Below B w w') (hg : g < B) : Row w' g xs := h.of_block (hb.block g hg)
theorem Row.far (h : Row w g xs) {p : Addr} (hp : g ≠ p.block) (u : Value) : Row (w.setCell p u) g xs := h.of_block (Below.heap_setCell w p u g hp)
theorem Row.set_ (h : Row w g xs) (k : Nat) (v : Int) : Row (w.setCell ⟨g, k, none⟩ (.int .i64 v)) g (xs.set k v) := by
  obtain ⟨cs, h, hc⟩ := h
  refine ⟨cs.setIfInBounds k (.int .i64 v), by simp [World.setCell, Array.getElem?_modify, h], fun j hj => ?_⟩
  simp only [List.length_set] at hj
  have := hc j hj
  by_cases hk : k = j
  · subst hk
    have hs : k < cs.size := by
      rcases Nat.lt_or_ge k cs.size with h1 | h1
      · exact h1
      · rw [Array.getElem?_eq_none h1] at this; cases this
    simp [hs, List.getD, hj]
  · rw [Array.getElem?_setIfInBounds, if_neg hk, this]
    simp [List.getD, hk]
theorem Row.made (w : World) (n : Nat) : Row (w.alloc (.cells (madeCells #[.int .i64 0] n) 3)) w.heap.size (List.replicate n 0) := by
  refine ⟨_, heap_alloc_new w _, fun j hj => ?_⟩
  simp only [List.length_replicate] at hj
  simp [madeCells, hj, List.getD, Nat.mod_one]
theorem Row.congr {ys : List Int} (h : Row w g xs) (hl : ys.length = xs.length) (he : ∀ j, j < xs.length → ys.getD j 0 = xs.getD j 0) : Row w g ys := by
  obtain ⟨cs, h, hc⟩ := h
  exact ⟨cs, h, fun j hj => by rw [he j (by omega)]; exact hc j (by omega)⟩
theorem Row.ints (h : Row w g xs) {B : Nat} (hB : g < B) : Ints w B (some ⟨g, 0, none⟩) xs := fun _ => ⟨g, 0, rfl, hB, fun j hj => by rw [Nat.zero_add]; exact h.cell hj⟩
theorem size_setCell (w : World) (p : Addr) (v : Value) : (w.setCell p v).heap.size = w.heap.size := by simp [World.setCell]
end
theorem getD_set_ne (ys : List Int) (k j : Nat) (v : Int) (h : j ≠ k) : (ys.set k v).getD j 0 = ys.getD j 0 := by
  simp [List.getD, Ne.symm h]
theorem getD_set_eq (ys : List Int) (k : Nat) (v : Int) (h : k < ys.length) : (ys.set k v).getD k 0 = v := by
  simp [List.getD, h]
theorem list_ext_getD {xs ys : List Int} (hl : xs.length = ys.length) (h : ∀ j, j < xs.length → xs.getD j 0 = ys.getD j 0) : xs = ys := by
  refine List.ext_getElem hl fun i h1 h2 => ?_
  have := h i h1
  simpa [List.getD, List.getElem?_eq_getElem h1, List.getElem?_eq_getElem h2] using this

/-- A slice of the call's own: its block, if it has elements, is from B on. -/
def Own (B : Nat) (w : World) (A : Option Addr) (n c : Nat) (xs : List Int) : Prop := xs.length = n ∧ n ≤ c ∧ (0 < n → ∃ g, A = some ⟨g, 0, none⟩ ∧ B ≤ g ∧ Row w g xs)

theorem toIntS_any (A : Option Addr) (n c : Nat) (xs : List Int) (w : World) (hn : xs.length = n) (h : Ints w w.heap.size A xs) (hlen : n ≤ 4294967296) :
    Calls Try.prog 15 #[.slice A n c] w fun e w' => e = .returned (.slice (some ⟨w.heap.size, 0, none⟩) n n) ∧ Row w' w.heap.size xs ∧ Below w.heap.size w w' := by
  subst hn
  have hmk := run_make_row' (P := Try.prog) 22 3 (.int .i64 0) 8 Try.underlying22 info_int rfl .i64 .i64 xs.length (by omega) (by omega)
  go_enter Try.func15, Try.ntmps15
  go_wp2
  go_loopw [4] (fun i wr => ∃ (k : Nat) (ys : List Int), k ≤ xs.length ∧ i = .int .i64 k ∧ ys.length = xs.length ∧ (∀ j, j < k → ys.getD j 0 = xs.getD j 0) ∧ Row wr w.heap.size ys ∧ Below w.heap.size w wr)
    (fun i _ => xs.length - (intOf i).toNat)
  case atStart => exact ⟨0, List.replicate xs.length 0, Nat.zero_le _, rfl, by simp, fun j hj => by omega, Row.made w _, (by repeat (first | exact bw_refl _ | assumption | apply bw_alloc | apply bw_drew | apply bw_drewN | (refine bw_trans ?_ (by assumption)) | (refine bw_set ?_ (by simp only [go_sem]; omega) _)))⟩
  case round =>
    obtain ⟨k, ys, hk, rfl, hy, he, hR, hb⟩ := hrel
    have HE := Lib.hid he
    have HY := Lib.hid hy
    clear he hy
    by_cases hlt : k < xs.length
    · obtain ⟨b, off, rfl, hbl, hc⟩ := h (by omega)
      have hc1 : wr.cell? ⟨b, off + k, none⟩ = some (.int .i64 (xs.getD k 0)) := (hb.cell (p := ⟨b, off + k, none⟩) hbl).trans (hc k hlt)
      have hc2 := hR.cell (j := k) (by rw [HY.out]; exact hlt)
      have hf2 := hR.frozen k
      clear hc
      obtain ⟨x, hx⟩ : ∃ x, xs.getD k 0 = x := ⟨_, rfl⟩
      rw [hx] at hc1
      have HX := Lib.hid hx
      clear hx
      go_wp2
      go_roundw
      case rel =>
        refine ⟨k + 1, ys.set k x, by omega, by go_num, by simp [HY.out], fun j hj => ?_, hR.set_ k _, hb.setCell (p := ⟨w.heap.size, k, none⟩) (Nat.le_refl _) _⟩
        by_cases hjk : j = k
        · subst hjk; rw [HX.out]; exact getD_set_eq _ _ _ (by rw [HY.out]; exact hlt)
        · rw [getD_set_ne _ _ _ _ hjk]; exact HE.out j (by omega)
      case measure => simp [intOf]; omega
    · have hkk : k = xs.length := by omega
      go_wp2
      go_ret
      exact ⟨rfl, hR.congr HY.out.symm (fun j hj => (HE.out j (by rw [HY.out] at hj; omega)).symm), hb⟩
theorem Ints.up {w w' : World} {A : Option Addr} {xs : List Int} (h : Ints w w.heap.size A xs) (hb : Below w.heap.size w w') : Ints w' w'.heap.size A xs := (h.below hb).more hb.size
theorem Row.up {w w' : World} {g : Nat} {xs : List Int} (h : Row w g xs) (hb : Below w.heap.size w w') : Row w' g xs := h.below hb h.lt
theorem Row.is {w : World} {g : Nat} {xs : List Int} (h : Row w g xs) : Ints w w.heap.size (some ⟨g, 0, none⟩) xs := h.ints h.lt
def eqIs (xs ys : List Int) : Bool := decide (xs = ys)
theorem eqIs_len {xs ys : List Int} (h : xs.length ≠ ys.length) : eqIs xs ys = false := by simp only [eqIs, decide_eq_false_iff_not]; exact fun e => h (by rw [e])
theorem eqIs_same (xs : List Int) : eqIs xs xs = true := by simp [eqIs]
theorem eqIs_at {xs ys : List Int} (k : Nat) (h : xs.getD k 0 ≠ ys.getD k 0) : eqIs xs ys = false := by simp only [eqIs, decide_eq_false_iff_not]; exact fun e => h (by rw [e])
theorem eqIs_all {xs ys : List Int} (hl : xs.length = ys.length) (h : ∀ j, j < xs.length → xs.getD j 0 = ys.getD j 0) : eqIs xs ys = true := by
  rw [list_ext_getD hl h]; exact eqIs_same _
theorem eqIntS_any (A C : Option Addr) (n m c d : Nat) (xs ys : List Int) (w : World) (hn : xs.length = n) (hm : ys.length = m) (h : Ints w w.heap.size A xs) (h' : Ints w w.heap.size C ys) (hlen : n ≤ 4294967296) (hlen' : m ≤ 4294967296) :
    Calls Try.prog 17 #[.slice A n c, .slice C m d] w fun e w' => e = .returned (.bool (eqIs xs ys)) ∧ Below w.heap.size w w' := by
  subst hn hm
  by_cases hl : xs.length = ys.length
  · have hl1 : ((xs.length : Int) != (ys.length : Int)) = false := by simp [hl]
    have HL := Lib.hid hl
    clear hl
    go_enter Try.func17, Try.ntmps17
    go_wp2
    go_loopw [5] (fun i wr => ∃ k : Nat, k ≤ xs.length ∧ i = .int .i64 k ∧ (∀ j, j < k → xs.getD j 0 = ys.getD j 0) ∧ Below w.heap.size w wr)
      (fun i _ => xs.length - (intOf i).toNat)
    case atStart => exact ⟨0, Nat.zero_le _, rfl, fun j hj => by omega, (by repeat (first | exact bw_refl _ | assumption | apply bw_alloc | apply bw_drew | apply bw_drewN | (refine bw_trans ?_ (by assumption)) | (refine bw_set ?_ (by simp only [go_sem]; omega) _)))⟩
    case round =>
      obtain ⟨k, hk, rfl, he, hb⟩ := hrel
      have HE := Lib.hid he
      clear he
      by_cases hlt : k < xs.length
      · have hlt' : k < ys.length := by have := HL.out; omega
        obtain ⟨b, off, rfl, hbl, hc⟩ := h (by omega)
        obtain ⟨b', off', rfl, hbl', hc'⟩ := h' (by omega)
        have hc1 : wr.cell? ⟨b, off + k, none⟩ = some (.int .i64 (xs.getD k 0)) := (hb.cell (p := ⟨b, off + k, none⟩) hbl).trans (hc k hlt)
        have hc2 : wr.cell? ⟨b', off' + k, none⟩ = some (.int .i64 (ys.getD k 0)) := (hb.cell (p := ⟨b', off' + k, none⟩) hbl').trans (hc' k hlt')
        clear hc hc'
        by_cases hq : xs.getD k 0 = ys.getD k 0
        · have hq1 : (xs.getD k 0 != ys.getD k 0) = false := bne_eq_false_iff_eq.2 hq
          have HQ := Lib.hid hq
          clear hq
          obtain ⟨x, hx⟩ : ∃ x, xs.getD k 0 = x := ⟨_, rfl⟩
          obtain ⟨y, hy⟩ : ∃ y, ys.getD k 0 = y := ⟨_, rfl⟩
          rw [hx] at hc1
          rw [hy] at hc2
          rw [hx, hy] at hq1
          have HX := Lib.hid hx
          have HY := Lib.hid hy
          clear hx hy
          go_wp2
          go_quiet (fail)
          go_wp2
          go_roundw
          case rel =>
            refine ⟨k + 1, by omega, by go_num, fun j hj => ?_, (by repeat (first | exact bw_refl _ | assumption | apply bw_alloc | apply bw_drew | apply bw_drewN | (refine bw_trans ?_ (by assumption)) | (refine bw_set ?_ (by simp only [go_sem]; omega) _)))⟩
            by_cases hjk : j = k
            · subst hjk; exact HQ.out
            · exact HE.out j (by omega)
          case measure => simp [intOf]; omega
        · have hq1 : (xs.getD k 0 != ys.getD k 0) = true := bne_iff_ne.2 hq
          have HF := Lib.hid (eqIs_at k hq)
          clear hq
          obtain ⟨x, hx⟩ : ∃ x, xs.getD k 0 = x := ⟨_, rfl⟩
          obtain ⟨y, hy⟩ : ∃ y, ys.getD k 0 = y := ⟨_, rfl⟩
          rw [hx] at hc1
          rw [hy] at hc2
          rw [hx, hy] at hq1
          have HX := Lib.hid hx
          have HY := Lib.hid hy
          clear hx hy
          go_wp2
          go_quiet (fail)
          go_wp2
          go_ret
          exact ⟨ret_bool HF.out.symm, (by repeat (first | exact bw_refl _ | assumption | apply bw_alloc | apply bw_drew | apply bw_drewN | (refine bw_trans ?_ (by assumption)) | (refine bw_set ?_ (by simp only [go_sem]; omega) _)))⟩
      · have hkk : k = xs.length := by omega
        go_wp2
        go_ret
        exact ⟨ret_bool (eqIs_all HL.out (fun j hj => HE.out j (by omega))).symm, hb⟩
  · have hl1 : ((xs.length : Int) != (ys.length : Int)) = true := by simp; omega
    have HF := Lib.hid (eqIs_len hl)
    clear hl
    go_enter Try.func17, Try.ntmps17
    go_wp2
    go_ret
    exact ⟨ret_bool HF.out.symm, (by repeat (first | exact bw_refl _ | assumption | apply bw_alloc | apply bw_drew | apply bw_drewN | (refine bw_trans ?_ (by assumption)) | (refine bw_set ?_ (by simp only [go_sem]; omega) _)))⟩
end Go.Proofs.Ytpmojbdoiahodaa
