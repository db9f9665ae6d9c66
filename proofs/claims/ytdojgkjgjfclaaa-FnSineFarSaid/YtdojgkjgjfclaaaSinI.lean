/- The program's spans of sines and cosines; condition: an angle of an eighth. -/
import Derived.Test.YtdojgkjgjfclaaaSin
import Derived.Test.YtdojgkjgjfclaaaAnyInv
namespace Go.Proofs.Ytdojgkjgjfclaaa
open Go.RowKit
set_option linter.unusedVariables false
set_option linter.unusedSimpArgs false
set_option maxHeartbeats 2000000

/-- A variable of two integers of its own, made or not, written or not. -/
def Thr (t : TypeId) (B : Nat) (w : World) (la ls : Bool) (ta : Value) (p q : Int) : Prop := la = true → ∃ (g : Nat) (m n : Int), ta = .pointer (some ⟨g, 0, none⟩) ∧ B ≤ g ∧ Blk w g t #[.int .i64 m, .int .i64 n] ∧ (ls = true → m = p ∧ n = q)
theorem Thr.up {t : TypeId} {B : Nat} {w w' : World} {la ls : Bool} {ta : Value} {p q : Int} (h : Thr t B w la ls ta p q) (hb : Below w.heap.size w w') : Thr t B w' la ls ta p q := fun hl => by
  obtain ⟨g, m, n, e, hB, hk, hs⟩ := h hl
  exact ⟨g, m, n, e, hB, hk.up hb, hs⟩
theorem Thr.far {t : TypeId} {B g : Nat} {w : World} {la ls : Bool} {ta : Value} {p q : Int} (h : Thr t B w la ls ta p q) (hg : la = true → ta ≠ .pointer (some ⟨g, 0, none⟩)) (u v : Value) : Thr t B ((w.setCell ⟨g, 0, none⟩ u).setCell ⟨g, 1, none⟩ v) la ls ta p q := fun hl => by
  obtain ⟨g', m, n, e, hB, hk, hs⟩ := h hl
  have hne : g' ≠ g := fun e2 => hg hl (by rw [e, e2])
  exact ⟨g', m, n, e, hB, (hk.far (p := ⟨g, 0, none⟩) hne u).far (p := ⟨g, 1, none⟩) hne v, hs⟩
theorem Thr.old {t : TypeId} {B : Nat} {w : World} {la ls : Bool} {ta : Value} {p q : Int} (h : Thr t B w la ls ta p q) (hl : la = true) : ta ≠ .pointer (some ⟨w.heap.size, 0, none⟩) := by
  obtain ⟨g, m, n, e, hB, hk, hs⟩ := h hl
  rw [e]
  intro e2
  have := hk.lt
  injection e2 with e2
  injection e2 with e2
  injection e2 with e2
  omega
def agg2 (x y : Int) : Value := .agg #[.int .i64 x, .int .i64 y]
structure SI (t : TypeId) (wb : World) (x y b0 b1 c0 c1 d0 d1 : Int) (L : Nat → Bool) (tm : Nat → Value) (w : World) : Prop where
  bel : Below wb.heap.size wb w
  e0 : L 0 = true → tm 16 = agg2 x y
  e1 : L 1 = true → tm 17 = agg2 b0 b1
  e2 : L 2 = true → tm 18 = agg2 x y
  e3 : L 3 = true → tm 19 = agg2 c0 c1
  e4 : L 4 = true → tm 20 = agg2 x y
  e5 : L 5 = true → tm 21 = agg2 d0 d1
  t4 : Thr t wb.heap.size w (L 6) (L 9) (tm 4) b0 b1
  t5 : Thr t wb.heap.size w (L 7) (L 10) (tm 5) c0 c1
  t6 : Thr t wb.heap.size w (L 8) (L 11) (tm 6) d0 d1
  n45 : L 6 = true → L 7 = true → tm 4 ≠ tm 5
  n46 : L 6 = true → L 8 = true → tm 4 ≠ tm 6
  n56 : L 7 = true → L 8 = true → tm 5 ≠ tm 6
  o9 : L 9 = true → L 6 = true
  o10 : L 10 = true → L 7 = true
  o11 : L 11 = true → L 8 = true
section
variable {t : TypeId} {wb w w' : World} {x y b0 b1 c0 c1 d0 d1 : Int} {L : Nat → Bool} {tm : Nat → Value}
theorem SI.up (h : SI t wb x y b0 b1 c0 c1 d0 d1 L tm w) (hb : Below w.heap.size w w') : SI t wb x y b0 b1 c0 c1 d0 d1 L tm w' :=
  ⟨bw_trans h.bel hb, h.e0, h.e1, h.e2, h.e3, h.e4, h.e5, h.t4.up hb, h.t5.up hb, h.t6.up hb, h.n45, h.n46, h.n56, h.o9, h.o10, h.o11⟩
def updL (L : Nat → Bool) (i : Nat) : Nat → Bool := fun j => if j = i then true else L j
def updT (tm : Nat → Value) (d : Option Nat) (v : Value) : Nat → Value := fun k => if d = some k then v else tm k
theorem SI.val0 (h : SI t wb x y b0 b1 c0 c1 d0 d1 L tm w) : SI t wb x y b0 b1 c0 c1 d0 d1 (updL L 0) (updT tm (some 16) (agg2 x y)) w := by
  unfold updL updT
  constructor <;> (try simp) <;> first | exact h.bel | exact h.e0 | exact h.e1 | exact h.e2 | exact h.e3 | exact h.e4 | exact h.e5 | exact h.t4 | exact h.t5 | exact h.t6 | exact h.n45 | exact h.n46 | exact h.n56 | exact h.o9 | exact h.o10 | exact h.o11
theorem SI.val1 (h : SI t wb x y b0 b1 c0 c1 d0 d1 L tm w) : SI t wb x y b0 b1 c0 c1 d0 d1 (updL L 1) (updT tm (some 17) (agg2 b0 b1)) w := by
  unfold updL updT
  constructor <;> (try simp) <;> first | exact h.bel | exact h.e0 | exact h.e1 | exact h.e2 | exact h.e3 | exact h.e4 | exact h.e5 | exact h.t4 | exact h.t5 | exact h.t6 | exact h.n45 | exact h.n46 | exact h.n56 | exact h.o9 | exact h.o10 | exact h.o11
theorem SI.val2 (h : SI t wb x y b0 b1 c0 c1 d0 d1 L tm w) : SI t wb x y b0 b1 c0 c1 d0 d1 (updL L 2) (updT tm (some 18) (agg2 x y)) w := by
  unfold updL updT
  constructor <;> (try simp) <;> first | exact h.bel | exact h.e0 | exact h.e1 | exact h.e2 | exact h.e3 | exact h.e4 | exact h.e5 | exact h.t4 | exact h.t5 | exact h.t6 | exact h.n45 | exact h.n46 | exact h.n56 | exact h.o9 | exact h.o10 | exact h.o11
theorem SI.val3 (h : SI t wb x y b0 b1 c0 c1 d0 d1 L tm w) : SI t wb x y b0 b1 c0 c1 d0 d1 (updL L 3) (updT tm (some 19) (agg2 c0 c1)) w := by
  unfold updL updT
  constructor <;> (try simp) <;> first | exact h.bel | exact h.e0 | exact h.e1 | exact h.e2 | exact h.e3 | exact h.e4 | exact h.e5 | exact h.t4 | exact h.t5 | exact h.t6 | exact h.n45 | exact h.n46 | exact h.n56 | exact h.o9 | exact h.o10 | exact h.o11
theorem SI.val4 (h : SI t wb x y b0 b1 c0 c1 d0 d1 L tm w) : SI t wb x y b0 b1 c0 c1 d0 d1 (updL L 4) (updT tm (some 20) (agg2 x y)) w := by
  unfold updL updT
  constructor <;> (try simp) <;> first | exact h.bel | exact h.e0 | exact h.e1 | exact h.e2 | exact h.e3 | exact h.e4 | exact h.e5 | exact h.t4 | exact h.t5 | exact h.t6 | exact h.n45 | exact h.n46 | exact h.n56 | exact h.o9 | exact h.o10 | exact h.o11
theorem SI.val5 (h : SI t wb x y b0 b1 c0 c1 d0 d1 L tm w) : SI t wb x y b0 b1 c0 c1 d0 d1 (updL L 5) (updT tm (some 21) (agg2 d0 d1)) w := by
  unfold updL updT
  constructor <;> (try simp) <;> first | exact h.bel | exact h.e0 | exact h.e1 | exact h.e2 | exact h.e3 | exact h.e4 | exact h.e5 | exact h.t4 | exact h.t5 | exact h.t6 | exact h.n45 | exact h.n46 | exact h.n56 | exact h.o9 | exact h.o10 | exact h.o11
theorem SI.new6 (h : SI t wb x y b0 b1 c0 c1 d0 d1 L tm w) (hL : L 6 = false) (z : Nat × Nat → Obj) (hz : z (0, 0) = .cells #[.int .i64 0, .int .i64 0] t (0, 0)) : SI t wb x y b0 b1 c0 c1 d0 d1 (updL L 6) (updT tm (some 4) (.pointer (some ⟨w.heap.size, 0, none⟩))) (w.alloc (.cells #[.int .i64 0, .int .i64 0] t)) := by
  have hb := bw_alloc (bw_refl w) (.cells #[.int .i64 0, .int .i64 0] t)
  have hold4 := h.t4.old
  have hold5 := h.t5.old
  have hold6 := h.t6.old
  have hsz := h.bel.size
  have hnew : Thr t wb.heap.size (w.alloc (.cells #[.int .i64 0, .int .i64 0] t)) true (L 9) (.pointer (some ⟨w.heap.size, 0, none⟩)) b0 b1 := fun _ => ⟨w.heap.size, 0, 0, rfl, hsz, Blk.new _ _ _, fun hs => by have := h.o9 hs; rw [hL] at this; cases this⟩
  replace h := h.up hb
  unfold updL updT
  constructor <;> (try simp) <;> first | exact hnew | exact fun hl => (hold4 hl).symm | exact fun hl => (hold5 hl).symm | exact fun hl => (hold6 hl).symm | exact fun hl => hold4 hl | exact fun hl => hold5 hl | exact fun hl => hold6 hl | exact h.bel | exact h.e0 | exact h.e1 | exact h.e2 | exact h.e3 | exact h.e4 | exact h.e5 | exact h.t4 | exact h.t5 | exact h.t6 | exact h.n45 | exact h.n46 | exact h.n56 | exact h.o9 | exact h.o10 | exact h.o11
theorem SI.new7 (h : SI t wb x y b0 b1 c0 c1 d0 d1 L tm w) (hL : L 7 = false) (z : Nat × Nat → Obj) (hz : z (0, 0) = .cells #[.int .i64 0, .int .i64 0] t (0, 0)) : SI t wb x y b0 b1 c0 c1 d0 d1 (updL L 7) (updT tm (some 5) (.pointer (some ⟨w.heap.size, 0, none⟩))) (w.alloc (.cells #[.int .i64 0, .int .i64 0] t)) := by
  have hb := bw_alloc (bw_refl w) (.cells #[.int .i64 0, .int .i64 0] t)
  have hold4 := h.t4.old
  have hold5 := h.t5.old
  have hold6 := h.t6.old
  have hsz := h.bel.size
  have hnew : Thr t wb.heap.size (w.alloc (.cells #[.int .i64 0, .int .i64 0] t)) true (L 10) (.pointer (some ⟨w.heap.size, 0, none⟩)) c0 c1 := fun _ => ⟨w.heap.size, 0, 0, rfl, hsz, Blk.new _ _ _, fun hs => by have := h.o10 hs; rw [hL] at this; cases this⟩
  replace h := h.up hb
  unfold updL updT
  constructor <;> (try simp) <;> first | exact hnew | exact fun hl => (hold4 hl).symm | exact fun hl => (hold5 hl).symm | exact fun hl => (hold6 hl).symm | exact fun hl => hold4 hl | exact fun hl => hold5 hl | exact fun hl => hold6 hl | exact h.bel | exact h.e0 | exact h.e1 | exact h.e2 | exact h.e3 | exact h.e4 | exact h.e5 | exact h.t4 | exact h.t5 | exact h.t6 | exact h.n45 | exact h.n46 | exact h.n56 | exact h.o9 | exact h.o10 | exact h.o11
theorem SI.new8 (h : SI t wb x y b0 b1 c0 c1 d0 d1 L tm w) (hL : L 8 = false) (z : Nat × Nat → Obj) (hz : z (0, 0) = .cells #[.int .i64 0, .int .i64 0] t (0, 0)) : SI t wb x y b0 b1 c0 c1 d0 d1 (updL L 8) (updT tm (some 6) (.pointer (some ⟨w.heap.size, 0, none⟩))) (w.alloc (.cells #[.int .i64 0, .int .i64 0] t)) := by
  have hb := bw_alloc (bw_refl w) (.cells #[.int .i64 0, .int .i64 0] t)
  have hold4 := h.t4.old
  have hold5 := h.t5.old
  have hold6 := h.t6.old
  have hsz := h.bel.size
  have hnew : Thr t wb.heap.size (w.alloc (.cells #[.int .i64 0, .int .i64 0] t)) true (L 11) (.pointer (some ⟨w.heap.size, 0, none⟩)) d0 d1 := fun _ => ⟨w.heap.size, 0, 0, rfl, hsz, Blk.new _ _ _, fun hs => by have := h.o11 hs; rw [hL] at this; cases this⟩
  replace h := h.up hb
  unfold updL updT
  constructor <;> (try simp) <;> first | exact hnew | exact fun hl => (hold4 hl).symm | exact fun hl => (hold5 hl).symm | exact fun hl => (hold6 hl).symm | exact fun hl => hold4 hl | exact fun hl => hold5 hl | exact fun hl => hold6 hl | exact h.bel | exact h.e0 | exact h.e1 | exact h.e2 | exact h.e3 | exact h.e4 | exact h.e5 | exact h.t4 | exact h.t5 | exact h.t6 | exact h.n45 | exact h.n46 | exact h.n56 | exact h.o9 | exact h.o10 | exact h.o11
theorem SI.set9 (h : SI t wb x y b0 b1 c0 c1 d0 d1 L tm w) (ha : L 6 = true) {g : Nat} (eg : tm 4 = .pointer (some ⟨g, 0, none⟩)) : SI t wb x y b0 b1 c0 c1 d0 d1 (updL L 9) (updT tm none undef) ((w.setCell ⟨g, 0, none⟩ (.int .i64 b0)).setCell ⟨g, 1, none⟩ (.int .i64 b1)) := by
  obtain ⟨g', m, n, e, hB, hk, hs⟩ := h.t4 ha
  have hgg : g' = g := by rw [e] at eg; injection eg with eg; injection eg with eg; injection eg
  subst hgg
  have hset : Thr t wb.heap.size ((w.setCell ⟨g', 0, none⟩ (.int .i64 b0)).setCell ⟨g', 1, none⟩ (.int .i64 b1)) (L 6) true (tm 4) b0 b1 := fun _ => ⟨g', b0, b1, e, hB, hk.two _ _, fun _ => ⟨rfl, rfl⟩⟩
  have hf5 := h.t5.far (g := g') (fun hl => by rw [← eg]; exact fun e => h.n45 ha hl e.symm) (.int .i64 b0) (.int .i64 b1)
  have hf6 := h.t6.far (g := g') (fun hl => by rw [← eg]; exact fun e => h.n46 ha hl e.symm) (.int .i64 b0) (.int .i64 b1)
  have hbel : Below wb.heap.size wb ((w.setCell ⟨g', 0, none⟩ (.int .i64 b0)).setCell ⟨g', 1, none⟩ (.int .i64 b1)) := bw_set (bw_set h.bel (p := ⟨g', 0, none⟩) hB _) (p := ⟨g', 1, none⟩) hB _
  unfold updL updT
  constructor <;> (try simp) <;> first | exact hset | exact hf5 | exact hf6 | exact hbel | exact ha | exact h.bel | exact h.e0 | exact h.e1 | exact h.e2 | exact h.e3 | exact h.e4 | exact h.e5 | exact h.t4 | exact h.t5 | exact h.t6 | exact h.n45 | exact h.n46 | exact h.n56 | exact h.o9 | exact h.o10 | exact h.o11
theorem SI.set10 (h : SI t wb x y b0 b1 c0 c1 d0 d1 L tm w) (ha : L 7 = true) {g : Nat} (eg : tm 5 = .pointer (some ⟨g, 0, none⟩)) : SI t wb x y b0 b1 c0 c1 d0 d1 (updL L 10) (updT tm none undef) ((w.setCell ⟨g, 0, none⟩ (.int .i64 c0)).setCell ⟨g, 1, none⟩ (.int .i64 c1)) := by
  obtain ⟨g', m, n, e, hB, hk, hs⟩ := h.t5 ha
  have hgg : g' = g := by rw [e] at eg; injection eg with eg; injection eg with eg; injection eg
  subst hgg
  have hset : Thr t wb.heap.size ((w.setCell ⟨g', 0, none⟩ (.int .i64 c0)).setCell ⟨g', 1, none⟩ (.int .i64 c1)) (L 7) true (tm 5) c0 c1 := fun _ => ⟨g', c0, c1, e, hB, hk.two _ _, fun _ => ⟨rfl, rfl⟩⟩
  have hf4 := h.t4.far (g := g') (fun hl => by rw [← eg]; exact h.n45 hl ha) (.int .i64 c0) (.int .i64 c1)
  have hf6 := h.t6.far (g := g') (fun hl => by rw [← eg]; exact fun e => h.n56 ha hl e.symm) (.int .i64 c0) (.int .i64 c1)
  have hbel : Below wb.heap.size wb ((w.setCell ⟨g', 0, none⟩ (.int .i64 c0)).setCell ⟨g', 1, none⟩ (.int .i64 c1)) := bw_set (bw_set h.bel (p := ⟨g', 0, none⟩) hB _) (p := ⟨g', 1, none⟩) hB _
  unfold updL updT
  constructor <;> (try simp) <;> first | exact hset | exact hf4 | exact hf6 | exact hbel | exact ha | exact h.bel | exact h.e0 | exact h.e1 | exact h.e2 | exact h.e3 | exact h.e4 | exact h.e5 | exact h.t4 | exact h.t5 | exact h.t6 | exact h.n45 | exact h.n46 | exact h.n56 | exact h.o9 | exact h.o10 | exact h.o11
theorem SI.set11 (h : SI t wb x y b0 b1 c0 c1 d0 d1 L tm w) (ha : L 8 = true) {g : Nat} (eg : tm 6 = .pointer (some ⟨g, 0, none⟩)) : SI t wb x y b0 b1 c0 c1 d0 d1 (updL L 11) (updT tm none undef) ((w.setCell ⟨g, 0, none⟩ (.int .i64 d0)).setCell ⟨g, 1, none⟩ (.int .i64 d1)) := by
  obtain ⟨g', m, n, e, hB, hk, hs⟩ := h.t6 ha
  have hgg : g' = g := by rw [e] at eg; injection eg with eg; injection eg with eg; injection eg
  subst hgg
  have hset : Thr t wb.heap.size ((w.setCell ⟨g', 0, none⟩ (.int .i64 d0)).setCell ⟨g', 1, none⟩ (.int .i64 d1)) (L 8) true (tm 6) d0 d1 := fun _ => ⟨g', d0, d1, e, hB, hk.two _ _, fun _ => ⟨rfl, rfl⟩⟩
  have hf4 := h.t4.far (g := g') (fun hl => by rw [← eg]; exact h.n46 hl ha) (.int .i64 d0) (.int .i64 d1)
  have hf5 := h.t5.far (g := g') (fun hl => by rw [← eg]; exact h.n56 hl ha) (.int .i64 d0) (.int .i64 d1)
  have hbel : Below wb.heap.size wb ((w.setCell ⟨g', 0, none⟩ (.int .i64 d0)).setCell ⟨g', 1, none⟩ (.int .i64 d1)) := bw_set (bw_set h.bel (p := ⟨g', 0, none⟩) hB _) (p := ⟨g', 1, none⟩) hB _
  unfold updL updT
  constructor <;> (try simp) <;> first | exact hset | exact hf4 | exact hf5 | exact hbel | exact ha | exact h.bel | exact h.e0 | exact h.e1 | exact h.e2 | exact h.e3 | exact h.e4 | exact h.e5 | exact h.t4 | exact h.t5 | exact h.t6 | exact h.n45 | exact h.n46 | exact h.n56 | exact h.o9 | exact h.o10 | exact h.o11
end
theorem implSineSpan_ok (a : Int) (h0 : 0 ≤ a) (h1 : a ≤ 8192) (w : World) : Calls Try.prog 17 #[.int .i64 a] w (SineSpanPost a w) := by
  have l0 := Blk.new w 29 #[.int .i64 0, .int .i64 0]
  have hn0 : ¬ a < 0 := by omega
  have hn1 : ¬ 8192 < a := by omega
  obtain ⟨A0, A1, A2⟩ := arc_bd h0 h1
  have M0 := implRad_ok a h0 h1
  unfold implRadPost at M0
  unfold SineSpanPost sinLow sinHigh
  generalize arcLow a = x at *
  generalize arcHigh a = y at *
  have M1 := implPart_ok x y 3 6 A0 A1 A2 (by decide) (by decide) (by decide)
  obtain ⟨⟨p10, p11⟩, q10, q11⟩ := part_bd A0 A1 A2 3 6 (by decide)
  unfold implPartPost at M1
  generalize partL x y 3 6 = b0 at *
  generalize partH x y 3 6 = b1 at *
  have M2 := implPart_ok x y 5 120 A0 A1 A2 (by decide) (by decide) (by decide)
  obtain ⟨⟨p20, p21⟩, q20, q21⟩ := part_bd A0 A1 A2 5 120 (by decide)
  unfold implPartPost at M2
  generalize partL x y 5 120 = c0 at *
  generalize partH x y 5 120 = c1 at *
  have M3 := implPart_ok x y 7 5040 A0 A1 A2 (by decide) (by decide) (by decide)
  obtain ⟨⟨p30, p31⟩, q30, q31⟩ := part_bd A0 A1 A2 7 5040 (by decide)
  unfold implPartPost at M3
  generalize partL x y 7 5040 = d0 at *
  generalize partH x y 7 5040 = d1 at *
  go_enter Try.func17, Try.ntmps17
  go_wp2_with fail
  refine (M0 _).mono ?_
  rintro e w1 ⟨rfl, hb⟩
  replace l0 := l0.up hb
  have hw1 : Below w.heap.size w (w1.alloc (.cells #[.int .i64 x, .int .i64 y] 29)) := (by repeat (first | exact bw_refl _ | assumption | apply bw_alloc | apply bw_drew | apply bw_drewN | (refine bw_trans ?_ (by assumption)) | (refine bw_set ?_ (by simp only [go_sem]; omega) _)))
  clear hb M0
  replace l0 := l0.alloc (.cells #[.int .i64 x, .int .i64 y] 29)
  have l1 := Blk.new w1 29 #[.int .i64 x, .int .i64 y]
  obtain ⟨g1, hg1⟩ : ∃ g, w1.heap.size = g := ⟨_, rfl⟩
  rw [hg1] at l1
  go_upto_region 4 with fail
  generalize w1.alloc (.cells #[.int .i64 x, .int .i64 y] 29) = W at *
  clear hg1 w1
  have H := Lib.hid (show (_ ∧ _ ∧ _ ∧ _ ∧ _ ∧ _) ∧ (_ ∧ _ ∧ _ ∧ _ ∧ _ ∧ _) from ⟨⟨p10, p11, p20, p21, p30, p31⟩, q10, q11, q20, q21, q30, q31⟩)
  clear p10 p11 p20 p21 p30 p31 q10 q11 q20 q21 q30 q31
  refine wp_region_inv (m := 12) (ks := [16, 17, 18, 19, 20, 21, 4, 5, 6]) (A := ?A) (I := fun L tm w' => SI 29 W x y b0 b1 c0 c1 d0 d1 L tm w') (by kernel_rfl) (by kernel_rfl) (by kernel_rfl) ?hA ?h0 ?steps ?done
  case hA => (intro tm; simp only [over, List.foldl_cons, List.foldl_nil, List.setIfInBounds_toArray, List.set_cons_zero, List.set_cons_succ]; exact rfl)
  case h0 => exact fun tm => ⟨bw_drew (bw_refl W), fun h => (by cases h), fun h => (by cases h), fun h => (by cases h), fun h => (by cases h), fun h => (by cases h), fun h => (by cases h), fun h => (by cases h), fun h => (by cases h), fun h => (by cases h), fun h => (by cases h), fun h => (by cases h), fun h => (by cases h), fun h => (by cases h), fun h => (by cases h), fun h => (by cases h)⟩
  case steps =>
    refine StepsI.cons (by (simp only [List.getElem?_toArray, List.getElem?_cons_zero]; rfl)) (fun K tm wc L hL hpre hI hK => ?_) ?_
    · have k1 := l1.up hI.bel
      obtain ⟨r0, r1, -, -⟩ := k1.rd2
      clear k1
      go_simp
      exact hK.out _ _ hI.val0
    refine StepsI.cons (by (simp only [List.getElem?_toArray, List.getElem?_cons_succ, List.getElem?_cons_zero]; rfl)) (fun K tm wc L hL hpre hI hK => ?_) ?_
    · have ex := hI.e0 (hpre 0 (by kernel_rfl))
      unfold agg2 at ex
      go_simp
      refine (M1 _).mono ?_
      rintro e w2 ⟨rfl, hb⟩
      (try go_wp2_with fail)
      have z := hK.out _ _ (hI.up hb).val1
      simp only [ex, Act.put, List.setIfInBounds_toArray, List.set_cons_zero, List.set_cons_succ] at z ⊢
      exact z
    refine StepsI.cons (by (simp only [List.getElem?_toArray, List.getElem?_cons_succ, List.getElem?_cons_zero]; rfl)) (fun K tm wc L hL hpre hI hK => ?_) ?_
    · have k1 := l1.up hI.bel
      obtain ⟨r0, r1, -, -⟩ := k1.rd2
      clear k1
      go_simp
      exact hK.out _ _ hI.val2
    refine StepsI.cons (by (simp only [List.getElem?_toArray, List.getElem?_cons_succ, List.getElem?_cons_zero]; rfl)) (fun K tm wc L hL hpre hI hK => ?_) ?_
    · have ex := hI.e2 (hpre 2 (by kernel_rfl))
      unfold agg2 at ex
      go_simp
      refine (M2 _).mono ?_
      rintro e w2 ⟨rfl, hb⟩
      (try go_wp2_with fail)
      have z := hK.out _ _ (hI.up hb).val3
      simp only [ex, Act.put, List.setIfInBounds_toArray, List.set_cons_zero, List.set_cons_succ] at z ⊢
      exact z
    refine StepsI.cons (by (simp only [List.getElem?_toArray, List.getElem?_cons_succ, List.getElem?_cons_zero]; rfl)) (fun K tm wc L hL hpre hI hK => ?_) ?_
    · have k1 := l1.up hI.bel
      obtain ⟨r0, r1, -, -⟩ := k1.rd2
      clear k1
      go_simp
      exact hK.out _ _ hI.val4
    refine StepsI.cons (by (simp only [List.getElem?_toArray, List.getElem?_cons_succ, List.getElem?_cons_zero]; rfl)) (fun K tm wc L hL hpre hI hK => ?_) ?_
    · have ex := hI.e4 (hpre 4 (by kernel_rfl))
      unfold agg2 at ex
      go_simp
      refine (M3 _).mono ?_
      rintro e w2 ⟨rfl, hb⟩
      (try go_wp2_with fail)
      have z := hK.out _ _ (hI.up hb).val5
      simp only [ex, Act.put, List.setIfInBounds_toArray, List.set_cons_zero, List.set_cons_succ] at z ⊢
      exact z
    refine StepsI.cons (by (simp only [List.getElem?_toArray, List.getElem?_cons_succ, List.getElem?_cons_zero]; rfl)) (fun K tm wc L hL hpre hI hK => ?_) ?_
    · go_simp
      exact hK.out _ _ (hI.new6 hL (fun z => .cells #[.int .i64 0, .int .i64 0] 29 z) rfl)
    refine StepsI.cons (by (simp only [List.getElem?_toArray, List.getElem?_cons_succ, List.getElem?_cons_zero]; rfl)) (fun K tm wc L hL hpre hI hK => ?_) ?_
    · go_simp
      exact hK.out _ _ (hI.new7 hL (fun z => .cells #[.int .i64 0, .int .i64 0] 29 z) rfl)
    refine StepsI.cons (by (simp only [List.getElem?_toArray, List.getElem?_cons_succ, List.getElem?_cons_zero]; rfl)) (fun K tm wc L hL hpre hI hK => ?_) ?_
    · go_simp
      exact hK.out _ _ (hI.new8 hL (fun z => .cells #[.int .i64 0, .int .i64 0] 29 z) rfl)
    refine StepsI.cons (by (simp only [List.getElem?_toArray, List.getElem?_cons_succ, List.getElem?_cons_zero]; rfl)) (fun K tm wc L hL hpre hI hK => ?_) ?_
    · have ha := hpre 6 (by kernel_rfl)
      have ex := hI.e1 (hpre 1 (by kernel_rfl))
      obtain ⟨g, m, n, eg, hB, hk, -⟩ := hI.t4 ha
      obtain ⟨r0, r1, r2, r3⟩ := hk.rd2
      unfold agg2 at ex
      clear hk
      go_simp
      have z := hK.out undef _ (hI.set9 ha eg)
      simp only [ex, eg, Act.put, List.setIfInBounds_toArray, List.set_cons_zero, List.set_cons_succ] at z ⊢
      exact z
    refine StepsI.cons (by (simp only [List.getElem?_toArray, List.getElem?_cons_succ, List.getElem?_cons_zero]; rfl)) (fun K tm wc L hL hpre hI hK => ?_) ?_
    · have ha := hpre 7 (by kernel_rfl)
      have ex := hI.e3 (hpre 3 (by kernel_rfl))
      obtain ⟨g, m, n, eg, hB, hk, -⟩ := hI.t5 ha
      obtain ⟨r0, r1, r2, r3⟩ := hk.rd2
      unfold agg2 at ex
      clear hk
      go_simp
      have z := hK.out undef _ (hI.set10 ha eg)
      simp only [ex, eg, Act.put, List.setIfInBounds_toArray, List.set_cons_zero, List.set_cons_succ] at z ⊢
      exact z
    refine StepsI.cons (by (simp only [List.getElem?_toArray, List.getElem?_cons_succ, List.getElem?_cons_zero]; rfl)) (fun K tm wc L hL hpre hI hK => ?_) ?_
    · have ha := hpre 8 (by kernel_rfl)
      have ex := hI.e5 (hpre 5 (by kernel_rfl))
      obtain ⟨g, m, n, eg, hB, hk, -⟩ := hI.t6 ha
      obtain ⟨r0, r1, r2, r3⟩ := hk.rd2
      unfold agg2 at ex
      clear hk
      go_simp
      have z := hK.out undef _ (hI.set11 ha eg)
      simp only [ex, eg, Act.put, List.setIfInBounds_toArray, List.set_cons_zero, List.set_cons_succ] at z ⊢
      exact z
    exact StepsI.nil
  case done =>
    intro tm w' hI
    obtain ⟨g4, m4, n4, e4, B4, k4, s4⟩ := hI.t4 rfl
    obtain ⟨g5, m5, n5, e5, B5, k5, s5⟩ := hI.t5 rfl
    obtain ⟨g6, m6, n6, e6, B6, k6, s6⟩ := hI.t6 rfl
    obtain ⟨rfl, rfl⟩ := s4 rfl
    obtain ⟨rfl, rfl⟩ := s5 rfl
    obtain ⟨rfl, rfl⟩ := s6 rfl
    have bel := hI.bel
    clear hI
    replace l0 := l0.up bel
    replace l1 := l1.up bel
    have hw2 := bw_trans hw1 bel
    obtain ⟨r00, r01, r02, r03⟩ := l0.rd2
    obtain ⟨r10, r11, -, -⟩ := l1.rd2
    obtain ⟨r40, r41, -, -⟩ := k4.rd2
    obtain ⟨r50, r51, -, -⟩ := k5.rd2
    obtain ⟨r60, r61, -, -⟩ := k6.rd2
    obtain ⟨⟨p10, p11, p20, p21, p30, p31⟩, q10, q11, q20, q21, q30, q31⟩ := H.out
    clear l0 l1 k4 k5 k6 bel hw1 M1 M2 M3 H
    simp only [e4, e5, e6]
    go_wp2
    refine bodyPost_ret (by simp only [results, Try.results17]; go_simp; all_goals (first | exact rfl | exact ⟨rfl, rfl⟩ | skip)) rfl ⟨rfl, (by repeat (first | exact bw_refl _ | assumption | apply bw_alloc | apply bw_drew | apply bw_drewN | (refine bw_trans ?_ (by assumption)) | (refine bw_set ?_ (by simp only [go_sem]; omega) _)))⟩
theorem implCosineSpan_ok (a : Int) (h0 : 0 ≤ a) (h1 : a ≤ 8192) (w : World) : Calls Try.prog 14 #[.int .i64 a] w (CosineSpanPost a w) := by
  have l0 := Blk.new w 29 #[.int .i64 0, .int .i64 0]
  have hn0 : ¬ a < 0 := by omega
  have hn1 : ¬ 8192 < a := by omega
  obtain ⟨A0, A1, A2⟩ := arc_bd h0 h1
  have M0 := implRad_ok a h0 h1
  unfold implRadPost at M0
  unfold CosineSpanPost cosLow cosHigh
  generalize arcLow a = x at *
  generalize arcHigh a = y at *
  have M1 := implPart_ok x y 2 2 A0 A1 A2 (by decide) (by decide) (by decide)
  obtain ⟨⟨p10, p11⟩, q10, q11⟩ := part_bd A0 A1 A2 2 2 (by decide)
  unfold implPartPost at M1
  generalize partL x y 2 2 = b0 at *
  generalize partH x y 2 2 = b1 at *
  have M2 := implPart_ok x y 4 24 A0 A1 A2 (by decide) (by decide) (by decide)
  obtain ⟨⟨p20, p21⟩, q20, q21⟩ := part_bd A0 A1 A2 4 24 (by decide)
  unfold implPartPost at M2
  generalize partL x y 4 24 = c0 at *
  generalize partH x y 4 24 = c1 at *
  have M3 := implPart_ok x y 6 720 A0 A1 A2 (by decide) (by decide) (by decide)
  obtain ⟨⟨p30, p31⟩, q30, q31⟩ := part_bd A0 A1 A2 6 720 (by decide)
  unfold implPartPost at M3
  generalize partL x y 6 720 = d0 at *
  generalize partH x y 6 720 = d1 at *
  go_enter Try.func14, Try.ntmps14
  go_wp2_with fail
  refine (M0 _).mono ?_
  rintro e w1 ⟨rfl, hb⟩
  replace l0 := l0.up hb
  have hw1 : Below w.heap.size w (w1.alloc (.cells #[.int .i64 x, .int .i64 y] 29)) := (by repeat (first | exact bw_refl _ | assumption | apply bw_alloc | apply bw_drew | apply bw_drewN | (refine bw_trans ?_ (by assumption)) | (refine bw_set ?_ (by simp only [go_sem]; omega) _)))
  clear hb M0
  replace l0 := l0.alloc (.cells #[.int .i64 x, .int .i64 y] 29)
  have l1 := Blk.new w1 29 #[.int .i64 x, .int .i64 y]
  obtain ⟨g1, hg1⟩ : ∃ g, w1.heap.size = g := ⟨_, rfl⟩
  rw [hg1] at l1
  go_upto_region 4 with fail
  generalize w1.alloc (.cells #[.int .i64 x, .int .i64 y] 29) = W at *
  clear hg1 w1
  have H := Lib.hid (show (_ ∧ _ ∧ _ ∧ _ ∧ _ ∧ _) ∧ (_ ∧ _ ∧ _ ∧ _ ∧ _ ∧ _) from ⟨⟨p10, p11, p20, p21, p30, p31⟩, q10, q11, q20, q21, q30, q31⟩)
  clear p10 p11 p20 p21 p30 p31 q10 q11 q20 q21 q30 q31
  refine wp_region_inv (m := 12) (ks := [16, 17, 18, 19, 20, 21, 4, 5, 6]) (A := ?A) (I := fun L tm w' => SI 29 W x y b0 b1 c0 c1 d0 d1 L tm w') (by kernel_rfl) (by kernel_rfl) (by kernel_rfl) ?hA ?h0 ?steps ?done
  case hA => (intro tm; simp only [over, List.foldl_cons, List.foldl_nil, List.setIfInBounds_toArray, List.set_cons_zero, List.set_cons_succ]; exact rfl)
  case h0 => exact fun tm => ⟨bw_drew (bw_refl W), fun h => (by cases h), fun h => (by cases h), fun h => (by cases h), fun h => (by cases h), fun h => (by cases h), fun h => (by cases h), fun h => (by cases h), fun h => (by cases h), fun h => (by cases h), fun h => (by cases h), fun h => (by cases h), fun h => (by cases h), fun h => (by cases h), fun h => (by cases h), fun h => (by cases h)⟩
  case steps =>
    refine StepsI.cons (by (simp only [List.getElem?_toArray, List.getElem?_cons_zero]; rfl)) (fun K tm wc L hL hpre hI hK => ?_) ?_
    · have k1 := l1.up hI.bel
      obtain ⟨r0, r1, -, -⟩ := k1.rd2
      clear k1
      go_simp
      exact hK.out _ _ hI.val0
    refine StepsI.cons (by (simp only [List.getElem?_toArray, List.getElem?_cons_succ, List.getElem?_cons_zero]; rfl)) (fun K tm wc L hL hpre hI hK => ?_) ?_
    · have ex := hI.e0 (hpre 0 (by kernel_rfl))
      unfold agg2 at ex
      go_simp
      refine (M1 _).mono ?_
      rintro e w2 ⟨rfl, hb⟩
      (try go_wp2_with fail)
      have z := hK.out _ _ (hI.up hb).val1
      simp only [ex, Act.put, List.setIfInBounds_toArray, List.set_cons_zero, List.set_cons_succ] at z ⊢
      exact z
    refine StepsI.cons (by (simp only [List.getElem?_toArray, List.getElem?_cons_succ, List.getElem?_cons_zero]; rfl)) (fun K tm wc L hL hpre hI hK => ?_) ?_
    · have k1 := l1.up hI.bel
      obtain ⟨r0, r1, -, -⟩ := k1.rd2
      clear k1
      go_simp
      exact hK.out _ _ hI.val2
    refine StepsI.cons (by (simp only [List.getElem?_toArray, List.getElem?_cons_succ, List.getElem?_cons_zero]; rfl)) (fun K tm wc L hL hpre hI hK => ?_) ?_
    · have ex := hI.e2 (hpre 2 (by kernel_rfl))
      unfold agg2 at ex
      go_simp
      refine (M2 _).mono ?_
      rintro e w2 ⟨rfl, hb⟩
      (try go_wp2_with fail)
      have z := hK.out _ _ (hI.up hb).val3
      simp only [ex, Act.put, List.setIfInBounds_toArray, List.set_cons_zero, List.set_cons_succ] at z ⊢
      exact z
    refine StepsI.cons (by (simp only [List.getElem?_toArray, List.getElem?_cons_succ, List.getElem?_cons_zero]; rfl)) (fun K tm wc L hL hpre hI hK => ?_) ?_
    · have k1 := l1.up hI.bel
      obtain ⟨r0, r1, -, -⟩ := k1.rd2
      clear k1
      go_simp
      exact hK.out _ _ hI.val4
    refine StepsI.cons (by (simp only [List.getElem?_toArray, List.getElem?_cons_succ, List.getElem?_cons_zero]; rfl)) (fun K tm wc L hL hpre hI hK => ?_) ?_
    · have ex := hI.e4 (hpre 4 (by kernel_rfl))
      unfold agg2 at ex
      go_simp
      refine (M3 _).mono ?_
      rintro e w2 ⟨rfl, hb⟩
      (try go_wp2_with fail)
      have z := hK.out _ _ (hI.up hb).val5
      simp only [ex, Act.put, List.setIfInBounds_toArray, List.set_cons_zero, List.set_cons_succ] at z ⊢
      exact z
    refine StepsI.cons (by (simp only [List.getElem?_toArray, List.getElem?_cons_succ, List.getElem?_cons_zero]; rfl)) (fun K tm wc L hL hpre hI hK => ?_) ?_
    · go_simp
      exact hK.out _ _ (hI.new6 hL (fun z => .cells #[.int .i64 0, .int .i64 0] 29 z) rfl)
    refine StepsI.cons (by (simp only [List.getElem?_toArray, List.getElem?_cons_succ, List.getElem?_cons_zero]; rfl)) (fun K tm wc L hL hpre hI hK => ?_) ?_
    · go_simp
      exact hK.out _ _ (hI.new7 hL (fun z => .cells #[.int .i64 0, .int .i64 0] 29 z) rfl)
    refine StepsI.cons (by (simp only [List.getElem?_toArray, List.getElem?_cons_succ, List.getElem?_cons_zero]; rfl)) (fun K tm wc L hL hpre hI hK => ?_) ?_
    · go_simp
      exact hK.out _ _ (hI.new8 hL (fun z => .cells #[.int .i64 0, .int .i64 0] 29 z) rfl)
    refine StepsI.cons (by (simp only [List.getElem?_toArray, List.getElem?_cons_succ, List.getElem?_cons_zero]; rfl)) (fun K tm wc L hL hpre hI hK => ?_) ?_
    · have ha := hpre 6 (by kernel_rfl)
      have ex := hI.e1 (hpre 1 (by kernel_rfl))
      obtain ⟨g, m, n, eg, hB, hk, -⟩ := hI.t4 ha
      obtain ⟨r0, r1, r2, r3⟩ := hk.rd2
      unfold agg2 at ex
      clear hk
      go_simp
      have z := hK.out undef _ (hI.set9 ha eg)
      simp only [ex, eg, Act.put, List.setIfInBounds_toArray, List.set_cons_zero, List.set_cons_succ] at z ⊢
      exact z
    refine StepsI.cons (by (simp only [List.getElem?_toArray, List.getElem?_cons_succ, List.getElem?_cons_zero]; rfl)) (fun K tm wc L hL hpre hI hK => ?_) ?_
    · have ha := hpre 7 (by kernel_rfl)
      have ex := hI.e3 (hpre 3 (by kernel_rfl))
      obtain ⟨g, m, n, eg, hB, hk, -⟩ := hI.t5 ha
      obtain ⟨r0, r1, r2, r3⟩ := hk.rd2
      unfold agg2 at ex
      clear hk
      go_simp
      have z := hK.out undef _ (hI.set10 ha eg)
      simp only [ex, eg, Act.put, List.setIfInBounds_toArray, List.set_cons_zero, List.set_cons_succ] at z ⊢
      exact z
    refine StepsI.cons (by (simp only [List.getElem?_toArray, List.getElem?_cons_succ, List.getElem?_cons_zero]; rfl)) (fun K tm wc L hL hpre hI hK => ?_) ?_
    · have ha := hpre 8 (by kernel_rfl)
      have ex := hI.e5 (hpre 5 (by kernel_rfl))
      obtain ⟨g, m, n, eg, hB, hk, -⟩ := hI.t6 ha
      obtain ⟨r0, r1, r2, r3⟩ := hk.rd2
      unfold agg2 at ex
      clear hk
      go_simp
      have z := hK.out undef _ (hI.set11 ha eg)
      simp only [ex, eg, Act.put, List.setIfInBounds_toArray, List.set_cons_zero, List.set_cons_succ] at z ⊢
      exact z
    exact StepsI.nil
  case done =>
    intro tm w' hI
    obtain ⟨g4, m4, n4, e4, B4, k4, s4⟩ := hI.t4 rfl
    obtain ⟨g5, m5, n5, e5, B5, k5, s5⟩ := hI.t5 rfl
    obtain ⟨g6, m6, n6, e6, B6, k6, s6⟩ := hI.t6 rfl
    obtain ⟨rfl, rfl⟩ := s4 rfl
    obtain ⟨rfl, rfl⟩ := s5 rfl
    obtain ⟨rfl, rfl⟩ := s6 rfl
    have bel := hI.bel
    clear hI
    replace l0 := l0.up bel
    replace l1 := l1.up bel
    have hw2 := bw_trans hw1 bel
    obtain ⟨r00, r01, r02, r03⟩ := l0.rd2
    obtain ⟨r10, r11, -, -⟩ := l1.rd2
    obtain ⟨r40, r41, -, -⟩ := k4.rd2
    obtain ⟨r50, r51, -, -⟩ := k5.rd2
    obtain ⟨r60, r61, -, -⟩ := k6.rd2
    obtain ⟨⟨p10, p11, p20, p21, p30, p31⟩, q10, q11, q20, q21, q30, q31⟩ := H.out
    clear l0 l1 k4 k5 k6 bel hw1 M1 M2 M3 H
    simp only [e4, e5, e6]
    go_wp2
    refine bodyPost_ret (by simp only [results, Try.results14]; go_simp; all_goals (first | exact rfl | exact ⟨rfl, rfl⟩ | skip)) rfl ⟨rfl, (by repeat (first | exact bw_refl _ | assumption | apply bw_alloc | apply bw_drew | apply bw_drewN | (refine bw_trans ?_ (by assumption)) | (refine bw_set ?_ (by simp only [go_sem]; omega) _)))⟩
end Go.Proofs.Ytdojgkjgjfclaaa
