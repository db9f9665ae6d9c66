/- The draws of the laws of directions return some vectors; no condition. -/
import Derived.Test.YtocbbfogaafbiaaDir2
import Derived.Test.YtocbbfogaafbiaaVDraw
import Derived.Test.YtocbbfogaafbiaaAlive
namespace Go.Proofs.Ytocbbfogaafbiaa
open Go.RowKit
set_option linter.unusedVariables false
set_option linter.unusedSimpArgs false
set_option maxHeartbeats 4000000

def GetsV (w : World) (e : Ending) (w' : World) : Prop := ∃ X Y : Int, e = .returned (.agg #[.int .i64 X, .int .i64 Y]) ∧ Below w.heap.size w w'
def GetsVV (w : World) (e : Ending) (w' : World) : Prop := ∃ X Y X2 Y2 : Int, e = .returned (.tuple #[.agg #[.int .i64 X, .int .i64 Y], .agg #[.int .i64 X2, .int .i64 Y2]]) ∧ Below w.heap.size w w'
theorem drawDirectionOf_any (A : Option Addr) (n c : Nat) (xs : List Int) (w0 w : World) (h : Byts w0 w0.heap.size A xs) (hn : xs.length = n) (hc : n ≤ c) (hm : c ≤ maxLen) (hlen : n ≤ 1048576) (hb0 : Below w0.heap.size w0 w) :
    Calls Try.prog 12 #[.slice A n c] w (GetsV w) := by
  have l2 := Blk.new w 25 #[.int .i64 0, .int .i64 0]
  go_enter Try.func12, Try.ntmps12
  go_wp2_with fail
  refine (open_any A n c xs w0 _ h hn hc hm hlen (hb0.alloc hb0.size _)).mono ?_
  rintro e w1 ⟨R, rfl, hRs, hR, hb⟩
  have hb1 : Below w.heap.size w w1 := (by repeat (first | exact bw_refl _ | assumption | apply bw_alloc | apply bw_drew | apply bw_drewN | (refine bw_trans ?_ (by assumption)) | (refine bw_set ?_ (by simp only [go_sem]; omega) _)))
  replace l2 := heap_keep hb l2
  rw [World.size_alloc] at hRs
  clear hb
  go_wp2_with fail
  refine (l20Vector_any R 0 _ _ (by omega) (by omega) (by omega) (by omega) _ hR (by omega)).mono ?_
  rintro e w2 ⟨X, Y, rfl, hR2, hO⟩
  have hb2 := below_only hb1 hO (by omega)
  replace l2 := only_keep hO l2 (by omega)
  clear hO hb1 hR hR2
  have n0 := Blk.cell l2 0
  have n1 := Blk.cell l2 1
  have m0 := Blk.frozen l2 0
  have m1 := Blk.frozen l2 1
  simp at n0 n1
  go_wp2
  refine bodyPost_ret (by simp only [results, Try.results12]; go_simp; all_goals (first | exact rfl | exact ⟨rfl, rfl⟩ | skip)) rfl ⟨X, Y, rfl, (by repeat (first | exact bw_refl _ | assumption | apply bw_alloc | apply bw_drew | apply bw_drewN | (refine bw_trans ?_ (by assumption)) | (refine bw_set ?_ (by simp only [go_sem]; omega) _)))⟩
theorem drawDotOf_any (A : Option Addr) (n c : Nat) (xs : List Int) (w0 w : World) (h : Byts w0 w0.heap.size A xs) (hn : xs.length = n) (hc : n ≤ c) (hm : c ≤ maxLen) (hlen : n ≤ 1048576) (hb0 : Below w0.heap.size w0 w) :
    Calls Try.prog 26 #[.slice A n c] w (GetsVV w) := by
  have l2 := Blk.new w 25 #[.int .i64 0, .int .i64 0]
  have l3 := Blk.new (w.alloc (.cells #[.int .i64 0, .int .i64 0] 25)) 25 #[.int .i64 0, .int .i64 0]
  replace l2 := l2.alloc (.cells #[.int .i64 0, .int .i64 0] 25)
  rw [World.size_alloc] at l3
  go_enter Try.func26, Try.ntmps26
  go_wp2_with fail
  refine (open_any A n c xs w0 _ h hn hc hm hlen ((hb0.alloc hb0.size _).alloc (by rw [World.size_alloc]; exact Nat.le_succ_of_le hb0.size) _)).mono ?_
  rintro e w1 ⟨R, rfl, hRs, hR, hb⟩
  have hb1 : Below w.heap.size w w1 := (by repeat (first | exact bw_refl _ | assumption | apply bw_alloc | apply bw_drew | apply bw_drewN | (refine bw_trans ?_ (by assumption)) | (refine bw_set ?_ (by simp only [go_sem]; omega) _)))
  replace l2 := heap_keep hb l2
  replace l3 := heap_keep hb l3
  rw [World.size_alloc, World.size_alloc] at hRs
  clear hb
  go_wp2_with fail
  refine (l20Vector_any R 0 _ _ (by omega) (by omega) (by omega) (by omega) _ hR (by omega)).mono ?_
  rintro e w2 ⟨X, Y, rfl, hR2, hO⟩
  have hb2 := below_only hb1 hO (by omega)
  replace l2 := only_keep hO l2 (by omega)
  replace l3 := only_keep hO l3 (by omega)
  clear hO hb1 hR
  go_wp2_with fail
  refine (l20Vector_any R _ _ _ (by omega) (by omega) (by omega) (by omega) _ hR2 (by omega)).mono ?_
  rintro e w3 ⟨X2, Y2, rfl, hR3, hO⟩
  have hb3 := below_only hb2 hO (by omega)
  replace l2 := only_keep hO l2 (by omega)
  replace l3 := only_keep hO l3 (by omega)
  clear hO hb2 hR2 hR3
  have n0 := Blk.cell l2 0
  have n1 := Blk.cell l2 1
  have m0 := Blk.frozen l2 0
  have m1 := Blk.frozen l2 1
  have p0 := Blk.cell l3 0
  have p1 := Blk.cell l3 1
  have q0 := Blk.frozen l3 0
  have q1 := Blk.frozen l3 1
  simp at n0 n1 p0 p1
  go_wp2
  refine bodyPost_ret (by simp only [results, Try.results26]; go_simp; all_goals (first | exact rfl | exact ⟨rfl, rfl⟩ | skip)) rfl ⟨X, Y, X2, Y2, rfl, (by repeat (first | exact bw_refl _ | assumption | apply bw_alloc | apply bw_drew | apply bw_drewN | (refine bw_trans ?_ (by assumption)) | (refine bw_set ?_ (by simp only [go_sem]; omega) _)))⟩

theorem drawBetweenOf_any (A : Option Addr) (n c : Nat) (xs : List Int) (w0 w : World) (h : Byts w0 w0.heap.size A xs) (hn : xs.length = n) (hc : n ≤ c) (hm : c ≤ maxLen) (hlen : n ≤ 1048576) (hb0 : Below w0.heap.size w0 w) :
    Calls Try.prog 15 #[.slice A n c] w (GetsVV w) := by
  have l2 := Blk.new w 25 #[.int .i64 0, .int .i64 0]
  have l3 := Blk.new (w.alloc (.cells #[.int .i64 0, .int .i64 0] 25)) 25 #[.int .i64 0, .int .i64 0]
  replace l2 := l2.alloc (.cells #[.int .i64 0, .int .i64 0] 25)
  rw [World.size_alloc] at l3
  go_enter Try.func15, Try.ntmps15
  go_wp2_with fail
  refine (drawDotOf_any A n c xs w0 _ h hn hc hm hlen ((hb0.alloc hb0.size _).alloc (by rw [World.size_alloc]; exact Nat.le_succ_of_le hb0.size) _)).mono ?_
  rintro e w1 ⟨X, Y, X2, Y2, rfl, hb⟩
  have hb1 : Below w.heap.size w w1 := (by repeat (first | exact bw_refl _ | assumption | apply bw_alloc | apply bw_drew | apply bw_drewN | (refine bw_trans ?_ (by assumption)) | (refine bw_set ?_ (by simp only [go_sem]; omega) _)))
  replace l2 := heap_keep hb l2
  replace l3 := heap_keep hb l3
  clear hb
  have n0 := Blk.cell l2 0
  have n1 := Blk.cell l2 1
  have m0 := Blk.frozen l2 0
  have m1 := Blk.frozen l2 1
  have p0 := Blk.cell l3 0
  have p1 := Blk.cell l3 1
  have q0 := Blk.frozen l3 0
  have q1 := Blk.frozen l3 1
  simp at n0 n1 p0 p1
  go_wp2
  refine bodyPost_ret (by simp only [results, Try.results15]; go_simp; all_goals (first | exact rfl | exact ⟨rfl, rfl⟩ | skip)) rfl ⟨X, Y, X2, Y2, rfl, (by repeat (first | exact bw_refl _ | assumption | apply bw_alloc | apply bw_drew | apply bw_drewN | (refine bw_trans ?_ (by assumption)) | (refine bw_set ?_ (by simp only [go_sem]; omega) _)))⟩
end Go.Proofs.Ytocbbfogaafbiaa
