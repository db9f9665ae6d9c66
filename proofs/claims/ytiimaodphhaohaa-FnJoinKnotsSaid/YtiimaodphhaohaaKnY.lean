/- The draw and the walk of the law JoinKnots; no condition. -/
import Derived.Test.YtiimaodphhaohaaKnT
import Derived.Test.YtiimaodphhaohaaKnP
namespace Go.Proofs.Ytiimaodphhaohaa
open Go.RowKit
set_option linter.unusedVariables false
set_option linter.unusedSimpArgs false
set_option maxHeartbeats 4000000
set_option maxRecDepth 100000

theorem drawJoinKnots_any (A : Option Addr) (n c : Nat) (xs : List Int) (w : World) (h : Byts w w.heap.size A xs) (hn : xs.length = n) (hc : n ≤ c) (hm : c ≤ maxLen) (hlen : n ≤ 1048576) :
    Calls Try.prog 34 #[.slice A n c] w (GetsKX w) := by
  have HN := Lib.hid hn
  clear hn
  go_enter Try.func34, Try.ntmps34
  go_wp2_with fail
  refine (open_any A n c xs w _ h HN.out hc hm hlen (bw_refl w)).mono ?_
  rintro e w1 ⟨R, rfl, hRs, hR, hb⟩
  have z1 := hR.lt
  go_wp2_with fail
  refine (drawKnotValue_any A n c xs w _ h HN.out hc hm hlen hb).mono ?_
  rintro e w2 ⟨A2, n2, c2, l, x, rfl, k1, k13, ho, ⟨x1, x2⟩, b2⟩
  have hR2 := hR.below b2 z1
  have b3 := bw_trans hb b2
  clear hR b2
  go_wp2_with fail
  refine (odd_any R _ _ (by omega) (by omega) _ hR2 (by omega)).mono ?_
  rintro e w3 ⟨v3, rfl, hR3, hO⟩
  have b4 := below_only b3 hO hRs
  have hs4 := b4.size
  cases v3
  · go_wp2
    go_ret2
    have ho2 : OwnK w1.heap.size w3 A2 n2 c2 l := ⟨ho.1, ho.2.1, fun hp => by
      obtain ⟨g, e, hg, hrow⟩ := ho.2.2 hp
      exact ⟨g, e, hg, hrow.of_block (hO.block g hrow.lt (fun e2 => by injection e2 with e2; omega))⟩⟩
    exact ⟨_, n2, c2, l, x, rfl, k1, k13, ho2.le hb.size, ⟨x1, x2⟩, b4⟩
  · have hmk : (Instr.makeSlice 25 (.int .i64 12) (.int .i64 12)).run Try.prog w3 = .ok (.slice (some ⟨w3.heap.size, 0, none⟩) 12 12) (w3.alloc (.cells (madeCells #[.int .i64 0, .int .i64 0] 24) 41)) := run_make_knots 12 (by omega) w3
    clear ho hR2 hR3 hO
    go_wp2
    clear hmk
    go_loopw [7] (fun i wr => ∃ (k : Nat) (ys : List Int), k ≤ 12 ∧ i = .int .i64 k ∧ ys.length = 24 ∧ RowK wr w3.heap.size ys ∧ Below w.heap.size w wr) (fun i _ => 12 - (intOf i).toNat)
    case atStart => exact ⟨0, List.replicate 24 0, by omega, rfl, by simp, RowK.made w3 24, bw_alloc b4 _⟩
    case round =>
      obtain ⟨k, ys, hk, rfl, hy, hP, hb⟩ := hrel
      have HY := Lib.hid hy
      clear hy
      by_cases hlt : k < 12
      · have hd1 := hP.cell (j := k * 2) (by rw [HY.out]; omega)
        have hf1 := hP.frozen (k * 2)
        have z0 := hP.lt
        have i0 : (0 : Int) ≤ (k : Int) := by omega
        have i1 : (k : Int) < 12 := by omega
        have i2 : (k : Int).toNat = k := Int.toNat_natCast _
        have e1 : IntKind.i64.wrap (2 * (k : Int)) = 2 * (k : Int) := IntWalk.i64_in _ (by omega)
        go_wp2
        go_roundw
        case rel => exact ⟨k + 1, ys.set (k * 2) (2 * (k : Int)), by omega, by go_num, by simp [HY.out], hP.set_ (k * 2) _, bw_set (p := ⟨w3.heap.size, k * 2, none⟩) hb hs4 _⟩
        case measure => simp [intOf]; omega
      · have hkk : k = 12 := by omega
        subst hkk
        go_wp2
        go_ret2
        exact ⟨_, 12, 12, ys, x, rfl, by omega, by omega, ⟨HY.out, Nat.le_refl _, fun _ => ⟨_, rfl, hs4, hP⟩⟩, ⟨x1, x2⟩, hb⟩
end Go.Proofs.Ytiimaodphhaohaa
