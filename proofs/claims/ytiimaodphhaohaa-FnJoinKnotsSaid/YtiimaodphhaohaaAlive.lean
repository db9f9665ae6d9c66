/- The contract of the laws' function alive, and two small laws on worlds; no condition. -/
import Derived.Test.YtiimaodphhaohaaLen64
import Derived.Test.YtiimaodphhaohaaReg
namespace Go.Proofs.Ytiimaodphhaohaa
open Go.RowKit
set_option linter.unusedVariables false

theorem below_only {w w1 w2 : World} {R : Nat} (hb : Below w.heap.size w w1) (h : Only w1 w2 R) (hR : w.heap.size ≤ R) : Below w.heap.size w w2 :=
  ⟨h.os.trans hb.os, h.tape.trans hb.tape, h.output.trans hb.output, Nat.le_trans hb.size h.size, fun i hi => (h.block i (Nat.lt_of_lt_of_le hi hb.size) (fun e => by injection e; omega)).trans (hb.block i hi)⟩
theorem Byts.up {w w' : World} {A : Option Addr} {xs : List Int} (h : Byts w w.heap.size A xs) (hb : Below w.heap.size w w') : Byts w' w'.heap.size A xs := fun hp => by
  obtain ⟨b, off, e, hlt, hc⟩ := h hp
  exact ⟨b, off, e, Nat.lt_of_lt_of_le hlt hb.size, fun j hj => ⟨(hb.cell hlt).trans (hc j hj).1, (hc j hj).2⟩⟩
/-- What l20Open leaves: a new reader. -/
def Opens (w : World) (e : Ending) (w' : World) : Prop := ∃ R : Nat, e = .returned (.pointer (some ⟨R, 0, none⟩)) ∧ w.heap.size ≤ R ∧ Rd w' R 0 ∧ Below w.heap.size w w'
theorem open_any (A : Option Addr) (n c : Nat) (xs : List Int) (w0 w : World) (h : Byts w0 w0.heap.size A xs) (hn : xs.length = n) (hc : n ≤ c) (hm : c ≤ maxLen) (hlen : n ≤ 1048576) (hb : Below w0.heap.size w0 w) :
    Calls Try.prog 43 #[.slice A n c] w (Opens w) :=
  (l20Open_any A n c xs w hn hc hm (h.up hb) (by omega)).mono fun e w' ⟨he, hR, hb'⟩ => ⟨_, he, Nat.le_refl _, hR, hb'⟩
theorem bl5 : (Lib.bitLen (5 : Int).toNat : Int) = 3 := by decide
theorem bitLength5 (w : World) : Calls Try.prog 44 #[.int .i64 5] w fun e w' => e = .returned (.int .i64 3) ∧ w = w' := by
  go_enter Try.func44, Try.ntmps44
  go_wp2_with (go_at_call 50; refine (len64 5 _ (by omega) (by omega)).mono ?_; rintro e w' ⟨rfl, rfl⟩; rw [bl5])
  go_ret
  exact ⟨rfl, rfl⟩
theorem alive_any (w : World) : Calls Try.prog 29 #[] w fun e w' => e = .returned (.bool true) ∧ w = w' := by
  go_enter Try.func29, Try.ntmps29
  go_wp2_with (go_at_call 44; refine (bitLength5 _).mono ?_; rintro e w' ⟨rfl, rfl⟩)
  go_ret
  exact ⟨rfl, rfl⟩
end Go.Proofs.Ytiimaodphhaohaa
