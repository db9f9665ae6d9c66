/-
  No cell of these rows narrows 'for every input' (looked for: loops, veiled, ifaces, maps, wideKeys, modest, calm, conditions, laid).
  DERIVED. THE GIVEN ROWS OF THIS SEAT. 10 by the template 'for every input the law returns true; each argument reads behind the call as it read before'; 0 by the template 'total and deterministic' (their statements: YtiimaodphhaohaaTotals.lean).
  GIVEN WITH THE SEED: the statements are not yours to turn. If you find one false, say at which input.
  Laid BY PROGRAM, IN A SANDBOX (cutbox-rows.mjs): the forced cells as the released guide's own fill.sh prints them over the translation 7e471201407caeef… (all of the seat's roots in one cut). By AI agents, Wed Nov 11 2026. No macro, syntax, notation, axiom, sorry.
-/
import Derived.Test.YtiimaodphhaohaaChecked
import GoSem.Claim
import GoSem.ClaimJoined
import GoSem.ClaimMapViews
import Derived.JoinedTies
import Derived.KernelRfl
namespace Go.Proofs.Ytiimaodphhaohaa
/- THE CELL 'sum', in the pinned program and in every row, IS THE sha256 OF THE DUMP (.gsa) THAT YtiimaodphhaohaaProg.lean LOADS. Nothing in Lean hashes anything: it is a label: what it is worth is what the hold of that sum in a sandbox is worth. -/
noncomputable def Try.pinned : Pinned := { name := "ytiimaodphhaohaa", sum := "7e471201407caeefc430586aa4dc124bb67a59ef315c2097641461bca3504cbb", checked := Try.checked }
namespace Rows
def none {H : Type} : Left H := { results := [], args := [] }

/-- 'laws.FnExactKnotsValid': WHATEVER THE INPUT: true; the input reads as it did. -/
def fnExactKnotsValidSpec : ChangeSpec := { name := "fnExactKnotsValid", fn := fun _ => fun
  | [d] => { results := [.lit (.bool true)], args := [d] }
  | _ => none }
def fnExactKnotsValidRow : OpenClaim := { program := "ytiimaodphhaohaa", sum := "7e471201407caeefc430586aa4dc124bb67a59ef315c2097641461bca3504cbb", func := "loop.example/fixedmath/laws.FnExactKnotsValid", spec := "fnExactKnotsValid", apart := false }
def FnExactKnotsValidSaid : Prop := fnExactKnotsValidRow.holds Try.pinned (OpenSpec.ofChange fnExactKnotsValidSpec)

/-- ITS FALSE NEIGHBOUR: 'it returns false'. Refute it at one input. -/
def fnExactKnotsValidWrong : ChangeSpec := { name := "fnExactKnotsValid", fn := fun _ => fun
  | [d] => { results := [.lit (.bool false)], args := [d] }
  | _ => none }
def FnExactKnotsValidWrongFalsely : Prop := fnExactKnotsValidRow.holds Try.pinned (OpenSpec.ofChange fnExactKnotsValidWrong)

/-- 'laws.FnExactKnotsRise': WHATEVER THE INPUT: true; the input reads as it did. -/
def fnExactKnotsRiseSpec : ChangeSpec := { name := "fnExactKnotsRise", fn := fun _ => fun
  | [d] => { results := [.lit (.bool true)], args := [d] }
  | _ => none }
def fnExactKnotsRiseRow : OpenClaim := { program := "ytiimaodphhaohaa", sum := "7e471201407caeefc430586aa4dc124bb67a59ef315c2097641461bca3504cbb", func := "loop.example/fixedmath/laws.FnExactKnotsRise", spec := "fnExactKnotsRise", apart := false }
def FnExactKnotsRiseSaid : Prop := fnExactKnotsRiseRow.holds Try.pinned (OpenSpec.ofChange fnExactKnotsRiseSpec)

/-- ITS FALSE NEIGHBOUR: 'it returns false'. Refute it at one input. -/
def fnExactKnotsRiseWrong : ChangeSpec := { name := "fnExactKnotsRise", fn := fun _ => fun
  | [d] => { results := [.lit (.bool false)], args := [d] }
  | _ => none }
def FnExactKnotsRiseWrongFalsely : Prop := fnExactKnotsRiseRow.holds Try.pinned (OpenSpec.ofChange fnExactKnotsRiseWrong)

/-- 'laws.FnExactTurnKnots': WHATEVER THE INPUT: true; the input reads as it did. -/
def fnExactTurnKnotsSpec : ChangeSpec := { name := "fnExactTurnKnots", fn := fun _ => fun
  | [d] => { results := [.lit (.bool true)], args := [d] }
  | _ => none }
def fnExactTurnKnotsRow : OpenClaim := { program := "ytiimaodphhaohaa", sum := "7e471201407caeefc430586aa4dc124bb67a59ef315c2097641461bca3504cbb", func := "loop.example/fixedmath/laws.FnExactTurnKnots", spec := "fnExactTurnKnots", apart := false }
def FnExactTurnKnotsSaid : Prop := fnExactTurnKnotsRow.holds Try.pinned (OpenSpec.ofChange fnExactTurnKnotsSpec)

/-- ITS FALSE NEIGHBOUR: 'it returns false'. Refute it at one input. -/
def fnExactTurnKnotsWrong : ChangeSpec := { name := "fnExactTurnKnots", fn := fun _ => fun
  | [d] => { results := [.lit (.bool false)], args := [d] }
  | _ => none }
def FnExactTurnKnotsWrongFalsely : Prop := fnExactTurnKnotsRow.holds Try.pinned (OpenSpec.ofChange fnExactTurnKnotsWrong)

/-- 'laws.FnExactKnotValue': WHATEVER THE INPUT: true; the input reads as it did. -/
def fnExactKnotValueSpec : ChangeSpec := { name := "fnExactKnotValue", fn := fun _ => fun
  | [d1, d2] => { results := [.lit (.bool true)], args := [d1, d2] }
  | _ => none }
def fnExactKnotValueRow : OpenClaim := { program := "ytiimaodphhaohaa", sum := "7e471201407caeefc430586aa4dc124bb67a59ef315c2097641461bca3504cbb", func := "loop.example/fixedmath/laws.FnExactKnotValue", spec := "fnExactKnotValue", apart := false }
def FnExactKnotValueSaid : Prop := fnExactKnotValueRow.holds Try.pinned (OpenSpec.ofChange fnExactKnotValueSpec)

/-- ITS FALSE NEIGHBOUR: 'it returns false'. Refute it at one input. -/
def fnExactKnotValueWrong : ChangeSpec := { name := "fnExactKnotValue", fn := fun _ => fun
  | [d1, d2] => { results := [.lit (.bool false)], args := [d1, d2] }
  | _ => none }
def FnExactKnotValueWrongFalsely : Prop := fnExactKnotValueRow.holds Try.pinned (OpenSpec.ofChange fnExactKnotValueWrong)

/-- 'laws.FnExactJoinKnots': WHATEVER THE INPUT: true; the input reads as it did. -/
def fnExactJoinKnotsSpec : ChangeSpec := { name := "fnExactJoinKnots", fn := fun _ => fun
  | [d1, d2] => { results := [.lit (.bool true)], args := [d1, d2] }
  | _ => none }
def fnExactJoinKnotsRow : OpenClaim := { program := "ytiimaodphhaohaa", sum := "7e471201407caeefc430586aa4dc124bb67a59ef315c2097641461bca3504cbb", func := "loop.example/fixedmath/laws.FnExactJoinKnots", spec := "fnExactJoinKnots", apart := false }
def FnExactJoinKnotsSaid : Prop := fnExactJoinKnotsRow.holds Try.pinned (OpenSpec.ofChange fnExactJoinKnotsSpec)

/-- ITS FALSE NEIGHBOUR: 'it returns false'. Refute it at one input. -/
def fnExactJoinKnotsWrong : ChangeSpec := { name := "fnExactJoinKnots", fn := fun _ => fun
  | [d1, d2] => { results := [.lit (.bool false)], args := [d1, d2] }
  | _ => none }
def FnExactJoinKnotsWrongFalsely : Prop := fnExactJoinKnotsRow.holds Try.pinned (OpenSpec.ofChange fnExactJoinKnotsWrong)

/-- 'laws.FnKnotsValid': WHATEVER THE INPUT: true; the input reads as it did. -/
def fnKnotsValidSpec : ChangeSpec := { name := "fnKnotsValid", fn := fun _ => fun
  | [d] => { results := [.lit (.bool true)], args := [d] }
  | _ => none }
def fnKnotsValidRow : OpenClaim := { program := "ytiimaodphhaohaa", sum := "7e471201407caeefc430586aa4dc124bb67a59ef315c2097641461bca3504cbb", func := "loop.example/fixedmath/laws.FnKnotsValid", spec := "fnKnotsValid", apart := false }
def FnKnotsValidSaid : Prop := fnKnotsValidRow.holds Try.pinned (OpenSpec.ofChange fnKnotsValidSpec)

/-- ITS FALSE NEIGHBOUR: 'it returns false'. Refute it at one input. -/
def fnKnotsValidWrong : ChangeSpec := { name := "fnKnotsValid", fn := fun _ => fun
  | [d] => { results := [.lit (.bool false)], args := [d] }
  | _ => none }
def FnKnotsValidWrongFalsely : Prop := fnKnotsValidRow.holds Try.pinned (OpenSpec.ofChange fnKnotsValidWrong)

/-- 'laws.FnKnotsRise': WHATEVER THE INPUT: true; the input reads as it did. -/
def fnKnotsRiseSpec : ChangeSpec := { name := "fnKnotsRise", fn := fun _ => fun
  | [d] => { results := [.lit (.bool true)], args := [d] }
  | _ => none }
def fnKnotsRiseRow : OpenClaim := { program := "ytiimaodphhaohaa", sum := "7e471201407caeefc430586aa4dc124bb67a59ef315c2097641461bca3504cbb", func := "loop.example/fixedmath/laws.FnKnotsRise", spec := "fnKnotsRise", apart := false }
def FnKnotsRiseSaid : Prop := fnKnotsRiseRow.holds Try.pinned (OpenSpec.ofChange fnKnotsRiseSpec)

/-- ITS FALSE NEIGHBOUR: 'it returns false'. Refute it at one input. -/
def fnKnotsRiseWrong : ChangeSpec := { name := "fnKnotsRise", fn := fun _ => fun
  | [d] => { results := [.lit (.bool false)], args := [d] }
  | _ => none }
def FnKnotsRiseWrongFalsely : Prop := fnKnotsRiseRow.holds Try.pinned (OpenSpec.ofChange fnKnotsRiseWrong)

/-- 'laws.FnKnotValue': WHATEVER THE INPUT: true; the input reads as it did. -/
def fnKnotValueSpec : ChangeSpec := { name := "fnKnotValue", fn := fun _ => fun
  | [d] => { results := [.lit (.bool true)], args := [d] }
  | _ => none }
def fnKnotValueRow : OpenClaim := { program := "ytiimaodphhaohaa", sum := "7e471201407caeefc430586aa4dc124bb67a59ef315c2097641461bca3504cbb", func := "loop.example/fixedmath/laws.FnKnotValue", spec := "fnKnotValue", apart := false }
def FnKnotValueSaid : Prop := fnKnotValueRow.holds Try.pinned (OpenSpec.ofChange fnKnotValueSpec)

/-- ITS FALSE NEIGHBOUR: 'it returns false'. Refute it at one input. -/
def fnKnotValueWrong : ChangeSpec := { name := "fnKnotValue", fn := fun _ => fun
  | [d] => { results := [.lit (.bool false)], args := [d] }
  | _ => none }
def FnKnotValueWrongFalsely : Prop := fnKnotValueRow.holds Try.pinned (OpenSpec.ofChange fnKnotValueWrong)

/-- 'laws.FnTurnKnots': WHATEVER THE INPUT: true; the input reads as it did. -/
def fnTurnKnotsSpec : ChangeSpec := { name := "fnTurnKnots", fn := fun _ => fun
  | [d] => { results := [.lit (.bool true)], args := [d] }
  | _ => none }
def fnTurnKnotsRow : OpenClaim := { program := "ytiimaodphhaohaa", sum := "7e471201407caeefc430586aa4dc124bb67a59ef315c2097641461bca3504cbb", func := "loop.example/fixedmath/laws.FnTurnKnots", spec := "fnTurnKnots", apart := false }
def FnTurnKnotsSaid : Prop := fnTurnKnotsRow.holds Try.pinned (OpenSpec.ofChange fnTurnKnotsSpec)

/-- ITS FALSE NEIGHBOUR: 'it returns false'. Refute it at one input. -/
def fnTurnKnotsWrong : ChangeSpec := { name := "fnTurnKnots", fn := fun _ => fun
  | [d] => { results := [.lit (.bool false)], args := [d] }
  | _ => none }
def FnTurnKnotsWrongFalsely : Prop := fnTurnKnotsRow.holds Try.pinned (OpenSpec.ofChange fnTurnKnotsWrong)

/-- 'laws.FnJoinKnots': WHATEVER THE INPUT: true; the input reads as it did. -/
def fnJoinKnotsSpec : ChangeSpec := { name := "fnJoinKnots", fn := fun _ => fun
  | [d] => { results := [.lit (.bool true)], args := [d] }
  | _ => none }
def fnJoinKnotsRow : OpenClaim := { program := "ytiimaodphhaohaa", sum := "7e471201407caeefc430586aa4dc124bb67a59ef315c2097641461bca3504cbb", func := "loop.example/fixedmath/laws.FnJoinKnots", spec := "fnJoinKnots", apart := false }
def FnJoinKnotsSaid : Prop := fnJoinKnotsRow.holds Try.pinned (OpenSpec.ofChange fnJoinKnotsSpec)

/-- ITS FALSE NEIGHBOUR: 'it returns false'. Refute it at one input. -/
def fnJoinKnotsWrong : ChangeSpec := { name := "fnJoinKnots", fn := fun _ => fun
  | [d] => { results := [.lit (.bool false)], args := [d] }
  | _ => none }
def FnJoinKnotsWrongFalsely : Prop := fnJoinKnotsRow.holds Try.pinned (OpenSpec.ofChange fnJoinKnotsWrong)

/- THE SECOND FORM. 'bulk': how many values and letters a reading holds, each counted each time it is reached (what is shared counts as often as it is met; a slice's spare places count too). A statement '..UptoSaid' is the law's where the arguments, and the package variables that the reading takes, are together of bulk at most 1048576: NARROWER than '..Said'. Prove '..Said' where nothing that the law and all that it calls make is longer than what came in: it says more and counts as full. Else prove '..UptoSaid'. A law counts once. -/
mutual
def uptoBulk {H : Type} : DataW H → Nat
  | .lit (.string bytes) => bytes.length + 1
  | .lit _ => 1
  | .nil => 1
  | .ptr d => uptoBulk d + 1
  | .slice elems spare => uptoBulkAll elems + uptoBulkAll spare + 1
  | .agg parts => uptoBulkAll parts + 1
  | .iface _ d => uptoBulk d + 1
  | .map entries => uptoBulkEntries entries + 1
  | .held _ => 1
def uptoBulkAll {H : Type} : List (DataW H) → Nat
  | [] => 0
  | d :: r => uptoBulk d + uptoBulkAll r
def uptoBulkEntries {H : Type} : List (Lit × DataW H) → Nat
  | [] => 0
  | x :: r => uptoBulkEntry x + uptoBulkEntries r
def uptoBulkEntry {H : Type} : Lit × DataW H → Nat
  | (.string bytes, d) => bytes.length + uptoBulk d + 1
  | (_, d) => uptoBulk d + 1
 end
def uptoSmall : (H : Type) → List (DataW H) → Bool := fun _ ds => decide (uptoBulkAll ds ≤ 1048576)
def OpenSpec.upto (s : _root_.Go.ChangeSpec) : _root_.Go.OpenSpec := { _root_.Go.OpenSpec.ofChange s with cond := some uptoSmall }

/-- 'laws.FnExactKnotsValid', WHERE WHAT IT READS IS OF BULK AT MOST 1048576: true; the input reads as it did. -/
def fnExactKnotsValidUptoRow : OpenClaim := { program := "ytiimaodphhaohaa", sum := "7e471201407caeefc430586aa4dc124bb67a59ef315c2097641461bca3504cbb", func := "loop.example/fixedmath/laws.FnExactKnotsValid", spec := "fnExactKnotsValid", apart := false, narrowed := true }
def FnExactKnotsValidUptoSaid : Prop := fnExactKnotsValidUptoRow.holds Try.pinned (OpenSpec.upto fnExactKnotsValidSpec)

/-- 'laws.FnExactKnotsRise', WHERE WHAT IT READS IS OF BULK AT MOST 1048576: true; the input reads as it did. -/
def fnExactKnotsRiseUptoRow : OpenClaim := { program := "ytiimaodphhaohaa", sum := "7e471201407caeefc430586aa4dc124bb67a59ef315c2097641461bca3504cbb", func := "loop.example/fixedmath/laws.FnExactKnotsRise", spec := "fnExactKnotsRise", apart := false, narrowed := true }
def FnExactKnotsRiseUptoSaid : Prop := fnExactKnotsRiseUptoRow.holds Try.pinned (OpenSpec.upto fnExactKnotsRiseSpec)

/-- 'laws.FnExactTurnKnots', WHERE WHAT IT READS IS OF BULK AT MOST 1048576: true; the input reads as it did. -/
def fnExactTurnKnotsUptoRow : OpenClaim := { program := "ytiimaodphhaohaa", sum := "7e471201407caeefc430586aa4dc124bb67a59ef315c2097641461bca3504cbb", func := "loop.example/fixedmath/laws.FnExactTurnKnots", spec := "fnExactTurnKnots", apart := false, narrowed := true }
def FnExactTurnKnotsUptoSaid : Prop := fnExactTurnKnotsUptoRow.holds Try.pinned (OpenSpec.upto fnExactTurnKnotsSpec)

/-- 'laws.FnExactKnotValue', WHERE WHAT IT READS IS OF BULK AT MOST 1048576: true; the input reads as it did. -/
def fnExactKnotValueUptoRow : OpenClaim := { program := "ytiimaodphhaohaa", sum := "7e471201407caeefc430586aa4dc124bb67a59ef315c2097641461bca3504cbb", func := "loop.example/fixedmath/laws.FnExactKnotValue", spec := "fnExactKnotValue", apart := false, narrowed := true }
def FnExactKnotValueUptoSaid : Prop := fnExactKnotValueUptoRow.holds Try.pinned (OpenSpec.upto fnExactKnotValueSpec)

/-- 'laws.FnExactJoinKnots', WHERE WHAT IT READS IS OF BULK AT MOST 1048576: true; the input reads as it did. -/
def fnExactJoinKnotsUptoRow : OpenClaim := { program := "ytiimaodphhaohaa", sum := "7e471201407caeefc430586aa4dc124bb67a59ef315c2097641461bca3504cbb", func := "loop.example/fixedmath/laws.FnExactJoinKnots", spec := "fnExactJoinKnots", apart := false, narrowed := true }
def FnExactJoinKnotsUptoSaid : Prop := fnExactJoinKnotsUptoRow.holds Try.pinned (OpenSpec.upto fnExactJoinKnotsSpec)

/-- 'laws.FnKnotsValid', WHERE WHAT IT READS IS OF BULK AT MOST 1048576: true; the input reads as it did. -/
def fnKnotsValidUptoRow : OpenClaim := { program := "ytiimaodphhaohaa", sum := "7e471201407caeefc430586aa4dc124bb67a59ef315c2097641461bca3504cbb", func := "loop.example/fixedmath/laws.FnKnotsValid", spec := "fnKnotsValid", apart := false, narrowed := true }
def FnKnotsValidUptoSaid : Prop := fnKnotsValidUptoRow.holds Try.pinned (OpenSpec.upto fnKnotsValidSpec)

/-- 'laws.FnKnotsRise', WHERE WHAT IT READS IS OF BULK AT MOST 1048576: true; the input reads as it did. -/
def fnKnotsRiseUptoRow : OpenClaim := { program := "ytiimaodphhaohaa", sum := "7e471201407caeefc430586aa4dc124bb67a59ef315c2097641461bca3504cbb", func := "loop.example/fixedmath/laws.FnKnotsRise", spec := "fnKnotsRise", apart := false, narrowed := true }
def FnKnotsRiseUptoSaid : Prop := fnKnotsRiseUptoRow.holds Try.pinned (OpenSpec.upto fnKnotsRiseSpec)

/-- 'laws.FnKnotValue', WHERE WHAT IT READS IS OF BULK AT MOST 1048576: true; the input reads as it did. -/
def fnKnotValueUptoRow : OpenClaim := { program := "ytiimaodphhaohaa", sum := "7e471201407caeefc430586aa4dc124bb67a59ef315c2097641461bca3504cbb", func := "loop.example/fixedmath/laws.FnKnotValue", spec := "fnKnotValue", apart := false, narrowed := true }
def FnKnotValueUptoSaid : Prop := fnKnotValueUptoRow.holds Try.pinned (OpenSpec.upto fnKnotValueSpec)

/-- 'laws.FnTurnKnots', WHERE WHAT IT READS IS OF BULK AT MOST 1048576: true; the input reads as it did. -/
def fnTurnKnotsUptoRow : OpenClaim := { program := "ytiimaodphhaohaa", sum := "7e471201407caeefc430586aa4dc124bb67a59ef315c2097641461bca3504cbb", func := "loop.example/fixedmath/laws.FnTurnKnots", spec := "fnTurnKnots", apart := false, narrowed := true }
def FnTurnKnotsUptoSaid : Prop := fnTurnKnotsUptoRow.holds Try.pinned (OpenSpec.upto fnTurnKnotsSpec)

/-- 'laws.FnJoinKnots', WHERE WHAT IT READS IS OF BULK AT MOST 1048576: true; the input reads as it did. -/
def fnJoinKnotsUptoRow : OpenClaim := { program := "ytiimaodphhaohaa", sum := "7e471201407caeefc430586aa4dc124bb67a59ef315c2097641461bca3504cbb", func := "loop.example/fixedmath/laws.FnJoinKnots", spec := "fnJoinKnots", apart := false, narrowed := true }
def FnJoinKnotsUptoSaid : Prop := fnJoinKnotsUptoRow.holds Try.pinned (OpenSpec.upto fnJoinKnotsSpec)

end Rows
end Go.Proofs.Ytiimaodphhaohaa
