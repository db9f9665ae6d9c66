/-
  No cell of these rows narrows 'for every input' (looked for: loops, veiled, ifaces, maps, wideKeys, modest, calm, conditions, laid).
  DERIVED. THE GIVEN ROWS OF THIS SEAT. 11 by the template 'for every input the law returns true; each argument reads behind the call as it read before'; 0 by the template 'total and deterministic' (their statements: YtpmojbdoiahodaaTotals.lean).
  GIVEN WITH THE SEED: the statements are not yours to turn. If you find one false, say at which input.
  Laid BY PROGRAM, IN A SANDBOX (cutbox-rows.mjs): the forced cells as the released guide's own fill.sh prints them over the translation c4e91fb46898b4e2… (all of the seat's roots in one cut). By AI agents, Wed Nov 11 2026. No macro, syntax, notation, axiom, sorry.
-/
import Derived.Test.YtpmojbdoiahodaaChecked
import GoSem.Claim
import GoSem.ClaimJoined
import GoSem.ClaimMapViews
import Derived.JoinedTies
import Derived.KernelRfl
namespace Go.Proofs.Ytpmojbdoiahodaa
/- THE CELL 'sum', in the pinned program and in every row, IS THE sha256 OF THE DUMP (.gsa) THAT YtpmojbdoiahodaaProg.lean LOADS. Nothing in Lean hashes anything: it is a label: what it is worth is what the hold of that sum in a sandbox is worth. -/
noncomputable def Try.pinned : Pinned := { name := "ytpmojbdoiahodaa", sum := "c4e91fb46898b4e221e577dca0c460d6e7b68cced69c8870d5ac1659f3244ddd", checked := Try.checked }
namespace Rows
def none {H : Type} : Left H := { results := [], args := [] }

/-- 'laws.FnExactSeriesValid': WHATEVER THE INPUT: true; the input reads as it did. -/
def fnExactSeriesValidSpec : ChangeSpec := { name := "fnExactSeriesValid", fn := fun _ => fun
  | [d] => { results := [.lit (.bool true)], args := [d] }
  | _ => none }
def fnExactSeriesValidRow : OpenClaim := { program := "ytpmojbdoiahodaa", sum := "c4e91fb46898b4e221e577dca0c460d6e7b68cced69c8870d5ac1659f3244ddd", func := "loop.example/fixedmath/laws.FnExactSeriesValid", spec := "fnExactSeriesValid", apart := false }
def FnExactSeriesValidSaid : Prop := fnExactSeriesValidRow.holds Try.pinned (OpenSpec.ofChange fnExactSeriesValidSpec)

/-- ITS FALSE NEIGHBOUR: 'it returns false'. Refute it at one input. -/
def fnExactSeriesValidWrong : ChangeSpec := { name := "fnExactSeriesValid", fn := fun _ => fun
  | [d] => { results := [.lit (.bool false)], args := [d] }
  | _ => none }
def FnExactSeriesValidWrongFalsely : Prop := fnExactSeriesValidRow.holds Try.pinned (OpenSpec.ofChange fnExactSeriesValidWrong)

/-- 'laws.FnExactLimitSteps': WHATEVER THE INPUT: true; the input reads as it did. -/
def fnExactLimitStepsSpec : ChangeSpec := { name := "fnExactLimitSteps", fn := fun _ => fun
  | [d1, d2] => { results := [.lit (.bool true)], args := [d1, d2] }
  | _ => none }
def fnExactLimitStepsRow : OpenClaim := { program := "ytpmojbdoiahodaa", sum := "c4e91fb46898b4e221e577dca0c460d6e7b68cced69c8870d5ac1659f3244ddd", func := "loop.example/fixedmath/laws.FnExactLimitSteps", spec := "fnExactLimitSteps", apart := false }
def FnExactLimitStepsSaid : Prop := fnExactLimitStepsRow.holds Try.pinned (OpenSpec.ofChange fnExactLimitStepsSpec)

/-- ITS FALSE NEIGHBOUR: 'it returns false'. Refute it at one input. -/
def fnExactLimitStepsWrong : ChangeSpec := { name := "fnExactLimitSteps", fn := fun _ => fun
  | [d1, d2] => { results := [.lit (.bool false)], args := [d1, d2] }
  | _ => none }
def FnExactLimitStepsWrongFalsely : Prop := fnExactLimitStepsRow.holds Try.pinned (OpenSpec.ofChange fnExactLimitStepsWrong)

/-- 'laws.FnExactMiddleFilter': WHATEVER THE INPUT: true; the input reads as it did. -/
def fnExactMiddleFilterSpec : ChangeSpec := { name := "fnExactMiddleFilter", fn := fun _ => fun
  | [d] => { results := [.lit (.bool true)], args := [d] }
  | _ => none }
def fnExactMiddleFilterRow : OpenClaim := { program := "ytpmojbdoiahodaa", sum := "c4e91fb46898b4e221e577dca0c460d6e7b68cced69c8870d5ac1659f3244ddd", func := "loop.example/fixedmath/laws.FnExactMiddleFilter", spec := "fnExactMiddleFilter", apart := false }
def FnExactMiddleFilterSaid : Prop := fnExactMiddleFilterRow.holds Try.pinned (OpenSpec.ofChange fnExactMiddleFilterSpec)

/-- ITS FALSE NEIGHBOUR: 'it returns false'. Refute it at one input. -/
def fnExactMiddleFilterWrong : ChangeSpec := { name := "fnExactMiddleFilter", fn := fun _ => fun
  | [d] => { results := [.lit (.bool false)], args := [d] }
  | _ => none }
def FnExactMiddleFilterWrongFalsely : Prop := fnExactMiddleFilterRow.holds Try.pinned (OpenSpec.ofChange fnExactMiddleFilterWrong)

/-- 'laws.FnExactSmoothFilter': WHATEVER THE INPUT: true; the input reads as it did. -/
def fnExactSmoothFilterSpec : ChangeSpec := { name := "fnExactSmoothFilter", fn := fun _ => fun
  | [d1, d2] => { results := [.lit (.bool true)], args := [d1, d2] }
  | _ => none }
def fnExactSmoothFilterRow : OpenClaim := { program := "ytpmojbdoiahodaa", sum := "c4e91fb46898b4e221e577dca0c460d6e7b68cced69c8870d5ac1659f3244ddd", func := "loop.example/fixedmath/laws.FnExactSmoothFilter", spec := "fnExactSmoothFilter", apart := false }
def FnExactSmoothFilterSaid : Prop := fnExactSmoothFilterRow.holds Try.pinned (OpenSpec.ofChange fnExactSmoothFilterSpec)

/-- ITS FALSE NEIGHBOUR: 'it returns false'. Refute it at one input. -/
def fnExactSmoothFilterWrong : ChangeSpec := { name := "fnExactSmoothFilter", fn := fun _ => fun
  | [d1, d2] => { results := [.lit (.bool false)], args := [d1, d2] }
  | _ => none }
def FnExactSmoothFilterWrongFalsely : Prop := fnExactSmoothFilterRow.holds Try.pinned (OpenSpec.ofChange fnExactSmoothFilterWrong)

/-- 'laws.FnExactMeanFilter': WHATEVER THE INPUT: true; the input reads as it did. -/
def fnExactMeanFilterSpec : ChangeSpec := { name := "fnExactMeanFilter", fn := fun _ => fun
  | [d1, d2] => { results := [.lit (.bool true)], args := [d1, d2] }
  | _ => none }
def fnExactMeanFilterRow : OpenClaim := { program := "ytpmojbdoiahodaa", sum := "c4e91fb46898b4e221e577dca0c460d6e7b68cced69c8870d5ac1659f3244ddd", func := "loop.example/fixedmath/laws.FnExactMeanFilter", spec := "fnExactMeanFilter", apart := false }
def FnExactMeanFilterSaid : Prop := fnExactMeanFilterRow.holds Try.pinned (OpenSpec.ofChange fnExactMeanFilterSpec)

/-- ITS FALSE NEIGHBOUR: 'it returns false'. Refute it at one input. -/
def fnExactMeanFilterWrong : ChangeSpec := { name := "fnExactMeanFilter", fn := fun _ => fun
  | [d1, d2] => { results := [.lit (.bool false)], args := [d1, d2] }
  | _ => none }
def FnExactMeanFilterWrongFalsely : Prop := fnExactMeanFilterRow.holds Try.pinned (OpenSpec.ofChange fnExactMeanFilterWrong)

/-- 'laws.FnSeriesValid': WHATEVER THE INPUT: true; the input reads as it did. -/
def fnSeriesValidSpec : ChangeSpec := { name := "fnSeriesValid", fn := fun _ => fun
  | [d] => { results := [.lit (.bool true)], args := [d] }
  | _ => none }
def fnSeriesValidRow : OpenClaim := { program := "ytpmojbdoiahodaa", sum := "c4e91fb46898b4e221e577dca0c460d6e7b68cced69c8870d5ac1659f3244ddd", func := "loop.example/fixedmath/laws.FnSeriesValid", spec := "fnSeriesValid", apart := false }
def FnSeriesValidSaid : Prop := fnSeriesValidRow.holds Try.pinned (OpenSpec.ofChange fnSeriesValidSpec)

/-- ITS FALSE NEIGHBOUR: 'it returns false'. Refute it at one input. -/
def fnSeriesValidWrong : ChangeSpec := { name := "fnSeriesValid", fn := fun _ => fun
  | [d] => { results := [.lit (.bool false)], args := [d] }
  | _ => none }
def FnSeriesValidWrongFalsely : Prop := fnSeriesValidRow.holds Try.pinned (OpenSpec.ofChange fnSeriesValidWrong)

/-- 'laws.FnMiddleFilter': WHATEVER THE INPUT: true; the input reads as it did. -/
def fnMiddleFilterSpec : ChangeSpec := { name := "fnMiddleFilter", fn := fun _ => fun
  | [d] => { results := [.lit (.bool true)], args := [d] }
  | _ => none }
def fnMiddleFilterRow : OpenClaim := { program := "ytpmojbdoiahodaa", sum := "c4e91fb46898b4e221e577dca0c460d6e7b68cced69c8870d5ac1659f3244ddd", func := "loop.example/fixedmath/laws.FnMiddleFilter", spec := "fnMiddleFilter", apart := false }
def FnMiddleFilterSaid : Prop := fnMiddleFilterRow.holds Try.pinned (OpenSpec.ofChange fnMiddleFilterSpec)

/-- ITS FALSE NEIGHBOUR: 'it returns false'. Refute it at one input. -/
def fnMiddleFilterWrong : ChangeSpec := { name := "fnMiddleFilter", fn := fun _ => fun
  | [d] => { results := [.lit (.bool false)], args := [d] }
  | _ => none }
def FnMiddleFilterWrongFalsely : Prop := fnMiddleFilterRow.holds Try.pinned (OpenSpec.ofChange fnMiddleFilterWrong)

/-- 'laws.FnMiddleSpike': WHATEVER THE INPUT: true; the input reads as it did. -/
def fnMiddleSpikeSpec : ChangeSpec := { name := "fnMiddleSpike", fn := fun _ => fun
  | [d] => { results := [.lit (.bool true)], args := [d] }
  | _ => none }
def fnMiddleSpikeRow : OpenClaim := { program := "ytpmojbdoiahodaa", sum := "c4e91fb46898b4e221e577dca0c460d6e7b68cced69c8870d5ac1659f3244ddd", func := "loop.example/fixedmath/laws.FnMiddleSpike", spec := "fnMiddleSpike", apart := false }
def FnMiddleSpikeSaid : Prop := fnMiddleSpikeRow.holds Try.pinned (OpenSpec.ofChange fnMiddleSpikeSpec)

/-- ITS FALSE NEIGHBOUR: 'it returns false'. Refute it at one input. -/
def fnMiddleSpikeWrong : ChangeSpec := { name := "fnMiddleSpike", fn := fun _ => fun
  | [d] => { results := [.lit (.bool false)], args := [d] }
  | _ => none }
def FnMiddleSpikeWrongFalsely : Prop := fnMiddleSpikeRow.holds Try.pinned (OpenSpec.ofChange fnMiddleSpikeWrong)

/-- 'laws.FnLimitSteps': WHATEVER THE INPUT: true; the input reads as it did. -/
def fnLimitStepsSpec : ChangeSpec := { name := "fnLimitSteps", fn := fun _ => fun
  | [d] => { results := [.lit (.bool true)], args := [d] }
  | _ => none }
def fnLimitStepsRow : OpenClaim := { program := "ytpmojbdoiahodaa", sum := "c4e91fb46898b4e221e577dca0c460d6e7b68cced69c8870d5ac1659f3244ddd", func := "loop.example/fixedmath/laws.FnLimitSteps", spec := "fnLimitSteps", apart := false }
def FnLimitStepsSaid : Prop := fnLimitStepsRow.holds Try.pinned (OpenSpec.ofChange fnLimitStepsSpec)

/-- ITS FALSE NEIGHBOUR: 'it returns false'. Refute it at one input. -/
def fnLimitStepsWrong : ChangeSpec := { name := "fnLimitSteps", fn := fun _ => fun
  | [d] => { results := [.lit (.bool false)], args := [d] }
  | _ => none }
def FnLimitStepsWrongFalsely : Prop := fnLimitStepsRow.holds Try.pinned (OpenSpec.ofChange fnLimitStepsWrong)

/-- 'laws.FnSmoothFilter': WHATEVER THE INPUT: true; the input reads as it did. -/
def fnSmoothFilterSpec : ChangeSpec := { name := "fnSmoothFilter", fn := fun _ => fun
  | [d] => { results := [.lit (.bool true)], args := [d] }
  | _ => none }
def fnSmoothFilterRow : OpenClaim := { program := "ytpmojbdoiahodaa", sum := "c4e91fb46898b4e221e577dca0c460d6e7b68cced69c8870d5ac1659f3244ddd", func := "loop.example/fixedmath/laws.FnSmoothFilter", spec := "fnSmoothFilter", apart := false }
def FnSmoothFilterSaid : Prop := fnSmoothFilterRow.holds Try.pinned (OpenSpec.ofChange fnSmoothFilterSpec)

/-- ITS FALSE NEIGHBOUR: 'it returns false'. Refute it at one input. -/
def fnSmoothFilterWrong : ChangeSpec := { name := "fnSmoothFilter", fn := fun _ => fun
  | [d] => { results := [.lit (.bool false)], args := [d] }
  | _ => none }
def FnSmoothFilterWrongFalsely : Prop := fnSmoothFilterRow.holds Try.pinned (OpenSpec.ofChange fnSmoothFilterWrong)

/-- 'laws.FnMeanFilter': WHATEVER THE INPUT: true; the input reads as it did. -/
def fnMeanFilterSpec : ChangeSpec := { name := "fnMeanFilter", fn := fun _ => fun
  | [d] => { results := [.lit (.bool true)], args := [d] }
  | _ => none }
def fnMeanFilterRow : OpenClaim := { program := "ytpmojbdoiahodaa", sum := "c4e91fb46898b4e221e577dca0c460d6e7b68cced69c8870d5ac1659f3244ddd", func := "loop.example/fixedmath/laws.FnMeanFilter", spec := "fnMeanFilter", apart := false }
def FnMeanFilterSaid : Prop := fnMeanFilterRow.holds Try.pinned (OpenSpec.ofChange fnMeanFilterSpec)

/-- ITS FALSE NEIGHBOUR: 'it returns false'. Refute it at one input. -/
def fnMeanFilterWrong : ChangeSpec := { name := "fnMeanFilter", fn := fun _ => fun
  | [d] => { results := [.lit (.bool false)], args := [d] }
  | _ => none }
def FnMeanFilterWrongFalsely : Prop := fnMeanFilterRow.holds Try.pinned (OpenSpec.ofChange fnMeanFilterWrong)

/- THE SECOND FORM. 'bulk': how many values and letters a reading holds, each counted each time it is reached (what is shared counts as often as it is met; a slice's spare places count too). A statement '..UptoSaid' is the law's where the arguments, and the package variables that the reading takes, are together of bulk at most 1048576: NARROWER than '..Said'. Prove '..Said' where nothing that the law and all that it calls make is longer than what came in: it says more and counts as full. Else prove '..UptoSaid'. A law counts once. -/
mutual
def uptoBulk {H : Type} : DataW H → Nat
  | .lit (.string bytes) => bytes.length + 1
  | .lit _ => 1
  | .nil => 1
  | .ptr d => uptoBulk d + 1
  | .slice elems spare => uptoBulkAll elems + uptoBulkAll spare + 1
  | .agg parts => uptoBulkAll parts + 1
  | .iface _ d => uptoBulk d + 1
  | .map entries => uptoBulkEntries entries + 1
  | .held _ => 1
def uptoBulkAll {H : Type} : List (DataW H) → Nat
  | [] => 0
  | d :: r => uptoBulk d + uptoBulkAll r
def uptoBulkEntries {H : Type} : List (Lit × DataW H) → Nat
  | [] => 0
  | x :: r => uptoBulkEntry x + uptoBulkEntries r
def uptoBulkEntry {H : Type} : Lit × DataW H → Nat
  | (.string bytes, d) => bytes.length + uptoBulk d + 1
  | (_, d) => uptoBulk d + 1
 end
def uptoSmall : (H : Type) → List (DataW H) → Bool := fun _ ds => decide (uptoBulkAll ds ≤ 1048576)
def OpenSpec.upto (s : _root_.Go.ChangeSpec) : _root_.Go.OpenSpec := { _root_.Go.OpenSpec.ofChange s with cond := some uptoSmall }

/-- 'laws.FnExactSeriesValid', WHERE WHAT IT READS IS OF BULK AT MOST 1048576: true; the input reads as it did. -/
def fnExactSeriesValidUptoRow : OpenClaim := { program := "ytpmojbdoiahodaa", sum := "c4e91fb46898b4e221e577dca0c460d6e7b68cced69c8870d5ac1659f3244ddd", func := "loop.example/fixedmath/laws.FnExactSeriesValid", spec := "fnExactSeriesValid", apart := false, narrowed := true }
def FnExactSeriesValidUptoSaid : Prop := fnExactSeriesValidUptoRow.holds Try.pinned (OpenSpec.upto fnExactSeriesValidSpec)

/-- 'laws.FnExactLimitSteps', WHERE WHAT IT READS IS OF BULK AT MOST 1048576: true; the input reads as it did. -/
def fnExactLimitStepsUptoRow : OpenClaim := { program := "ytpmojbdoiahodaa", sum := "c4e91fb46898b4e221e577dca0c460d6e7b68cced69c8870d5ac1659f3244ddd", func := "loop.example/fixedmath/laws.FnExactLimitSteps", spec := "fnExactLimitSteps", apart := false, narrowed := true }
def FnExactLimitStepsUptoSaid : Prop := fnExactLimitStepsUptoRow.holds Try.pinned (OpenSpec.upto fnExactLimitStepsSpec)

/-- 'laws.FnExactMiddleFilter', WHERE WHAT IT READS IS OF BULK AT MOST 1048576: true; the input reads as it did. -/
def fnExactMiddleFilterUptoRow : OpenClaim := { program := "ytpmojbdoiahodaa", sum := "c4e91fb46898b4e221e577dca0c460d6e7b68cced69c8870d5ac1659f3244ddd", func := "loop.example/fixedmath/laws.FnExactMiddleFilter", spec := "fnExactMiddleFilter", apart := false, narrowed := true }
def FnExactMiddleFilterUptoSaid : Prop := fnExactMiddleFilterUptoRow.holds Try.pinned (OpenSpec.upto fnExactMiddleFilterSpec)

/-- 'laws.FnExactSmoothFilter', WHERE WHAT IT READS IS OF BULK AT MOST 1048576: true; the input reads as it did. -/
def fnExactSmoothFilterUptoRow : OpenClaim := { program := "ytpmojbdoiahodaa", sum := "c4e91fb46898b4e221e577dca0c460d6e7b68cced69c8870d5ac1659f3244ddd", func := "loop.example/fixedmath/laws.FnExactSmoothFilter", spec := "fnExactSmoothFilter", apart := false, narrowed := true }
def FnExactSmoothFilterUptoSaid : Prop := fnExactSmoothFilterUptoRow.holds Try.pinned (OpenSpec.upto fnExactSmoothFilterSpec)

/-- 'laws.FnExactMeanFilter', WHERE WHAT IT READS IS OF BULK AT MOST 1048576: true; the input reads as it did. -/
def fnExactMeanFilterUptoRow : OpenClaim := { program := "ytpmojbdoiahodaa", sum := "c4e91fb46898b4e221e577dca0c460d6e7b68cced69c8870d5ac1659f3244ddd", func := "loop.example/fixedmath/laws.FnExactMeanFilter", spec := "fnExactMeanFilter", apart := false, narrowed := true }
def FnExactMeanFilterUptoSaid : Prop := fnExactMeanFilterUptoRow.holds Try.pinned (OpenSpec.upto fnExactMeanFilterSpec)

/-- 'laws.FnSeriesValid', WHERE WHAT IT READS IS OF BULK AT MOST 1048576: true; the input reads as it did. -/
def fnSeriesValidUptoRow : OpenClaim := { program := "ytpmojbdoiahodaa", sum := "c4e91fb46898b4e221e577dca0c460d6e7b68cced69c8870d5ac1659f3244ddd", func := "loop.example/fixedmath/laws.FnSeriesValid", spec := "fnSeriesValid", apart := false, narrowed := true }
def FnSeriesValidUptoSaid : Prop := fnSeriesValidUptoRow.holds Try.pinned (OpenSpec.upto fnSeriesValidSpec)

/-- 'laws.FnMiddleFilter', WHERE WHAT IT READS IS OF BULK AT MOST 1048576: true; the input reads as it did. -/
def fnMiddleFilterUptoRow : OpenClaim := { program := "ytpmojbdoiahodaa", sum := "c4e91fb46898b4e221e577dca0c460d6e7b68cced69c8870d5ac1659f3244ddd", func := "loop.example/fixedmath/laws.FnMiddleFilter", spec := "fnMiddleFilter", apart := false, narrowed := true }
def FnMiddleFilterUptoSaid : Prop := fnMiddleFilterUptoRow.holds Try.pinned (OpenSpec.upto fnMiddleFilterSpec)

/-- 'laws.FnMiddleSpike', WHERE WHAT IT READS IS OF BULK AT MOST 1048576: true; the input reads as it did. -/
def fnMiddleSpikeUptoRow : OpenClaim := { program := "ytpmojbdoiahodaa", sum := "c4e91fb46898b4e221e577dca0c460d6e7b68cced69c8870d5ac1659f3244ddd", func := "loop.example/fixedmath/laws.FnMiddleSpike", spec := "fnMiddleSpike", apart := false, narrowed := true }
def FnMiddleSpikeUptoSaid : Prop := fnMiddleSpikeUptoRow.holds Try.pinned (OpenSpec.upto fnMiddleSpikeSpec)

/-- 'laws.FnLimitSteps', WHERE WHAT IT READS IS OF BULK AT MOST 1048576: true; the input reads as it did. -/
def fnLimitStepsUptoRow : OpenClaim := { program := "ytpmojbdoiahodaa", sum := "c4e91fb46898b4e221e577dca0c460d6e7b68cced69c8870d5ac1659f3244ddd", func := "loop.example/fixedmath/laws.FnLimitSteps", spec := "fnLimitSteps", apart := false, narrowed := true }
def FnLimitStepsUptoSaid : Prop := fnLimitStepsUptoRow.holds Try.pinned (OpenSpec.upto fnLimitStepsSpec)

/-- 'laws.FnSmoothFilter', WHERE WHAT IT READS IS OF BULK AT MOST 1048576: true; the input reads as it did. -/
def fnSmoothFilterUptoRow : OpenClaim := { program := "ytpmojbdoiahodaa", sum := "c4e91fb46898b4e221e577dca0c460d6e7b68cced69c8870d5ac1659f3244ddd", func := "loop.example/fixedmath/laws.FnSmoothFilter", spec := "fnSmoothFilter", apart := false, narrowed := true }
def FnSmoothFilterUptoSaid : Prop := fnSmoothFilterUptoRow.holds Try.pinned (OpenSpec.upto fnSmoothFilterSpec)

/-- 'laws.FnMeanFilter', WHERE WHAT IT READS IS OF BULK AT MOST 1048576: true; the input reads as it did. -/
def fnMeanFilterUptoRow : OpenClaim := { program := "ytpmojbdoiahodaa", sum := "c4e91fb46898b4e221e577dca0c460d6e7b68cced69c8870d5ac1659f3244ddd", func := "loop.example/fixedmath/laws.FnMeanFilter", spec := "fnMeanFilter", apart := false, narrowed := true }
def FnMeanFilterUptoSaid : Prop := fnMeanFilterUptoRow.holds Try.pinned (OpenSpec.upto fnMeanFilterSpec)

end Rows
end Go.Proofs.Ytpmojbdoiahodaa
