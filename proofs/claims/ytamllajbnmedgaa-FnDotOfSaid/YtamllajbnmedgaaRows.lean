/-
  No cell of these rows narrows 'for every input' (looked for: loops, veiled, ifaces, maps, wideKeys, modest, calm, conditions, laid).
  DERIVED. THE GIVEN ROWS OF THIS SEAT. 5 by the template 'for every input the law returns true; each argument reads behind the call as it read before'; 0 by the template 'total and deterministic' (their statements: YtamllajbnmedgaaTotals.lean).
  GIVEN WITH THE SEED: the statements are not yours to turn. If you find one false, say at which input.
  Laid BY PROGRAM, IN A SANDBOX (cutbox-rows.mjs): the forced cells as the released guide's own fill.sh prints them over the translation f502a431197e5f8f… (all of the seat's roots in one cut). By AI agents, Wed Nov 11 2026. No macro, syntax, notation, axiom, sorry.
-/
import Derived.Test.YtamllajbnmedgaaChecked
import GoSem.Claim
import GoSem.ClaimJoined
import GoSem.ClaimMapViews
import Derived.JoinedTies
import Derived.KernelRfl
namespace Go.Proofs.Ytamllajbnmedgaa
/- THE CELL 'sum', in the pinned program and in every row, IS THE sha256 OF THE DUMP (.gsa) THAT YtamllajbnmedgaaProg.lean LOADS. Nothing in Lean hashes anything: it is a label: what it is worth is what the hold of that sum in a sandbox is worth. -/
noncomputable def Try.pinned : Pinned := { name := "ytamllajbnmedgaa", sum := "f502a431197e5f8fbb1bb5370e278065f0b5c869da259aec7478b98d55750a7f", checked := Try.checked }
namespace Rows
def none {H : Type} : Left H := { results := [], args := [] }

/-- 'laws.FnExactDotOf': WHATEVER THE INPUT: true; the input reads as it did. -/
def fnExactDotOfSpec : ChangeSpec := { name := "fnExactDotOf", fn := fun _ => fun
  | [d1, d2] => { results := [.lit (.bool true)], args := [d1, d2] }
  | _ => none }
def fnExactDotOfRow : OpenClaim := { program := "ytamllajbnmedgaa", sum := "f502a431197e5f8fbb1bb5370e278065f0b5c869da259aec7478b98d55750a7f", func := "loop.example/fixedmath/laws.FnExactDotOf", spec := "fnExactDotOf", apart := false }
def FnExactDotOfSaid : Prop := fnExactDotOfRow.holds Try.pinned (OpenSpec.ofChange fnExactDotOfSpec)

/-- ITS FALSE NEIGHBOUR: 'it returns false'. Refute it at one input. -/
def fnExactDotOfWrong : ChangeSpec := { name := "fnExactDotOf", fn := fun _ => fun
  | [d1, d2] => { results := [.lit (.bool false)], args := [d1, d2] }
  | _ => none }
def FnExactDotOfWrongFalsely : Prop := fnExactDotOfRow.holds Try.pinned (OpenSpec.ofChange fnExactDotOfWrong)

/-- 'laws.FnExactLengthOf': WHATEVER THE INPUT: true; the input reads as it did. -/
def fnExactLengthOfSpec : ChangeSpec := { name := "fnExactLengthOf", fn := fun _ => fun
  | [d] => { results := [.lit (.bool true)], args := [d] }
  | _ => none }
def fnExactLengthOfRow : OpenClaim := { program := "ytamllajbnmedgaa", sum := "f502a431197e5f8fbb1bb5370e278065f0b5c869da259aec7478b98d55750a7f", func := "loop.example/fixedmath/laws.FnExactLengthOf", spec := "fnExactLengthOf", apart := false }
def FnExactLengthOfSaid : Prop := fnExactLengthOfRow.holds Try.pinned (OpenSpec.ofChange fnExactLengthOfSpec)

/-- ITS FALSE NEIGHBOUR: 'it returns false'. Refute it at one input. -/
def fnExactLengthOfWrong : ChangeSpec := { name := "fnExactLengthOf", fn := fun _ => fun
  | [d] => { results := [.lit (.bool false)], args := [d] }
  | _ => none }
def FnExactLengthOfWrongFalsely : Prop := fnExactLengthOfRow.holds Try.pinned (OpenSpec.ofChange fnExactLengthOfWrong)

/-- 'laws.FnMirrorLength': WHATEVER THE INPUT: true; the input reads as it did. -/
def fnMirrorLengthSpec : ChangeSpec := { name := "fnMirrorLength", fn := fun _ => fun
  | [d] => { results := [.lit (.bool true)], args := [d] }
  | _ => none }
def fnMirrorLengthRow : OpenClaim := { program := "ytamllajbnmedgaa", sum := "f502a431197e5f8fbb1bb5370e278065f0b5c869da259aec7478b98d55750a7f", func := "loop.example/fixedmath/laws.FnMirrorLength", spec := "fnMirrorLength", apart := false }
def FnMirrorLengthSaid : Prop := fnMirrorLengthRow.holds Try.pinned (OpenSpec.ofChange fnMirrorLengthSpec)

/-- ITS FALSE NEIGHBOUR: 'it returns false'. Refute it at one input. -/
def fnMirrorLengthWrong : ChangeSpec := { name := "fnMirrorLength", fn := fun _ => fun
  | [d] => { results := [.lit (.bool false)], args := [d] }
  | _ => none }
def FnMirrorLengthWrongFalsely : Prop := fnMirrorLengthRow.holds Try.pinned (OpenSpec.ofChange fnMirrorLengthWrong)

/-- 'laws.FnLengthOf': WHATEVER THE INPUT: true; the input reads as it did. -/
def fnLengthOfSpec : ChangeSpec := { name := "fnLengthOf", fn := fun _ => fun
  | [d] => { results := [.lit (.bool true)], args := [d] }
  | _ => none }
def fnLengthOfRow : OpenClaim := { program := "ytamllajbnmedgaa", sum := "f502a431197e5f8fbb1bb5370e278065f0b5c869da259aec7478b98d55750a7f", func := "loop.example/fixedmath/laws.FnLengthOf", spec := "fnLengthOf", apart := false }
def FnLengthOfSaid : Prop := fnLengthOfRow.holds Try.pinned (OpenSpec.ofChange fnLengthOfSpec)

/-- ITS FALSE NEIGHBOUR: 'it returns false'. Refute it at one input. -/
def fnLengthOfWrong : ChangeSpec := { name := "fnLengthOf", fn := fun _ => fun
  | [d] => { results := [.lit (.bool false)], args := [d] }
  | _ => none }
def FnLengthOfWrongFalsely : Prop := fnLengthOfRow.holds Try.pinned (OpenSpec.ofChange fnLengthOfWrong)

/-- 'laws.FnDotOf': WHATEVER THE INPUT: true; the input reads as it did. -/
def fnDotOfSpec : ChangeSpec := { name := "fnDotOf", fn := fun _ => fun
  | [d] => { results := [.lit (.bool true)], args := [d] }
  | _ => none }
def fnDotOfRow : OpenClaim := { program := "ytamllajbnmedgaa", sum := "f502a431197e5f8fbb1bb5370e278065f0b5c869da259aec7478b98d55750a7f", func := "loop.example/fixedmath/laws.FnDotOf", spec := "fnDotOf", apart := false }
def FnDotOfSaid : Prop := fnDotOfRow.holds Try.pinned (OpenSpec.ofChange fnDotOfSpec)

/-- ITS FALSE NEIGHBOUR: 'it returns false'. Refute it at one input. -/
def fnDotOfWrong : ChangeSpec := { name := "fnDotOf", fn := fun _ => fun
  | [d] => { results := [.lit (.bool false)], args := [d] }
  | _ => none }
def FnDotOfWrongFalsely : Prop := fnDotOfRow.holds Try.pinned (OpenSpec.ofChange fnDotOfWrong)

/- THE SECOND FORM. 'bulk': how many values and letters a reading holds, each counted each time it is reached (what is shared counts as often as it is met; a slice's spare places count too). A statement '..UptoSaid' is the law's where the arguments, and the package variables that the reading takes, are together of bulk at most 1048576: NARROWER than '..Said'. Prove '..Said' where nothing that the law and all that it calls make is longer than what came in: it says more and counts as full. Else prove '..UptoSaid'. A law counts once. -/
mutual
def uptoBulk {H : Type} : DataW H → Nat
  | .lit (.string bytes) => bytes.length + 1
  | .lit _ => 1
  | .nil => 1
  | .ptr d => uptoBulk d + 1
  | .slice elems spare => uptoBulkAll elems + uptoBulkAll spare + 1
  | .agg parts => uptoBulkAll parts + 1
  | .iface _ d => uptoBulk d + 1
  | .map entries => uptoBulkEntries entries + 1
  | .held _ => 1
def uptoBulkAll {H : Type} : List (DataW H) → Nat
  | [] => 0
  | d :: r => uptoBulk d + uptoBulkAll r
def uptoBulkEntries {H : Type} : List (Lit × DataW H) → Nat
  | [] => 0
  | x :: r => uptoBulkEntry x + uptoBulkEntries r
def uptoBulkEntry {H : Type} : Lit × DataW H → Nat
  | (.string bytes, d) => bytes.length + uptoBulk d + 1
  | (_, d) => uptoBulk d + 1
 end
def uptoSmall : (H : Type) → List (DataW H) → Bool := fun _ ds => decide (uptoBulkAll ds ≤ 1048576)
def OpenSpec.upto (s : _root_.Go.ChangeSpec) : _root_.Go.OpenSpec := { _root_.Go.OpenSpec.ofChange s with cond := some uptoSmall }

/-- 'laws.FnExactDotOf', WHERE WHAT IT READS IS OF BULK AT MOST 1048576: true; the input reads as it did. -/
def fnExactDotOfUptoRow : OpenClaim := { program := "ytamllajbnmedgaa", sum := "f502a431197e5f8fbb1bb5370e278065f0b5c869da259aec7478b98d55750a7f", func := "loop.example/fixedmath/laws.FnExactDotOf", spec := "fnExactDotOf", apart := false, narrowed := true }
def FnExactDotOfUptoSaid : Prop := fnExactDotOfUptoRow.holds Try.pinned (OpenSpec.upto fnExactDotOfSpec)

/-- 'laws.FnExactLengthOf', WHERE WHAT IT READS IS OF BULK AT MOST 1048576: true; the input reads as it did. -/
def fnExactLengthOfUptoRow : OpenClaim := { program := "ytamllajbnmedgaa", sum := "f502a431197e5f8fbb1bb5370e278065f0b5c869da259aec7478b98d55750a7f", func := "loop.example/fixedmath/laws.FnExactLengthOf", spec := "fnExactLengthOf", apart := false, narrowed := true }
def FnExactLengthOfUptoSaid : Prop := fnExactLengthOfUptoRow.holds Try.pinned (OpenSpec.upto fnExactLengthOfSpec)

/-- 'laws.FnMirrorLength', WHERE WHAT IT READS IS OF BULK AT MOST 1048576: true; the input reads as it did. -/
def fnMirrorLengthUptoRow : OpenClaim := { program := "ytamllajbnmedgaa", sum := "f502a431197e5f8fbb1bb5370e278065f0b5c869da259aec7478b98d55750a7f", func := "loop.example/fixedmath/laws.FnMirrorLength", spec := "fnMirrorLength", apart := false, narrowed := true }
def FnMirrorLengthUptoSaid : Prop := fnMirrorLengthUptoRow.holds Try.pinned (OpenSpec.upto fnMirrorLengthSpec)

/-- 'laws.FnLengthOf', WHERE WHAT IT READS IS OF BULK AT MOST 1048576: true; the input reads as it did. -/
def fnLengthOfUptoRow : OpenClaim := { program := "ytamllajbnmedgaa", sum := "f502a431197e5f8fbb1bb5370e278065f0b5c869da259aec7478b98d55750a7f", func := "loop.example/fixedmath/laws.FnLengthOf", spec := "fnLengthOf", apart := false, narrowed := true }
def FnLengthOfUptoSaid : Prop := fnLengthOfUptoRow.holds Try.pinned (OpenSpec.upto fnLengthOfSpec)

/-- 'laws.FnDotOf', WHERE WHAT IT READS IS OF BULK AT MOST 1048576: true; the input reads as it did. -/
def fnDotOfUptoRow : OpenClaim := { program := "ytamllajbnmedgaa", sum := "f502a431197e5f8fbb1bb5370e278065f0b5c869da259aec7478b98d55750a7f", func := "loop.example/fixedmath/laws.FnDotOf", spec := "fnDotOf", apart := false, narrowed := true }
def FnDotOfUptoSaid : Prop := fnDotOfUptoRow.holds Try.pinned (OpenSpec.upto fnDotOfSpec)

end Rows
end Go.Proofs.Ytamllajbnmedgaa
