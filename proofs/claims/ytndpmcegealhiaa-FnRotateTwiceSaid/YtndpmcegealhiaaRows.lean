/-
  No cell of these rows narrows 'for every input' (looked for: loops, veiled, ifaces, maps, wideKeys, modest, calm, conditions, laid).
  DERIVED. THE GIVEN ROWS OF THIS SEAT. 4 by the template 'for every input the law returns true; each argument reads behind the call as it read before'; 0 by the template 'total and deterministic' (their statements: YtndpmcegealhiaaTotals.lean).
  GIVEN WITH THE SEED: the statements are not yours to turn. If you find one false, say at which input.
  Laid BY PROGRAM, IN A SANDBOX (cutbox-rows.mjs): the forced cells as the released guide's own fill.sh prints them over the translation 7050f524cb3933f5… (all of the seat's roots in one cut). By AI agents, Wed Nov 11 2026. No macro, syntax, notation, axiom, sorry.
-/
import Derived.Test.YtndpmcegealhiaaChecked
import GoSem.Claim
import GoSem.ClaimJoined
import GoSem.ClaimMapViews
import Derived.JoinedTies
import Derived.KernelRfl
namespace Go.Proofs.Ytndpmcegealhiaa
/- THE CELL 'sum', in the pinned program and in every row, IS THE sha256 OF THE DUMP (.gsa) THAT YtndpmcegealhiaaProg.lean LOADS. Nothing in Lean hashes anything: it is a label: what it is worth is what the hold of that sum in a sandbox is worth. -/
noncomputable def Try.pinned : Pinned := { name := "ytndpmcegealhiaa", sum := "7050f524cb3933f50641621b00d4dee978ced5e1a3bd4ab029e61be8a853da56", checked := Try.checked }
namespace Rows
def none {H : Type} : Left H := { results := [], args := [] }

/-- 'laws.FnRotateVector': WHATEVER THE INPUT: true; the input reads as it did. -/
def fnRotateVectorSpec : ChangeSpec := { name := "fnRotateVector", fn := fun _ => fun
  | [d] => { results := [.lit (.bool true)], args := [d] }
  | _ => none }
def fnRotateVectorRow : OpenClaim := { program := "ytndpmcegealhiaa", sum := "7050f524cb3933f50641621b00d4dee978ced5e1a3bd4ab029e61be8a853da56", func := "loop.example/fixedmath/laws.FnRotateVector", spec := "fnRotateVector", recurses := true, apart := false }
def FnRotateVectorSaid : Prop := fnRotateVectorRow.holds Try.pinned (OpenSpec.ofChange fnRotateVectorSpec)

/-- ITS FALSE NEIGHBOUR: 'it returns false'. Refute it at one input. -/
def fnRotateVectorWrong : ChangeSpec := { name := "fnRotateVector", fn := fun _ => fun
  | [d] => { results := [.lit (.bool false)], args := [d] }
  | _ => none }
def FnRotateVectorWrongFalsely : Prop := fnRotateVectorRow.holds Try.pinned (OpenSpec.ofChange fnRotateVectorWrong)

/-- 'laws.FnExactRotateVector': WHATEVER THE INPUT: true; the input reads as it did. -/
def fnExactRotateVectorSpec : ChangeSpec := { name := "fnExactRotateVector", fn := fun _ => fun
  | [d1, d2] => { results := [.lit (.bool true)], args := [d1, d2] }
  | _ => none }
def fnExactRotateVectorRow : OpenClaim := { program := "ytndpmcegealhiaa", sum := "7050f524cb3933f50641621b00d4dee978ced5e1a3bd4ab029e61be8a853da56", func := "loop.example/fixedmath/laws.FnExactRotateVector", spec := "fnExactRotateVector", recurses := true, apart := false }
def FnExactRotateVectorSaid : Prop := fnExactRotateVectorRow.holds Try.pinned (OpenSpec.ofChange fnExactRotateVectorSpec)

/-- ITS FALSE NEIGHBOUR: 'it returns false'. Refute it at one input. -/
def fnExactRotateVectorWrong : ChangeSpec := { name := "fnExactRotateVector", fn := fun _ => fun
  | [d1, d2] => { results := [.lit (.bool false)], args := [d1, d2] }
  | _ => none }
def FnExactRotateVectorWrongFalsely : Prop := fnExactRotateVectorRow.holds Try.pinned (OpenSpec.ofChange fnExactRotateVectorWrong)

/-- 'laws.FnRotateTwice': WHATEVER THE INPUT: true; the input reads as it did. -/
def fnRotateTwiceSpec : ChangeSpec := { name := "fnRotateTwice", fn := fun _ => fun
  | [d] => { results := [.lit (.bool true)], args := [d] }
  | _ => none }
def fnRotateTwiceRow : OpenClaim := { program := "ytndpmcegealhiaa", sum := "7050f524cb3933f50641621b00d4dee978ced5e1a3bd4ab029e61be8a853da56", func := "loop.example/fixedmath/laws.FnRotateTwice", spec := "fnRotateTwice", recurses := true, apart := false }
def FnRotateTwiceSaid : Prop := fnRotateTwiceRow.holds Try.pinned (OpenSpec.ofChange fnRotateTwiceSpec)

/-- ITS FALSE NEIGHBOUR: 'it returns false'. Refute it at one input. -/
def fnRotateTwiceWrong : ChangeSpec := { name := "fnRotateTwice", fn := fun _ => fun
  | [d] => { results := [.lit (.bool false)], args := [d] }
  | _ => none }
def FnRotateTwiceWrongFalsely : Prop := fnRotateTwiceRow.holds Try.pinned (OpenSpec.ofChange fnRotateTwiceWrong)

/-- 'laws.FnDirectionBack': WHATEVER THE INPUT: true; the input reads as it did. -/
def fnDirectionBackSpec : ChangeSpec := { name := "fnDirectionBack", fn := fun _ => fun
  | [d] => { results := [.lit (.bool true)], args := [d] }
  | _ => none }
def fnDirectionBackRow : OpenClaim := { program := "ytndpmcegealhiaa", sum := "7050f524cb3933f50641621b00d4dee978ced5e1a3bd4ab029e61be8a853da56", func := "loop.example/fixedmath/laws.FnDirectionBack", spec := "fnDirectionBack", recurses := true, apart := false }
def FnDirectionBackSaid : Prop := fnDirectionBackRow.holds Try.pinned (OpenSpec.ofChange fnDirectionBackSpec)

/-- ITS FALSE NEIGHBOUR: 'it returns false'. Refute it at one input. -/
def fnDirectionBackWrong : ChangeSpec := { name := "fnDirectionBack", fn := fun _ => fun
  | [d] => { results := [.lit (.bool false)], args := [d] }
  | _ => none }
def FnDirectionBackWrongFalsely : Prop := fnDirectionBackRow.holds Try.pinned (OpenSpec.ofChange fnDirectionBackWrong)

/- THE SECOND FORM. 'bulk': how many values and letters a reading holds, each counted each time it is reached (what is shared counts as often as it is met; a slice's spare places count too). A statement '..UptoSaid' is the law's where the arguments, and the package variables that the reading takes, are together of bulk at most 1048576: NARROWER than '..Said'. Prove '..Said' where nothing that the law and all that it calls make is longer than what came in: it says more and counts as full. Else prove '..UptoSaid'. A law counts once. -/
mutual
def uptoBulk {H : Type} : DataW H → Nat
  | .lit (.string bytes) => bytes.length + 1
  | .lit _ => 1
  | .nil => 1
  | .ptr d => uptoBulk d + 1
  | .slice elems spare => uptoBulkAll elems + uptoBulkAll spare + 1
  | .agg parts => uptoBulkAll parts + 1
  | .iface _ d => uptoBulk d + 1
  | .map entries => uptoBulkEntries entries + 1
  | .held _ => 1
def uptoBulkAll {H : Type} : List (DataW H) → Nat
  | [] => 0
  | d :: r => uptoBulk d + uptoBulkAll r
def uptoBulkEntries {H : Type} : List (Lit × DataW H) → Nat
  | [] => 0
  | x :: r => uptoBulkEntry x + uptoBulkEntries r
def uptoBulkEntry {H : Type} : Lit × DataW H → Nat
  | (.string bytes, d) => bytes.length + uptoBulk d + 1
  | (_, d) => uptoBulk d + 1
 end
def uptoSmall : (H : Type) → List (DataW H) → Bool := fun _ ds => decide (uptoBulkAll ds ≤ 1048576)
def OpenSpec.upto (s : _root_.Go.ChangeSpec) : _root_.Go.OpenSpec := { _root_.Go.OpenSpec.ofChange s with cond := some uptoSmall }

/-- 'laws.FnRotateVector', WHERE WHAT IT READS IS OF BULK AT MOST 1048576: true; the input reads as it did. -/
def fnRotateVectorUptoRow : OpenClaim := { program := "ytndpmcegealhiaa", sum := "7050f524cb3933f50641621b00d4dee978ced5e1a3bd4ab029e61be8a853da56", func := "loop.example/fixedmath/laws.FnRotateVector", spec := "fnRotateVector", recurses := true, apart := false, narrowed := true }
def FnRotateVectorUptoSaid : Prop := fnRotateVectorUptoRow.holds Try.pinned (OpenSpec.upto fnRotateVectorSpec)

/-- 'laws.FnExactRotateVector', WHERE WHAT IT READS IS OF BULK AT MOST 1048576: true; the input reads as it did. -/
def fnExactRotateVectorUptoRow : OpenClaim := { program := "ytndpmcegealhiaa", sum := "7050f524cb3933f50641621b00d4dee978ced5e1a3bd4ab029e61be8a853da56", func := "loop.example/fixedmath/laws.FnExactRotateVector", spec := "fnExactRotateVector", recurses := true, apart := false, narrowed := true }
def FnExactRotateVectorUptoSaid : Prop := fnExactRotateVectorUptoRow.holds Try.pinned (OpenSpec.upto fnExactRotateVectorSpec)

/-- 'laws.FnRotateTwice', WHERE WHAT IT READS IS OF BULK AT MOST 1048576: true; the input reads as it did. -/
def fnRotateTwiceUptoRow : OpenClaim := { program := "ytndpmcegealhiaa", sum := "7050f524cb3933f50641621b00d4dee978ced5e1a3bd4ab029e61be8a853da56", func := "loop.example/fixedmath/laws.FnRotateTwice", spec := "fnRotateTwice", recurses := true, apart := false, narrowed := true }
def FnRotateTwiceUptoSaid : Prop := fnRotateTwiceUptoRow.holds Try.pinned (OpenSpec.upto fnRotateTwiceSpec)

/-- 'laws.FnDirectionBack', WHERE WHAT IT READS IS OF BULK AT MOST 1048576: true; the input reads as it did. -/
def fnDirectionBackUptoRow : OpenClaim := { program := "ytndpmcegealhiaa", sum := "7050f524cb3933f50641621b00d4dee978ced5e1a3bd4ab029e61be8a853da56", func := "loop.example/fixedmath/laws.FnDirectionBack", spec := "fnDirectionBack", recurses := true, apart := false, narrowed := true }
def FnDirectionBackUptoSaid : Prop := fnDirectionBackUptoRow.holds Try.pinned (OpenSpec.upto fnDirectionBackSpec)

end Rows
end Go.Proofs.Ytndpmcegealhiaa
