/-
  No cell of these rows narrows 'for every input' (looked for: loops, veiled, ifaces, maps, wideKeys, modest, calm, conditions, laid).
  DERIVED. THE GIVEN ROWS OF THIS SEAT. 4 by the template 'for every input the law returns true; each argument reads behind the call as it read before'; 0 by the template 'total and deterministic' (their statements: YtocbbfogaafbiaaTotals.lean).
  GIVEN WITH THE SEED: the statements are not yours to turn. If you find one false, say at which input.
  Laid BY PROGRAM, IN A SANDBOX (cutbox-rows.mjs): the forced cells as the released guide's own fill.sh prints them over the translation ffd7f19d0530b8ff… (all of the seat's roots in one cut). By AI agents, Wed Nov 11 2026. No macro, syntax, notation, axiom, sorry.
-/
import Derived.Test.YtocbbfogaafbiaaChecked
import GoSem.Claim
import GoSem.ClaimJoined
import GoSem.ClaimMapViews
import Derived.JoinedTies
import Derived.KernelRfl
namespace Go.Proofs.Ytocbbfogaafbiaa
/- THE CELL 'sum', in the pinned program and in every row, IS THE sha256 OF THE DUMP (.gsa) THAT YtocbbfogaafbiaaProg.lean LOADS. Nothing in Lean hashes anything: it is a label: what it is worth is what the hold of that sum in a sandbox is worth. -/
noncomputable def Try.pinned : Pinned := { name := "ytocbbfogaafbiaa", sum := "ffd7f19d0530b8ffd4474fb158b60099f0c32f64b2730ae00ea4979a6349a6c0", checked := Try.checked }
namespace Rows
def none {H : Type} : Left H := { results := [], args := [] }

/-- 'laws.FnExactDirectionOf': WHATEVER THE INPUT: true; the input reads as it did. -/
def fnExactDirectionOfSpec : ChangeSpec := { name := "fnExactDirectionOf", fn := fun _ => fun
  | [d] => { results := [.lit (.bool true)], args := [d] }
  | _ => none }
def fnExactDirectionOfRow : OpenClaim := { program := "ytocbbfogaafbiaa", sum := "ffd7f19d0530b8ffd4474fb158b60099f0c32f64b2730ae00ea4979a6349a6c0", func := "loop.example/fixedmath/laws.FnExactDirectionOf", spec := "fnExactDirectionOf", recurses := true, apart := false }
def FnExactDirectionOfSaid : Prop := fnExactDirectionOfRow.holds Try.pinned (OpenSpec.ofChange fnExactDirectionOfSpec)

/-- ITS FALSE NEIGHBOUR: 'it returns false'. Refute it at one input. -/
def fnExactDirectionOfWrong : ChangeSpec := { name := "fnExactDirectionOf", fn := fun _ => fun
  | [d] => { results := [.lit (.bool false)], args := [d] }
  | _ => none }
def FnExactDirectionOfWrongFalsely : Prop := fnExactDirectionOfRow.holds Try.pinned (OpenSpec.ofChange fnExactDirectionOfWrong)

/-- 'laws.FnExactBetweenOf': WHATEVER THE INPUT: true; the input reads as it did. -/
def fnExactBetweenOfSpec : ChangeSpec := { name := "fnExactBetweenOf", fn := fun _ => fun
  | [d1, d2] => { results := [.lit (.bool true)], args := [d1, d2] }
  | _ => none }
def fnExactBetweenOfRow : OpenClaim := { program := "ytocbbfogaafbiaa", sum := "ffd7f19d0530b8ffd4474fb158b60099f0c32f64b2730ae00ea4979a6349a6c0", func := "loop.example/fixedmath/laws.FnExactBetweenOf", spec := "fnExactBetweenOf", recurses := true, apart := false }
def FnExactBetweenOfSaid : Prop := fnExactBetweenOfRow.holds Try.pinned (OpenSpec.ofChange fnExactBetweenOfSpec)

/-- ITS FALSE NEIGHBOUR: 'it returns false'. Refute it at one input. -/
def fnExactBetweenOfWrong : ChangeSpec := { name := "fnExactBetweenOf", fn := fun _ => fun
  | [d1, d2] => { results := [.lit (.bool false)], args := [d1, d2] }
  | _ => none }
def FnExactBetweenOfWrongFalsely : Prop := fnExactBetweenOfRow.holds Try.pinned (OpenSpec.ofChange fnExactBetweenOfWrong)

/-- 'laws.FnDirectionOf': WHATEVER THE INPUT: true; the input reads as it did. -/
def fnDirectionOfSpec : ChangeSpec := { name := "fnDirectionOf", fn := fun _ => fun
  | [d] => { results := [.lit (.bool true)], args := [d] }
  | _ => none }
def fnDirectionOfRow : OpenClaim := { program := "ytocbbfogaafbiaa", sum := "ffd7f19d0530b8ffd4474fb158b60099f0c32f64b2730ae00ea4979a6349a6c0", func := "loop.example/fixedmath/laws.FnDirectionOf", spec := "fnDirectionOf", recurses := true, apart := false }
def FnDirectionOfSaid : Prop := fnDirectionOfRow.holds Try.pinned (OpenSpec.ofChange fnDirectionOfSpec)

/-- ITS FALSE NEIGHBOUR: 'it returns false'. Refute it at one input. -/
def fnDirectionOfWrong : ChangeSpec := { name := "fnDirectionOf", fn := fun _ => fun
  | [d] => { results := [.lit (.bool false)], args := [d] }
  | _ => none }
def FnDirectionOfWrongFalsely : Prop := fnDirectionOfRow.holds Try.pinned (OpenSpec.ofChange fnDirectionOfWrong)

/-- 'laws.FnBetweenOf': WHATEVER THE INPUT: true; the input reads as it did. -/
def fnBetweenOfSpec : ChangeSpec := { name := "fnBetweenOf", fn := fun _ => fun
  | [d] => { results := [.lit (.bool true)], args := [d] }
  | _ => none }
def fnBetweenOfRow : OpenClaim := { program := "ytocbbfogaafbiaa", sum := "ffd7f19d0530b8ffd4474fb158b60099f0c32f64b2730ae00ea4979a6349a6c0", func := "loop.example/fixedmath/laws.FnBetweenOf", spec := "fnBetweenOf", recurses := true, apart := false }
def FnBetweenOfSaid : Prop := fnBetweenOfRow.holds Try.pinned (OpenSpec.ofChange fnBetweenOfSpec)

/-- ITS FALSE NEIGHBOUR: 'it returns false'. Refute it at one input. -/
def fnBetweenOfWrong : ChangeSpec := { name := "fnBetweenOf", fn := fun _ => fun
  | [d] => { results := [.lit (.bool false)], args := [d] }
  | _ => none }
def FnBetweenOfWrongFalsely : Prop := fnBetweenOfRow.holds Try.pinned (OpenSpec.ofChange fnBetweenOfWrong)

/- THE SECOND FORM. 'bulk': how many values and letters a reading holds, each counted each time it is reached (what is shared counts as often as it is met; a slice's spare places count too). A statement '..UptoSaid' is the law's where the arguments, and the package variables that the reading takes, are together of bulk at most 1048576: NARROWER than '..Said'. Prove '..Said' where nothing that the law and all that it calls make is longer than what came in: it says more and counts as full. Else prove '..UptoSaid'. A law counts once. -/
mutual
def uptoBulk {H : Type} : DataW H → Nat
  | .lit (.string bytes) => bytes.length + 1
  | .lit _ => 1
  | .nil => 1
  | .ptr d => uptoBulk d + 1
  | .slice elems spare => uptoBulkAll elems + uptoBulkAll spare + 1
  | .agg parts => uptoBulkAll parts + 1
  | .iface _ d => uptoBulk d + 1
  | .map entries => uptoBulkEntries entries + 1
  | .held _ => 1
def uptoBulkAll {H : Type} : List (DataW H) → Nat
  | [] => 0
  | d :: r => uptoBulk d + uptoBulkAll r
def uptoBulkEntries {H : Type} : List (Lit × DataW H) → Nat
  | [] => 0
  | x :: r => uptoBulkEntry x + uptoBulkEntries r
def uptoBulkEntry {H : Type} : Lit × DataW H → Nat
  | (.string bytes, d) => bytes.length + uptoBulk d + 1
  | (_, d) => uptoBulk d + 1
 end
def uptoSmall : (H : Type) → List (DataW H) → Bool := fun _ ds => decide (uptoBulkAll ds ≤ 1048576)
def OpenSpec.upto (s : _root_.Go.ChangeSpec) : _root_.Go.OpenSpec := { _root_.Go.OpenSpec.ofChange s with cond := some uptoSmall }

/-- 'laws.FnExactDirectionOf', WHERE WHAT IT READS IS OF BULK AT MOST 1048576: true; the input reads as it did. -/
def fnExactDirectionOfUptoRow : OpenClaim := { program := "ytocbbfogaafbiaa", sum := "ffd7f19d0530b8ffd4474fb158b60099f0c32f64b2730ae00ea4979a6349a6c0", func := "loop.example/fixedmath/laws.FnExactDirectionOf", spec := "fnExactDirectionOf", recurses := true, apart := false, narrowed := true }
def FnExactDirectionOfUptoSaid : Prop := fnExactDirectionOfUptoRow.holds Try.pinned (OpenSpec.upto fnExactDirectionOfSpec)

/-- 'laws.FnExactBetweenOf', WHERE WHAT IT READS IS OF BULK AT MOST 1048576: true; the input reads as it did. -/
def fnExactBetweenOfUptoRow : OpenClaim := { program := "ytocbbfogaafbiaa", sum := "ffd7f19d0530b8ffd4474fb158b60099f0c32f64b2730ae00ea4979a6349a6c0", func := "loop.example/fixedmath/laws.FnExactBetweenOf", spec := "fnExactBetweenOf", recurses := true, apart := false, narrowed := true }
def FnExactBetweenOfUptoSaid : Prop := fnExactBetweenOfUptoRow.holds Try.pinned (OpenSpec.upto fnExactBetweenOfSpec)

/-- 'laws.FnDirectionOf', WHERE WHAT IT READS IS OF BULK AT MOST 1048576: true; the input reads as it did. -/
def fnDirectionOfUptoRow : OpenClaim := { program := "ytocbbfogaafbiaa", sum := "ffd7f19d0530b8ffd4474fb158b60099f0c32f64b2730ae00ea4979a6349a6c0", func := "loop.example/fixedmath/laws.FnDirectionOf", spec := "fnDirectionOf", recurses := true, apart := false, narrowed := true }
def FnDirectionOfUptoSaid : Prop := fnDirectionOfUptoRow.holds Try.pinned (OpenSpec.upto fnDirectionOfSpec)

/-- 'laws.FnBetweenOf', WHERE WHAT IT READS IS OF BULK AT MOST 1048576: true; the input reads as it did. -/
def fnBetweenOfUptoRow : OpenClaim := { program := "ytocbbfogaafbiaa", sum := "ffd7f19d0530b8ffd4474fb158b60099f0c32f64b2730ae00ea4979a6349a6c0", func := "loop.example/fixedmath/laws.FnBetweenOf", spec := "fnBetweenOf", recurses := true, apart := false, narrowed := true }
def FnBetweenOfUptoSaid : Prop := fnBetweenOfUptoRow.holds Try.pinned (OpenSpec.upto fnBetweenOfSpec)

end Rows
end Go.Proofs.Ytocbbfogaafbiaa
