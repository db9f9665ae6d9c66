/-
  No cell of these rows narrows 'for every input' (looked for: loops, veiled, ifaces, maps, wideKeys, modest, calm, conditions, laid).
  DERIVED. THE GIVEN ROWS OF THIS SEAT. 12 by the template 'for every input the law returns true; each argument reads behind the call as it read before'; 0 by the template 'total and deterministic' (their statements: YtmpcoljollkfjaaTotals.lean).
  GIVEN WITH THE SEED: the statements are not yours to turn. If you find one false, say at which input.
  Laid BY PROGRAM, IN A SANDBOX (cutbox-rows.mjs): the forced cells as the released guide's own fill.sh prints them over the translation 63e1da7148fc1c2c… (all of the seat's roots in one cut). By AI agents, Wed Nov 11 2026. No macro, syntax, notation, axiom, sorry.
-/
import Derived.Test.YtmpcoljollkfjaaChecked
import GoSem.Claim
import GoSem.ClaimJoined
import GoSem.ClaimMapViews
import Derived.JoinedTies
import Derived.KernelRfl
namespace Go.Proofs.Ytmpcoljollkfjaa
/- THE CELL 'sum', in the pinned program and in every row, IS THE sha256 OF THE DUMP (.gsa) THAT YtmpcoljollkfjaaProg.lean LOADS. Nothing in Lean hashes anything: it is a label: what it is worth is what the hold of that sum in a sandbox is worth. -/
noncomputable def Try.pinned : Pinned := { name := "ytmpcoljollkfjaa", sum := "63e1da7148fc1c2c4812fe90e9a6667fd18b80a2e3c228db6c73ebce21c67859", checked := Try.checked }
namespace Rows
def none {H : Type} : Left H := { results := [], args := [] }

/-- 'laws.FnExactSqrtRight': WHATEVER THE INPUT: true; the input reads as it did. -/
def fnExactSqrtRightSpec : ChangeSpec := { name := "fnExactSqrtRight", fn := fun _ => fun
  | [d1, d2] => { results := [.lit (.bool true)], args := [d1, d2] }
  | _ => none }
def fnExactSqrtRightRow : OpenClaim := { program := "ytmpcoljollkfjaa", sum := "63e1da7148fc1c2c4812fe90e9a6667fd18b80a2e3c228db6c73ebce21c67859", func := "loop.example/fixedmath/laws.FnExactSqrtRight", spec := "fnExactSqrtRight", apart := false }
def FnExactSqrtRightSaid : Prop := fnExactSqrtRightRow.holds Try.pinned (OpenSpec.ofChange fnExactSqrtRightSpec)

/-- ITS FALSE NEIGHBOUR: 'it returns false'. Refute it at one input. -/
def fnExactSqrtRightWrong : ChangeSpec := { name := "fnExactSqrtRight", fn := fun _ => fun
  | [d1, d2] => { results := [.lit (.bool false)], args := [d1, d2] }
  | _ => none }
def FnExactSqrtRightWrongFalsely : Prop := fnExactSqrtRightRow.holds Try.pinned (OpenSpec.ofChange fnExactSqrtRightWrong)

/-- 'laws.FnExactSumValid': WHATEVER THE INPUT: true; the input reads as it did. -/
def fnExactSumValidSpec : ChangeSpec := { name := "fnExactSumValid", fn := fun _ => fun
  | [d] => { results := [.lit (.bool true)], args := [d] }
  | _ => none }
def fnExactSumValidRow : OpenClaim := { program := "ytmpcoljollkfjaa", sum := "63e1da7148fc1c2c4812fe90e9a6667fd18b80a2e3c228db6c73ebce21c67859", func := "loop.example/fixedmath/laws.FnExactSumValid", spec := "fnExactSumValid", apart := false }
def FnExactSumValidSaid : Prop := fnExactSumValidRow.holds Try.pinned (OpenSpec.ofChange fnExactSumValidSpec)

/-- ITS FALSE NEIGHBOUR: 'it returns false'. Refute it at one input. -/
def fnExactSumValidWrong : ChangeSpec := { name := "fnExactSumValid", fn := fun _ => fun
  | [d] => { results := [.lit (.bool false)], args := [d] }
  | _ => none }
def FnExactSumValidWrongFalsely : Prop := fnExactSumValidRow.holds Try.pinned (OpenSpec.ofChange fnExactSumValidWrong)

/-- 'laws.FnExactSumAdd': WHATEVER THE INPUT: true; the input reads as it did. -/
def fnExactSumAddSpec : ChangeSpec := { name := "fnExactSumAdd", fn := fun _ => fun
  | [d1, d2] => { results := [.lit (.bool true)], args := [d1, d2] }
  | _ => none }
def fnExactSumAddRow : OpenClaim := { program := "ytmpcoljollkfjaa", sum := "63e1da7148fc1c2c4812fe90e9a6667fd18b80a2e3c228db6c73ebce21c67859", func := "loop.example/fixedmath/laws.FnExactSumAdd", spec := "fnExactSumAdd", apart := false }
def FnExactSumAddSaid : Prop := fnExactSumAddRow.holds Try.pinned (OpenSpec.ofChange fnExactSumAddSpec)

/-- ITS FALSE NEIGHBOUR: 'it returns false'. Refute it at one input. -/
def fnExactSumAddWrong : ChangeSpec := { name := "fnExactSumAdd", fn := fun _ => fun
  | [d1, d2] => { results := [.lit (.bool false)], args := [d1, d2] }
  | _ => none }
def FnExactSumAddWrongFalsely : Prop := fnExactSumAddRow.holds Try.pinned (OpenSpec.ofChange fnExactSumAddWrong)

/-- 'laws.FnExactSumAll': WHATEVER THE INPUT: true; the input reads as it did. -/
def fnExactSumAllSpec : ChangeSpec := { name := "fnExactSumAll", fn := fun _ => fun
  | [d] => { results := [.lit (.bool true)], args := [d] }
  | _ => none }
def fnExactSumAllRow : OpenClaim := { program := "ytmpcoljollkfjaa", sum := "63e1da7148fc1c2c4812fe90e9a6667fd18b80a2e3c228db6c73ebce21c67859", func := "loop.example/fixedmath/laws.FnExactSumAll", spec := "fnExactSumAll", apart := false }
def FnExactSumAllSaid : Prop := fnExactSumAllRow.holds Try.pinned (OpenSpec.ofChange fnExactSumAllSpec)

/-- ITS FALSE NEIGHBOUR: 'it returns false'. Refute it at one input. -/
def fnExactSumAllWrong : ChangeSpec := { name := "fnExactSumAll", fn := fun _ => fun
  | [d] => { results := [.lit (.bool false)], args := [d] }
  | _ => none }
def FnExactSumAllWrongFalsely : Prop := fnExactSumAllRow.holds Try.pinned (OpenSpec.ofChange fnExactSumAllWrong)

/-- 'laws.FnExactSumProduct': WHATEVER THE INPUT: true; the input reads as it did. -/
def fnExactSumProductSpec : ChangeSpec := { name := "fnExactSumProduct", fn := fun _ => fun
  | [d1, d2, d3, d4] => { results := [.lit (.bool true)], args := [d1, d2, d3, d4] }
  | _ => none }
def fnExactSumProductRow : OpenClaim := { program := "ytmpcoljollkfjaa", sum := "63e1da7148fc1c2c4812fe90e9a6667fd18b80a2e3c228db6c73ebce21c67859", func := "loop.example/fixedmath/laws.FnExactSumProduct", spec := "fnExactSumProduct", apart := false }
def FnExactSumProductSaid : Prop := fnExactSumProductRow.holds Try.pinned (OpenSpec.ofChange fnExactSumProductSpec)

/-- ITS FALSE NEIGHBOUR: 'it returns false'. Refute it at one input. -/
def fnExactSumProductWrong : ChangeSpec := { name := "fnExactSumProduct", fn := fun _ => fun
  | [d1, d2, d3, d4] => { results := [.lit (.bool false)], args := [d1, d2, d3, d4] }
  | _ => none }
def FnExactSumProductWrongFalsely : Prop := fnExactSumProductRow.holds Try.pinned (OpenSpec.ofChange fnExactSumProductWrong)

/-- 'laws.FnExactSumStored': WHATEVER THE INPUT: true; the input reads as it did. -/
def fnExactSumStoredSpec : ChangeSpec := { name := "fnExactSumStored", fn := fun _ => fun
  | [d1, d2] => { results := [.lit (.bool true)], args := [d1, d2] }
  | _ => none }
def fnExactSumStoredRow : OpenClaim := { program := "ytmpcoljollkfjaa", sum := "63e1da7148fc1c2c4812fe90e9a6667fd18b80a2e3c228db6c73ebce21c67859", func := "loop.example/fixedmath/laws.FnExactSumStored", spec := "fnExactSumStored", apart := false }
def FnExactSumStoredSaid : Prop := fnExactSumStoredRow.holds Try.pinned (OpenSpec.ofChange fnExactSumStoredSpec)

/-- ITS FALSE NEIGHBOUR: 'it returns false'. Refute it at one input. -/
def fnExactSumStoredWrong : ChangeSpec := { name := "fnExactSumStored", fn := fun _ => fun
  | [d1, d2] => { results := [.lit (.bool false)], args := [d1, d2] }
  | _ => none }
def FnExactSumStoredWrongFalsely : Prop := fnExactSumStoredRow.holds Try.pinned (OpenSpec.ofChange fnExactSumStoredWrong)

/-- 'laws.FnSumValid': WHATEVER THE INPUT: true; the input reads as it did. -/
def fnSumValidSpec : ChangeSpec := { name := "fnSumValid", fn := fun _ => fun
  | [d] => { results := [.lit (.bool true)], args := [d] }
  | _ => none }
def fnSumValidRow : OpenClaim := { program := "ytmpcoljollkfjaa", sum := "63e1da7148fc1c2c4812fe90e9a6667fd18b80a2e3c228db6c73ebce21c67859", func := "loop.example/fixedmath/laws.FnSumValid", spec := "fnSumValid", apart := false }
def FnSumValidSaid : Prop := fnSumValidRow.holds Try.pinned (OpenSpec.ofChange fnSumValidSpec)

/-- ITS FALSE NEIGHBOUR: 'it returns false'. Refute it at one input. -/
def fnSumValidWrong : ChangeSpec := { name := "fnSumValid", fn := fun _ => fun
  | [d] => { results := [.lit (.bool false)], args := [d] }
  | _ => none }
def FnSumValidWrongFalsely : Prop := fnSumValidRow.holds Try.pinned (OpenSpec.ofChange fnSumValidWrong)

/-- 'laws.FnSumAdd': WHATEVER THE INPUT: true; the input reads as it did. -/
def fnSumAddSpec : ChangeSpec := { name := "fnSumAdd", fn := fun _ => fun
  | [d] => { results := [.lit (.bool true)], args := [d] }
  | _ => none }
def fnSumAddRow : OpenClaim := { program := "ytmpcoljollkfjaa", sum := "63e1da7148fc1c2c4812fe90e9a6667fd18b80a2e3c228db6c73ebce21c67859", func := "loop.example/fixedmath/laws.FnSumAdd", spec := "fnSumAdd", apart := false }
def FnSumAddSaid : Prop := fnSumAddRow.holds Try.pinned (OpenSpec.ofChange fnSumAddSpec)

/-- ITS FALSE NEIGHBOUR: 'it returns false'. Refute it at one input. -/
def fnSumAddWrong : ChangeSpec := { name := "fnSumAdd", fn := fun _ => fun
  | [d] => { results := [.lit (.bool false)], args := [d] }
  | _ => none }
def FnSumAddWrongFalsely : Prop := fnSumAddRow.holds Try.pinned (OpenSpec.ofChange fnSumAddWrong)

/-- 'laws.FnSumAll': WHATEVER THE INPUT: true; the input reads as it did. -/
def fnSumAllSpec : ChangeSpec := { name := "fnSumAll", fn := fun _ => fun
  | [d] => { results := [.lit (.bool true)], args := [d] }
  | _ => none }
def fnSumAllRow : OpenClaim := { program := "ytmpcoljollkfjaa", sum := "63e1da7148fc1c2c4812fe90e9a6667fd18b80a2e3c228db6c73ebce21c67859", func := "loop.example/fixedmath/laws.FnSumAll", spec := "fnSumAll", apart := false }
def FnSumAllSaid : Prop := fnSumAllRow.holds Try.pinned (OpenSpec.ofChange fnSumAllSpec)

/-- ITS FALSE NEIGHBOUR: 'it returns false'. Refute it at one input. -/
def fnSumAllWrong : ChangeSpec := { name := "fnSumAll", fn := fun _ => fun
  | [d] => { results := [.lit (.bool false)], args := [d] }
  | _ => none }
def FnSumAllWrongFalsely : Prop := fnSumAllRow.holds Try.pinned (OpenSpec.ofChange fnSumAllWrong)

/-- 'laws.FnSumOrder': WHATEVER THE INPUT: true; the input reads as it did. -/
def fnSumOrderSpec : ChangeSpec := { name := "fnSumOrder", fn := fun _ => fun
  | [d1, d2] => { results := [.lit (.bool true)], args := [d1, d2] }
  | _ => none }
def fnSumOrderRow : OpenClaim := { program := "ytmpcoljollkfjaa", sum := "63e1da7148fc1c2c4812fe90e9a6667fd18b80a2e3c228db6c73ebce21c67859", func := "loop.example/fixedmath/laws.FnSumOrder", spec := "fnSumOrder", apart := false }
def FnSumOrderSaid : Prop := fnSumOrderRow.holds Try.pinned (OpenSpec.ofChange fnSumOrderSpec)

/-- ITS FALSE NEIGHBOUR: 'it returns false'. Refute it at one input. -/
def fnSumOrderWrong : ChangeSpec := { name := "fnSumOrder", fn := fun _ => fun
  | [d1, d2] => { results := [.lit (.bool false)], args := [d1, d2] }
  | _ => none }
def FnSumOrderWrongFalsely : Prop := fnSumOrderRow.holds Try.pinned (OpenSpec.ofChange fnSumOrderWrong)

/-- 'laws.FnSumProduct': WHATEVER THE INPUT: true; the input reads as it did. -/
def fnSumProductSpec : ChangeSpec := { name := "fnSumProduct", fn := fun _ => fun
  | [d] => { results := [.lit (.bool true)], args := [d] }
  | _ => none }
def fnSumProductRow : OpenClaim := { program := "ytmpcoljollkfjaa", sum := "63e1da7148fc1c2c4812fe90e9a6667fd18b80a2e3c228db6c73ebce21c67859", func := "loop.example/fixedmath/laws.FnSumProduct", spec := "fnSumProduct", apart := false }
def FnSumProductSaid : Prop := fnSumProductRow.holds Try.pinned (OpenSpec.ofChange fnSumProductSpec)

/-- ITS FALSE NEIGHBOUR: 'it returns false'. Refute it at one input. -/
def fnSumProductWrong : ChangeSpec := { name := "fnSumProduct", fn := fun _ => fun
  | [d] => { results := [.lit (.bool false)], args := [d] }
  | _ => none }
def FnSumProductWrongFalsely : Prop := fnSumProductRow.holds Try.pinned (OpenSpec.ofChange fnSumProductWrong)

/-- 'laws.FnSumStored': WHATEVER THE INPUT: true; the input reads as it did. -/
def fnSumStoredSpec : ChangeSpec := { name := "fnSumStored", fn := fun _ => fun
  | [d] => { results := [.lit (.bool true)], args := [d] }
  | _ => none }
def fnSumStoredRow : OpenClaim := { program := "ytmpcoljollkfjaa", sum := "63e1da7148fc1c2c4812fe90e9a6667fd18b80a2e3c228db6c73ebce21c67859", func := "loop.example/fixedmath/laws.FnSumStored", spec := "fnSumStored", unfollowed := true, recurses := true, apart := false }
def FnSumStoredSaid : Prop := fnSumStoredRow.holds Try.pinned (OpenSpec.ofChange fnSumStoredSpec)

/-- ITS FALSE NEIGHBOUR: 'it returns false'. Refute it at one input. -/
def fnSumStoredWrong : ChangeSpec := { name := "fnSumStored", fn := fun _ => fun
  | [d] => { results := [.lit (.bool false)], args := [d] }
  | _ => none }
def FnSumStoredWrongFalsely : Prop := fnSumStoredRow.holds Try.pinned (OpenSpec.ofChange fnSumStoredWrong)

/- THE SECOND FORM. 'bulk': how many values and letters a reading holds, each counted each time it is reached (what is shared counts as often as it is met; a slice's spare places count too). A statement '..UptoSaid' is the law's where the arguments, and the package variables that the reading takes, are together of bulk at most 1048576: NARROWER than '..Said'. Prove '..Said' where nothing that the law and all that it calls make is longer than what came in: it says more and counts as full. Else prove '..UptoSaid'. A law counts once. -/
mutual
def uptoBulk {H : Type} : DataW H → Nat
  | .lit (.string bytes) => bytes.length + 1
  | .lit _ => 1
  | .nil => 1
  | .ptr d => uptoBulk d + 1
  | .slice elems spare => uptoBulkAll elems + uptoBulkAll spare + 1
  | .agg parts => uptoBulkAll parts + 1
  | .iface _ d => uptoBulk d + 1
  | .map entries => uptoBulkEntries entries + 1
  | .held _ => 1
def uptoBulkAll {H : Type} : List (DataW H) → Nat
  | [] => 0
  | d :: r => uptoBulk d + uptoBulkAll r
def uptoBulkEntries {H : Type} : List (Lit × DataW H) → Nat
  | [] => 0
  | x :: r => uptoBulkEntry x + uptoBulkEntries r
def uptoBulkEntry {H : Type} : Lit × DataW H → Nat
  | (.string bytes, d) => bytes.length + uptoBulk d + 1
  | (_, d) => uptoBulk d + 1
 end
def uptoSmall : (H : Type) → List (DataW H) → Bool := fun _ ds => decide (uptoBulkAll ds ≤ 1048576)
def OpenSpec.upto (s : _root_.Go.ChangeSpec) : _root_.Go.OpenSpec := { _root_.Go.OpenSpec.ofChange s with cond := some uptoSmall }

/-- 'laws.FnExactSqrtRight', WHERE WHAT IT READS IS OF BULK AT MOST 1048576: true; the input reads as it did. -/
def fnExactSqrtRightUptoRow : OpenClaim := { program := "ytmpcoljollkfjaa", sum := "63e1da7148fc1c2c4812fe90e9a6667fd18b80a2e3c228db6c73ebce21c67859", func := "loop.example/fixedmath/laws.FnExactSqrtRight", spec := "fnExactSqrtRight", apart := false, narrowed := true }
def FnExactSqrtRightUptoSaid : Prop := fnExactSqrtRightUptoRow.holds Try.pinned (OpenSpec.upto fnExactSqrtRightSpec)

/-- 'laws.FnExactSumValid', WHERE WHAT IT READS IS OF BULK AT MOST 1048576: true; the input reads as it did. -/
def fnExactSumValidUptoRow : OpenClaim := { program := "ytmpcoljollkfjaa", sum := "63e1da7148fc1c2c4812fe90e9a6667fd18b80a2e3c228db6c73ebce21c67859", func := "loop.example/fixedmath/laws.FnExactSumValid", spec := "fnExactSumValid", apart := false, narrowed := true }
def FnExactSumValidUptoSaid : Prop := fnExactSumValidUptoRow.holds Try.pinned (OpenSpec.upto fnExactSumValidSpec)

/-- 'laws.FnExactSumAdd', WHERE WHAT IT READS IS OF BULK AT MOST 1048576: true; the input reads as it did. -/
def fnExactSumAddUptoRow : OpenClaim := { program := "ytmpcoljollkfjaa", sum := "63e1da7148fc1c2c4812fe90e9a6667fd18b80a2e3c228db6c73ebce21c67859", func := "loop.example/fixedmath/laws.FnExactSumAdd", spec := "fnExactSumAdd", apart := false, narrowed := true }
def FnExactSumAddUptoSaid : Prop := fnExactSumAddUptoRow.holds Try.pinned (OpenSpec.upto fnExactSumAddSpec)

/-- 'laws.FnExactSumAll', WHERE WHAT IT READS IS OF BULK AT MOST 1048576: true; the input reads as it did. -/
def fnExactSumAllUptoRow : OpenClaim := { program := "ytmpcoljollkfjaa", sum := "63e1da7148fc1c2c4812fe90e9a6667fd18b80a2e3c228db6c73ebce21c67859", func := "loop.example/fixedmath/laws.FnExactSumAll", spec := "fnExactSumAll", apart := false, narrowed := true }
def FnExactSumAllUptoSaid : Prop := fnExactSumAllUptoRow.holds Try.pinned (OpenSpec.upto fnExactSumAllSpec)

/-- 'laws.FnExactSumProduct', WHERE WHAT IT READS IS OF BULK AT MOST 1048576: true; the input reads as it did. -/
def fnExactSumProductUptoRow : OpenClaim := { program := "ytmpcoljollkfjaa", sum := "63e1da7148fc1c2c4812fe90e9a6667fd18b80a2e3c228db6c73ebce21c67859", func := "loop.example/fixedmath/laws.FnExactSumProduct", spec := "fnExactSumProduct", apart := false, narrowed := true }
def FnExactSumProductUptoSaid : Prop := fnExactSumProductUptoRow.holds Try.pinned (OpenSpec.upto fnExactSumProductSpec)

/-- 'laws.FnExactSumStored', WHERE WHAT IT READS IS OF BULK AT MOST 1048576: true; the input reads as it did. -/
def fnExactSumStoredUptoRow : OpenClaim := { program := "ytmpcoljollkfjaa", sum := "63e1da7148fc1c2c4812fe90e9a6667fd18b80a2e3c228db6c73ebce21c67859", func := "loop.example/fixedmath/laws.FnExactSumStored", spec := "fnExactSumStored", apart := false, narrowed := true }
def FnExactSumStoredUptoSaid : Prop := fnExactSumStoredUptoRow.holds Try.pinned (OpenSpec.upto fnExactSumStoredSpec)

/-- 'laws.FnSumValid', WHERE WHAT IT READS IS OF BULK AT MOST 1048576: true; the input reads as it did. -/
def fnSumValidUptoRow : OpenClaim := { program := "ytmpcoljollkfjaa", sum := "63e1da7148fc1c2c4812fe90e9a6667fd18b80a2e3c228db6c73ebce21c67859", func := "loop.example/fixedmath/laws.FnSumValid", spec := "fnSumValid", apart := false, narrowed := true }
def FnSumValidUptoSaid : Prop := fnSumValidUptoRow.holds Try.pinned (OpenSpec.upto fnSumValidSpec)

/-- 'laws.FnSumAdd', WHERE WHAT IT READS IS OF BULK AT MOST 1048576: true; the input reads as it did. -/
def fnSumAddUptoRow : OpenClaim := { program := "ytmpcoljollkfjaa", sum := "63e1da7148fc1c2c4812fe90e9a6667fd18b80a2e3c228db6c73ebce21c67859", func := "loop.example/fixedmath/laws.FnSumAdd", spec := "fnSumAdd", apart := false, narrowed := true }
def FnSumAddUptoSaid : Prop := fnSumAddUptoRow.holds Try.pinned (OpenSpec.upto fnSumAddSpec)

/-- 'laws.FnSumAll', WHERE WHAT IT READS IS OF BULK AT MOST 1048576: true; the input reads as it did. -/
def fnSumAllUptoRow : OpenClaim := { program := "ytmpcoljollkfjaa", sum := "63e1da7148fc1c2c4812fe90e9a6667fd18b80a2e3c228db6c73ebce21c67859", func := "loop.example/fixedmath/laws.FnSumAll", spec := "fnSumAll", apart := false, narrowed := true }
def FnSumAllUptoSaid : Prop := fnSumAllUptoRow.holds Try.pinned (OpenSpec.upto fnSumAllSpec)

/-- 'laws.FnSumOrder', WHERE WHAT IT READS IS OF BULK AT MOST 1048576: true; the input reads as it did. -/
def fnSumOrderUptoRow : OpenClaim := { program := "ytmpcoljollkfjaa", sum := "63e1da7148fc1c2c4812fe90e9a6667fd18b80a2e3c228db6c73ebce21c67859", func := "loop.example/fixedmath/laws.FnSumOrder", spec := "fnSumOrder", apart := false, narrowed := true }
def FnSumOrderUptoSaid : Prop := fnSumOrderUptoRow.holds Try.pinned (OpenSpec.upto fnSumOrderSpec)

/-- 'laws.FnSumProduct', WHERE WHAT IT READS IS OF BULK AT MOST 1048576: true; the input reads as it did. -/
def fnSumProductUptoRow : OpenClaim := { program := "ytmpcoljollkfjaa", sum := "63e1da7148fc1c2c4812fe90e9a6667fd18b80a2e3c228db6c73ebce21c67859", func := "loop.example/fixedmath/laws.FnSumProduct", spec := "fnSumProduct", apart := false, narrowed := true }
def FnSumProductUptoSaid : Prop := fnSumProductUptoRow.holds Try.pinned (OpenSpec.upto fnSumProductSpec)

/-- 'laws.FnSumStored', WHERE WHAT IT READS IS OF BULK AT MOST 1048576: true; the input reads as it did. -/
def fnSumStoredUptoRow : OpenClaim := { program := "ytmpcoljollkfjaa", sum := "63e1da7148fc1c2c4812fe90e9a6667fd18b80a2e3c228db6c73ebce21c67859", func := "loop.example/fixedmath/laws.FnSumStored", spec := "fnSumStored", unfollowed := true, recurses := true, apart := false, narrowed := true }
def FnSumStoredUptoSaid : Prop := fnSumStoredUptoRow.holds Try.pinned (OpenSpec.upto fnSumStoredSpec)

end Rows
end Go.Proofs.Ytmpcoljollkfjaa
