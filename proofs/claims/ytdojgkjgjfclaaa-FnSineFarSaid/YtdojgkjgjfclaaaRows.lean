/-
  No cell of these rows narrows 'for every input' (looked for: loops, veiled, ifaces, maps, wideKeys, modest, calm, conditions, laid).
  DERIVED. THE GIVEN ROWS OF THIS SEAT. 6 by the template 'for every input the law returns true; each argument reads behind the call as it read before'; 0 by the template 'total and deterministic' (their statements: YtdojgkjgjfclaaaTotals.lean).
  GIVEN WITH THE SEED: the statements are not yours to turn. If you find one false, say at which input.
  Laid BY PROGRAM, IN A SANDBOX (cutbox-rows.mjs): the forced cells as the released guide's own fill.sh prints them over the translation a74961f6e4cc34ce… (all of the seat's roots in one cut). By AI agents, Wed Nov 11 2026. No macro, syntax, notation, axiom, sorry.
-/
import Derived.Test.YtdojgkjgjfclaaaChecked
import GoSem.Claim
import GoSem.ClaimJoined
import GoSem.ClaimMapViews
import Derived.JoinedTies
import Derived.KernelRfl
namespace Go.Proofs.Ytdojgkjgjfclaaa
/- THE CELL 'sum', in the pinned program and in every row, IS THE sha256 OF THE DUMP (.gsa) THAT YtdojgkjgjfclaaaProg.lean LOADS. Nothing in Lean hashes anything: it is a label: what it is worth is what the hold of that sum in a sandbox is worth. -/
noncomputable def Try.pinned : Pinned := { name := "ytdojgkjgjfclaaa", sum := "a74961f6e4cc34cecc11e2f267ffbaa92d3b371ab883174aa2d72bdfcd7fb669", checked := Try.checked }
namespace Rows
def none {H : Type} : Left H := { results := [], args := [] }

/-- 'laws.FnExactSineFar': WHATEVER THE INPUT: true; the input reads as it did. -/
def fnExactSineFarSpec : ChangeSpec := { name := "fnExactSineFar", fn := fun _ => fun
  | [d] => { results := [.lit (.bool true)], args := [d] }
  | _ => none }
def fnExactSineFarRow : OpenClaim := { program := "ytdojgkjgjfclaaa", sum := "a74961f6e4cc34cecc11e2f267ffbaa92d3b371ab883174aa2d72bdfcd7fb669", func := "loop.example/fixedmath/laws.FnExactSineFar", spec := "fnExactSineFar", recurses := true, apart := false }
def FnExactSineFarSaid : Prop := fnExactSineFarRow.holds Try.pinned (OpenSpec.ofChange fnExactSineFarSpec)

/-- ITS FALSE NEIGHBOUR: 'it returns false'. Refute it at one input. -/
def fnExactSineFarWrong : ChangeSpec := { name := "fnExactSineFar", fn := fun _ => fun
  | [d] => { results := [.lit (.bool false)], args := [d] }
  | _ => none }
def FnExactSineFarWrongFalsely : Prop := fnExactSineFarRow.holds Try.pinned (OpenSpec.ofChange fnExactSineFarWrong)

/-- 'laws.FnSineFar': WHATEVER THE INPUT: true; the input reads as it did. -/
def fnSineFarSpec : ChangeSpec := { name := "fnSineFar", fn := fun _ => fun
  | [d] => { results := [.lit (.bool true)], args := [d] }
  | _ => none }
def fnSineFarRow : OpenClaim := { program := "ytdojgkjgjfclaaa", sum := "a74961f6e4cc34cecc11e2f267ffbaa92d3b371ab883174aa2d72bdfcd7fb669", func := "loop.example/fixedmath/laws.FnSineFar", spec := "fnSineFar", recurses := true, apart := false }
def FnSineFarSaid : Prop := fnSineFarRow.holds Try.pinned (OpenSpec.ofChange fnSineFarSpec)

/-- ITS FALSE NEIGHBOUR: 'it returns false'. Refute it at one input. -/
def fnSineFarWrong : ChangeSpec := { name := "fnSineFar", fn := fun _ => fun
  | [d] => { results := [.lit (.bool false)], args := [d] }
  | _ => none }
def FnSineFarWrongFalsely : Prop := fnSineFarRow.holds Try.pinned (OpenSpec.ofChange fnSineFarWrong)

/-- 'laws.FnExactCosineSpan': WHATEVER THE INPUT: true; the input reads as it did. -/
def fnExactCosineSpanSpec : ChangeSpec := { name := "fnExactCosineSpan", fn := fun _ => fun
  | [d] => { results := [.lit (.bool true)], args := [d] }
  | _ => none }
def fnExactCosineSpanRow : OpenClaim := { program := "ytdojgkjgjfclaaa", sum := "a74961f6e4cc34cecc11e2f267ffbaa92d3b371ab883174aa2d72bdfcd7fb669", func := "loop.example/fixedmath/laws.FnExactCosineSpan", spec := "fnExactCosineSpan", apart := false }
def FnExactCosineSpanSaid : Prop := fnExactCosineSpanRow.holds Try.pinned (OpenSpec.ofChange fnExactCosineSpanSpec)

/-- ITS FALSE NEIGHBOUR: 'it returns false'. Refute it at one input. -/
def fnExactCosineSpanWrong : ChangeSpec := { name := "fnExactCosineSpan", fn := fun _ => fun
  | [d] => { results := [.lit (.bool false)], args := [d] }
  | _ => none }
def FnExactCosineSpanWrongFalsely : Prop := fnExactCosineSpanRow.holds Try.pinned (OpenSpec.ofChange fnExactCosineSpanWrong)

/-- 'laws.FnExactSineSpan': WHATEVER THE INPUT: true; the input reads as it did. -/
def fnExactSineSpanSpec : ChangeSpec := { name := "fnExactSineSpan", fn := fun _ => fun
  | [d] => { results := [.lit (.bool true)], args := [d] }
  | _ => none }
def fnExactSineSpanRow : OpenClaim := { program := "ytdojgkjgjfclaaa", sum := "a74961f6e4cc34cecc11e2f267ffbaa92d3b371ab883174aa2d72bdfcd7fb669", func := "loop.example/fixedmath/laws.FnExactSineSpan", spec := "fnExactSineSpan", apart := false }
def FnExactSineSpanSaid : Prop := fnExactSineSpanRow.holds Try.pinned (OpenSpec.ofChange fnExactSineSpanSpec)

/-- ITS FALSE NEIGHBOUR: 'it returns false'. Refute it at one input. -/
def fnExactSineSpanWrong : ChangeSpec := { name := "fnExactSineSpan", fn := fun _ => fun
  | [d] => { results := [.lit (.bool false)], args := [d] }
  | _ => none }
def FnExactSineSpanWrongFalsely : Prop := fnExactSineSpanRow.holds Try.pinned (OpenSpec.ofChange fnExactSineSpanWrong)

/-- 'laws.FnSineSpan': WHATEVER THE INPUT: true; the input reads as it did. -/
def fnSineSpanSpec : ChangeSpec := { name := "fnSineSpan", fn := fun _ => fun
  | [d] => { results := [.lit (.bool true)], args := [d] }
  | _ => none }
def fnSineSpanRow : OpenClaim := { program := "ytdojgkjgjfclaaa", sum := "a74961f6e4cc34cecc11e2f267ffbaa92d3b371ab883174aa2d72bdfcd7fb669", func := "loop.example/fixedmath/laws.FnSineSpan", spec := "fnSineSpan", apart := false }
def FnSineSpanSaid : Prop := fnSineSpanRow.holds Try.pinned (OpenSpec.ofChange fnSineSpanSpec)

/-- ITS FALSE NEIGHBOUR: 'it returns false'. Refute it at one input. -/
def fnSineSpanWrong : ChangeSpec := { name := "fnSineSpan", fn := fun _ => fun
  | [d] => { results := [.lit (.bool false)], args := [d] }
  | _ => none }
def FnSineSpanWrongFalsely : Prop := fnSineSpanRow.holds Try.pinned (OpenSpec.ofChange fnSineSpanWrong)

/-- 'laws.FnCosineSpan': WHATEVER THE INPUT: true; the input reads as it did. -/
def fnCosineSpanSpec : ChangeSpec := { name := "fnCosineSpan", fn := fun _ => fun
  | [d] => { results := [.lit (.bool true)], args := [d] }
  | _ => none }
def fnCosineSpanRow : OpenClaim := { program := "ytdojgkjgjfclaaa", sum := "a74961f6e4cc34cecc11e2f267ffbaa92d3b371ab883174aa2d72bdfcd7fb669", func := "loop.example/fixedmath/laws.FnCosineSpan", spec := "fnCosineSpan", apart := false }
def FnCosineSpanSaid : Prop := fnCosineSpanRow.holds Try.pinned (OpenSpec.ofChange fnCosineSpanSpec)

/-- ITS FALSE NEIGHBOUR: 'it returns false'. Refute it at one input. -/
def fnCosineSpanWrong : ChangeSpec := { name := "fnCosineSpan", fn := fun _ => fun
  | [d] => { results := [.lit (.bool false)], args := [d] }
  | _ => none }
def FnCosineSpanWrongFalsely : Prop := fnCosineSpanRow.holds Try.pinned (OpenSpec.ofChange fnCosineSpanWrong)

/- THE SECOND FORM. 'bulk': how many values and letters a reading holds, each counted each time it is reached (what is shared counts as often as it is met; a slice's spare places count too). A statement '..UptoSaid' is the law's where the arguments, and the package variables that the reading takes, are together of bulk at most 1048576: NARROWER than '..Said'. Prove '..Said' where nothing that the law and all that it calls make is longer than what came in: it says more and counts as full. Else prove '..UptoSaid'. A law counts once. -/
mutual
def uptoBulk {H : Type} : DataW H → Nat
  | .lit (.string bytes) => bytes.length + 1
  | .lit _ => 1
  | .nil => 1
  | .ptr d => uptoBulk d + 1
  | .slice elems spare => uptoBulkAll elems + uptoBulkAll spare + 1
  | .agg parts => uptoBulkAll parts + 1
  | .iface _ d => uptoBulk d + 1
  | .map entries => uptoBulkEntries entries + 1
  | .held _ => 1
def uptoBulkAll {H : Type} : List (DataW H) → Nat
  | [] => 0
  | d :: r => uptoBulk d + uptoBulkAll r
def uptoBulkEntries {H : Type} : List (Lit × DataW H) → Nat
  | [] => 0
  | x :: r => uptoBulkEntry x + uptoBulkEntries r
def uptoBulkEntry {H : Type} : Lit × DataW H → Nat
  | (.string bytes, d) => bytes.length + uptoBulk d + 1
  | (_, d) => uptoBulk d + 1
 end
def uptoSmall : (H : Type) → List (DataW H) → Bool := fun _ ds => decide (uptoBulkAll ds ≤ 1048576)
def OpenSpec.upto (s : _root_.Go.ChangeSpec) : _root_.Go.OpenSpec := { _root_.Go.OpenSpec.ofChange s with cond := some uptoSmall }

/-- 'laws.FnExactSineFar', WHERE WHAT IT READS IS OF BULK AT MOST 1048576: true; the input reads as it did. -/
def fnExactSineFarUptoRow : OpenClaim := { program := "ytdojgkjgjfclaaa", sum := "a74961f6e4cc34cecc11e2f267ffbaa92d3b371ab883174aa2d72bdfcd7fb669", func := "loop.example/fixedmath/laws.FnExactSineFar", spec := "fnExactSineFar", recurses := true, apart := false, narrowed := true }
def FnExactSineFarUptoSaid : Prop := fnExactSineFarUptoRow.holds Try.pinned (OpenSpec.upto fnExactSineFarSpec)

/-- 'laws.FnSineFar', WHERE WHAT IT READS IS OF BULK AT MOST 1048576: true; the input reads as it did. -/
def fnSineFarUptoRow : OpenClaim := { program := "ytdojgkjgjfclaaa", sum := "a74961f6e4cc34cecc11e2f267ffbaa92d3b371ab883174aa2d72bdfcd7fb669", func := "loop.example/fixedmath/laws.FnSineFar", spec := "fnSineFar", recurses := true, apart := false, narrowed := true }
def FnSineFarUptoSaid : Prop := fnSineFarUptoRow.holds Try.pinned (OpenSpec.upto fnSineFarSpec)

/-- 'laws.FnExactCosineSpan', WHERE WHAT IT READS IS OF BULK AT MOST 1048576: true; the input reads as it did. -/
def fnExactCosineSpanUptoRow : OpenClaim := { program := "ytdojgkjgjfclaaa", sum := "a74961f6e4cc34cecc11e2f267ffbaa92d3b371ab883174aa2d72bdfcd7fb669", func := "loop.example/fixedmath/laws.FnExactCosineSpan", spec := "fnExactCosineSpan", apart := false, narrowed := true }
def FnExactCosineSpanUptoSaid : Prop := fnExactCosineSpanUptoRow.holds Try.pinned (OpenSpec.upto fnExactCosineSpanSpec)

/-- 'laws.FnExactSineSpan', WHERE WHAT IT READS IS OF BULK AT MOST 1048576: true; the input reads as it did. -/
def fnExactSineSpanUptoRow : OpenClaim := { program := "ytdojgkjgjfclaaa", sum := "a74961f6e4cc34cecc11e2f267ffbaa92d3b371ab883174aa2d72bdfcd7fb669", func := "loop.example/fixedmath/laws.FnExactSineSpan", spec := "fnExactSineSpan", apart := false, narrowed := true }
def FnExactSineSpanUptoSaid : Prop := fnExactSineSpanUptoRow.holds Try.pinned (OpenSpec.upto fnExactSineSpanSpec)

/-- 'laws.FnSineSpan', WHERE WHAT IT READS IS OF BULK AT MOST 1048576: true; the input reads as it did. -/
def fnSineSpanUptoRow : OpenClaim := { program := "ytdojgkjgjfclaaa", sum := "a74961f6e4cc34cecc11e2f267ffbaa92d3b371ab883174aa2d72bdfcd7fb669", func := "loop.example/fixedmath/laws.FnSineSpan", spec := "fnSineSpan", apart := false, narrowed := true }
def FnSineSpanUptoSaid : Prop := fnSineSpanUptoRow.holds Try.pinned (OpenSpec.upto fnSineSpanSpec)

/-- 'laws.FnCosineSpan', WHERE WHAT IT READS IS OF BULK AT MOST 1048576: true; the input reads as it did. -/
def fnCosineSpanUptoRow : OpenClaim := { program := "ytdojgkjgjfclaaa", sum := "a74961f6e4cc34cecc11e2f267ffbaa92d3b371ab883174aa2d72bdfcd7fb669", func := "loop.example/fixedmath/laws.FnCosineSpan", spec := "fnCosineSpan", apart := false, narrowed := true }
def FnCosineSpanUptoSaid : Prop := fnCosineSpanUptoRow.holds Try.pinned (OpenSpec.upto fnCosineSpanSpec)

end Rows
end Go.Proofs.Ytdojgkjgjfclaaa
