/-
  No cell of these rows narrows 'for every input' (looked for: loops, veiled, ifaces, maps, wideKeys, modest, calm, conditions, laid).
  DERIVED. THE GIVEN ROWS OF THIS SEAT. 9 by the template 'for every input the law returns true; each argument reads behind the call as it read before'; 0 by the template 'total and deterministic' (their statements: YtdnklndemoinaaaTotals.lean).
  GIVEN WITH THE SEED: the statements are not yours to turn. If you find one false, say at which input.
  Laid BY PROGRAM, IN A SANDBOX (cutbox-rows.mjs): the forced cells as the released guide's own fill.sh prints them over the translation 884f0eca77c8db8d… (all of the seat's roots in one cut). By AI agents, Wed Nov 11 2026. No macro, syntax, notation, axiom, sorry.
-/
import Derived.Test.YtdnklndemoinaaaChecked
import GoSem.Claim
import GoSem.ClaimJoined
import GoSem.ClaimMapViews
import Derived.JoinedTies
import Derived.KernelRfl
namespace Go.Proofs.Ytdnklndemoinaaa
/- THE CELL 'sum', in the pinned program and in every row, IS THE sha256 OF THE DUMP (.gsa) THAT YtdnklndemoinaaaProg.lean LOADS. Nothing in Lean hashes anything: it is a label: what it is worth is what the hold of that sum in a sandbox is worth. -/
noncomputable def Try.pinned : Pinned := { name := "ytdnklndemoinaaa", sum := "884f0eca77c8db8d59be97f572e9c5b5696ec320227a3c6c057690b69e8c4188", checked := Try.checked }
namespace Rows
def none {H : Type} : Left H := { results := [], args := [] }

/-- 'laws.FnExactPolyValid': WHATEVER THE INPUT: true; the input reads as it did. -/
def fnExactPolyValidSpec : ChangeSpec := { name := "fnExactPolyValid", fn := fun _ => fun
  | [d] => { results := [.lit (.bool true)], args := [d] }
  | _ => none }
def fnExactPolyValidRow : OpenClaim := { program := "ytdnklndemoinaaa", sum := "884f0eca77c8db8d59be97f572e9c5b5696ec320227a3c6c057690b69e8c4188", func := "loop.example/fixedmath/laws.FnExactPolyValid", spec := "fnExactPolyValid", apart := false }
def FnExactPolyValidSaid : Prop := fnExactPolyValidRow.holds Try.pinned (OpenSpec.ofChange fnExactPolyValidSpec)

/-- ITS FALSE NEIGHBOUR: 'it returns false'. Refute it at one input. -/
def fnExactPolyValidWrong : ChangeSpec := { name := "fnExactPolyValid", fn := fun _ => fun
  | [d] => { results := [.lit (.bool false)], args := [d] }
  | _ => none }
def FnExactPolyValidWrongFalsely : Prop := fnExactPolyValidRow.holds Try.pinned (OpenSpec.ofChange fnExactPolyValidWrong)

/-- 'laws.FnExactPolyAt': WHATEVER THE INPUT: true; the input reads as it did. -/
def fnExactPolyAtSpec : ChangeSpec := { name := "fnExactPolyAt", fn := fun _ => fun
  | [d1, d2] => { results := [.lit (.bool true)], args := [d1, d2] }
  | _ => none }
def fnExactPolyAtRow : OpenClaim := { program := "ytdnklndemoinaaa", sum := "884f0eca77c8db8d59be97f572e9c5b5696ec320227a3c6c057690b69e8c4188", func := "loop.example/fixedmath/laws.FnExactPolyAt", spec := "fnExactPolyAt", apart := false }
def FnExactPolyAtSaid : Prop := fnExactPolyAtRow.holds Try.pinned (OpenSpec.ofChange fnExactPolyAtSpec)

/-- ITS FALSE NEIGHBOUR: 'it returns false'. Refute it at one input. -/
def fnExactPolyAtWrong : ChangeSpec := { name := "fnExactPolyAt", fn := fun _ => fun
  | [d1, d2] => { results := [.lit (.bool false)], args := [d1, d2] }
  | _ => none }
def FnExactPolyAtWrongFalsely : Prop := fnExactPolyAtRow.holds Try.pinned (OpenSpec.ofChange fnExactPolyAtWrong)

/-- 'laws.FnExactPolySlope': WHATEVER THE INPUT: true; the input reads as it did. -/
def fnExactPolySlopeSpec : ChangeSpec := { name := "fnExactPolySlope", fn := fun _ => fun
  | [d] => { results := [.lit (.bool true)], args := [d] }
  | _ => none }
def fnExactPolySlopeRow : OpenClaim := { program := "ytdnklndemoinaaa", sum := "884f0eca77c8db8d59be97f572e9c5b5696ec320227a3c6c057690b69e8c4188", func := "loop.example/fixedmath/laws.FnExactPolySlope", spec := "fnExactPolySlope", apart := false }
def FnExactPolySlopeSaid : Prop := fnExactPolySlopeRow.holds Try.pinned (OpenSpec.ofChange fnExactPolySlopeSpec)

/-- ITS FALSE NEIGHBOUR: 'it returns false'. Refute it at one input. -/
def fnExactPolySlopeWrong : ChangeSpec := { name := "fnExactPolySlope", fn := fun _ => fun
  | [d] => { results := [.lit (.bool false)], args := [d] }
  | _ => none }
def FnExactPolySlopeWrongFalsely : Prop := fnExactPolySlopeRow.holds Try.pinned (OpenSpec.ofChange fnExactPolySlopeWrong)

/-- 'laws.FnExactPolyStored': WHATEVER THE INPUT: true; the input reads as it did. -/
def fnExactPolyStoredSpec : ChangeSpec := { name := "fnExactPolyStored", fn := fun _ => fun
  | [d1, d2, d3] => { results := [.lit (.bool true)], args := [d1, d2, d3] }
  | _ => none }
def fnExactPolyStoredRow : OpenClaim := { program := "ytdnklndemoinaaa", sum := "884f0eca77c8db8d59be97f572e9c5b5696ec320227a3c6c057690b69e8c4188", func := "loop.example/fixedmath/laws.FnExactPolyStored", spec := "fnExactPolyStored", unfollowed := true, recurses := true, apart := false }
def FnExactPolyStoredSaid : Prop := fnExactPolyStoredRow.holds Try.pinned (OpenSpec.ofChange fnExactPolyStoredSpec)

/-- ITS FALSE NEIGHBOUR: 'it returns false'. Refute it at one input. -/
def fnExactPolyStoredWrong : ChangeSpec := { name := "fnExactPolyStored", fn := fun _ => fun
  | [d1, d2, d3] => { results := [.lit (.bool false)], args := [d1, d2, d3] }
  | _ => none }
def FnExactPolyStoredWrongFalsely : Prop := fnExactPolyStoredRow.holds Try.pinned (OpenSpec.ofChange fnExactPolyStoredWrong)

/-- 'laws.FnPolyValid': WHATEVER THE INPUT: true; the input reads as it did. -/
def fnPolyValidSpec : ChangeSpec := { name := "fnPolyValid", fn := fun _ => fun
  | [d] => { results := [.lit (.bool true)], args := [d] }
  | _ => none }
def fnPolyValidRow : OpenClaim := { program := "ytdnklndemoinaaa", sum := "884f0eca77c8db8d59be97f572e9c5b5696ec320227a3c6c057690b69e8c4188", func := "loop.example/fixedmath/laws.FnPolyValid", spec := "fnPolyValid", apart := false }
def FnPolyValidSaid : Prop := fnPolyValidRow.holds Try.pinned (OpenSpec.ofChange fnPolyValidSpec)

/-- ITS FALSE NEIGHBOUR: 'it returns false'. Refute it at one input. -/
def fnPolyValidWrong : ChangeSpec := { name := "fnPolyValid", fn := fun _ => fun
  | [d] => { results := [.lit (.bool false)], args := [d] }
  | _ => none }
def FnPolyValidWrongFalsely : Prop := fnPolyValidRow.holds Try.pinned (OpenSpec.ofChange fnPolyValidWrong)

/-- 'laws.FnPolyAt': WHATEVER THE INPUT: true; the input reads as it did. -/
def fnPolyAtSpec : ChangeSpec := { name := "fnPolyAt", fn := fun _ => fun
  | [d] => { results := [.lit (.bool true)], args := [d] }
  | _ => none }
def fnPolyAtRow : OpenClaim := { program := "ytdnklndemoinaaa", sum := "884f0eca77c8db8d59be97f572e9c5b5696ec320227a3c6c057690b69e8c4188", func := "loop.example/fixedmath/laws.FnPolyAt", spec := "fnPolyAt", apart := false }
def FnPolyAtSaid : Prop := fnPolyAtRow.holds Try.pinned (OpenSpec.ofChange fnPolyAtSpec)

/-- ITS FALSE NEIGHBOUR: 'it returns false'. Refute it at one input. -/
def fnPolyAtWrong : ChangeSpec := { name := "fnPolyAt", fn := fun _ => fun
  | [d] => { results := [.lit (.bool false)], args := [d] }
  | _ => none }
def FnPolyAtWrongFalsely : Prop := fnPolyAtRow.holds Try.pinned (OpenSpec.ofChange fnPolyAtWrong)

/-- 'laws.FnPolyMean': WHATEVER THE INPUT: true; the input reads as it did. -/
def fnPolyMeanSpec : ChangeSpec := { name := "fnPolyMean", fn := fun _ => fun
  | [d] => { results := [.lit (.bool true)], args := [d] }
  | _ => none }
def fnPolyMeanRow : OpenClaim := { program := "ytdnklndemoinaaa", sum := "884f0eca77c8db8d59be97f572e9c5b5696ec320227a3c6c057690b69e8c4188", func := "loop.example/fixedmath/laws.FnPolyMean", spec := "fnPolyMean", apart := false }
def FnPolyMeanSaid : Prop := fnPolyMeanRow.holds Try.pinned (OpenSpec.ofChange fnPolyMeanSpec)

/-- ITS FALSE NEIGHBOUR: 'it returns false'. Refute it at one input. -/
def fnPolyMeanWrong : ChangeSpec := { name := "fnPolyMean", fn := fun _ => fun
  | [d] => { results := [.lit (.bool false)], args := [d] }
  | _ => none }
def FnPolyMeanWrongFalsely : Prop := fnPolyMeanRow.holds Try.pinned (OpenSpec.ofChange fnPolyMeanWrong)

/-- 'laws.FnPolySlope': WHATEVER THE INPUT: true; the input reads as it did. -/
def fnPolySlopeSpec : ChangeSpec := { name := "fnPolySlope", fn := fun _ => fun
  | [d] => { results := [.lit (.bool true)], args := [d] }
  | _ => none }
def fnPolySlopeRow : OpenClaim := { program := "ytdnklndemoinaaa", sum := "884f0eca77c8db8d59be97f572e9c5b5696ec320227a3c6c057690b69e8c4188", func := "loop.example/fixedmath/laws.FnPolySlope", spec := "fnPolySlope", apart := false }
def FnPolySlopeSaid : Prop := fnPolySlopeRow.holds Try.pinned (OpenSpec.ofChange fnPolySlopeSpec)

/-- ITS FALSE NEIGHBOUR: 'it returns false'. Refute it at one input. -/
def fnPolySlopeWrong : ChangeSpec := { name := "fnPolySlope", fn := fun _ => fun
  | [d] => { results := [.lit (.bool false)], args := [d] }
  | _ => none }
def FnPolySlopeWrongFalsely : Prop := fnPolySlopeRow.holds Try.pinned (OpenSpec.ofChange fnPolySlopeWrong)

/-- 'laws.FnPolyStored': WHATEVER THE INPUT: true; the input reads as it did. -/
def fnPolyStoredSpec : ChangeSpec := { name := "fnPolyStored", fn := fun _ => fun
  | [d] => { results := [.lit (.bool true)], args := [d] }
  | _ => none }
def fnPolyStoredRow : OpenClaim := { program := "ytdnklndemoinaaa", sum := "884f0eca77c8db8d59be97f572e9c5b5696ec320227a3c6c057690b69e8c4188", func := "loop.example/fixedmath/laws.FnPolyStored", spec := "fnPolyStored", unfollowed := true, recurses := true, apart := false }
def FnPolyStoredSaid : Prop := fnPolyStoredRow.holds Try.pinned (OpenSpec.ofChange fnPolyStoredSpec)

/-- ITS FALSE NEIGHBOUR: 'it returns false'. Refute it at one input. -/
def fnPolyStoredWrong : ChangeSpec := { name := "fnPolyStored", fn := fun _ => fun
  | [d] => { results := [.lit (.bool false)], args := [d] }
  | _ => none }
def FnPolyStoredWrongFalsely : Prop := fnPolyStoredRow.holds Try.pinned (OpenSpec.ofChange fnPolyStoredWrong)

/- THE SECOND FORM. 'bulk': how many values and letters a reading holds, each counted each time it is reached (what is shared counts as often as it is met; a slice's spare places count too). A statement '..UptoSaid' is the law's where the arguments, and the package variables that the reading takes, are together of bulk at most 1048576: NARROWER than '..Said'. Prove '..Said' where nothing that the law and all that it calls make is longer than what came in: it says more and counts as full. Else prove '..UptoSaid'. A law counts once. -/
mutual
def uptoBulk {H : Type} : DataW H → Nat
  | .lit (.string bytes) => bytes.length + 1
  | .lit _ => 1
  | .nil => 1
  | .ptr d => uptoBulk d + 1
  | .slice elems spare => uptoBulkAll elems + uptoBulkAll spare + 1
  | .agg parts => uptoBulkAll parts + 1
  | .iface _ d => uptoBulk d + 1
  | .map entries => uptoBulkEntries entries + 1
  | .held _ => 1
def uptoBulkAll {H : Type} : List (DataW H) → Nat
  | [] => 0
  | d :: r => uptoBulk d + uptoBulkAll r
def uptoBulkEntries {H : Type} : List (Lit × DataW H) → Nat
  | [] => 0
  | x :: r => uptoBulkEntry x + uptoBulkEntries r
def uptoBulkEntry {H : Type} : Lit × DataW H → Nat
  | (.string bytes, d) => bytes.length + uptoBulk d + 1
  | (_, d) => uptoBulk d + 1
 end
def uptoSmall : (H : Type) → List (DataW H) → Bool := fun _ ds => decide (uptoBulkAll ds ≤ 1048576)
def OpenSpec.upto (s : _root_.Go.ChangeSpec) : _root_.Go.OpenSpec := { _root_.Go.OpenSpec.ofChange s with cond := some uptoSmall }

/-- 'laws.FnExactPolyValid', WHERE WHAT IT READS IS OF BULK AT MOST 1048576: true; the input reads as it did. -/
def fnExactPolyValidUptoRow : OpenClaim := { program := "ytdnklndemoinaaa", sum := "884f0eca77c8db8d59be97f572e9c5b5696ec320227a3c6c057690b69e8c4188", func := "loop.example/fixedmath/laws.FnExactPolyValid", spec := "fnExactPolyValid", apart := false, narrowed := true }
def FnExactPolyValidUptoSaid : Prop := fnExactPolyValidUptoRow.holds Try.pinned (OpenSpec.upto fnExactPolyValidSpec)

/-- 'laws.FnExactPolyAt', WHERE WHAT IT READS IS OF BULK AT MOST 1048576: true; the input reads as it did. -/
def fnExactPolyAtUptoRow : OpenClaim := { program := "ytdnklndemoinaaa", sum := "884f0eca77c8db8d59be97f572e9c5b5696ec320227a3c6c057690b69e8c4188", func := "loop.example/fixedmath/laws.FnExactPolyAt", spec := "fnExactPolyAt", apart := false, narrowed := true }
def FnExactPolyAtUptoSaid : Prop := fnExactPolyAtUptoRow.holds Try.pinned (OpenSpec.upto fnExactPolyAtSpec)

/-- 'laws.FnExactPolySlope', WHERE WHAT IT READS IS OF BULK AT MOST 1048576: true; the input reads as it did. -/
def fnExactPolySlopeUptoRow : OpenClaim := { program := "ytdnklndemoinaaa", sum := "884f0eca77c8db8d59be97f572e9c5b5696ec320227a3c6c057690b69e8c4188", func := "loop.example/fixedmath/laws.FnExactPolySlope", spec := "fnExactPolySlope", apart := false, narrowed := true }
def FnExactPolySlopeUptoSaid : Prop := fnExactPolySlopeUptoRow.holds Try.pinned (OpenSpec.upto fnExactPolySlopeSpec)

/-- 'laws.FnExactPolyStored', WHERE WHAT IT READS IS OF BULK AT MOST 1048576: true; the input reads as it did. -/
def fnExactPolyStoredUptoRow : OpenClaim := { program := "ytdnklndemoinaaa", sum := "884f0eca77c8db8d59be97f572e9c5b5696ec320227a3c6c057690b69e8c4188", func := "loop.example/fixedmath/laws.FnExactPolyStored", spec := "fnExactPolyStored", unfollowed := true, recurses := true, apart := false, narrowed := true }
def FnExactPolyStoredUptoSaid : Prop := fnExactPolyStoredUptoRow.holds Try.pinned (OpenSpec.upto fnExactPolyStoredSpec)

/-- 'laws.FnPolyValid', WHERE WHAT IT READS IS OF BULK AT MOST 1048576: true; the input reads as it did. -/
def fnPolyValidUptoRow : OpenClaim := { program := "ytdnklndemoinaaa", sum := "884f0eca77c8db8d59be97f572e9c5b5696ec320227a3c6c057690b69e8c4188", func := "loop.example/fixedmath/laws.FnPolyValid", spec := "fnPolyValid", apart := false, narrowed := true }
def FnPolyValidUptoSaid : Prop := fnPolyValidUptoRow.holds Try.pinned (OpenSpec.upto fnPolyValidSpec)

/-- 'laws.FnPolyAt', WHERE WHAT IT READS IS OF BULK AT MOST 1048576: true; the input reads as it did. -/
def fnPolyAtUptoRow : OpenClaim := { program := "ytdnklndemoinaaa", sum := "884f0eca77c8db8d59be97f572e9c5b5696ec320227a3c6c057690b69e8c4188", func := "loop.example/fixedmath/laws.FnPolyAt", spec := "fnPolyAt", apart := false, narrowed := true }
def FnPolyAtUptoSaid : Prop := fnPolyAtUptoRow.holds Try.pinned (OpenSpec.upto fnPolyAtSpec)

/-- 'laws.FnPolyMean', WHERE WHAT IT READS IS OF BULK AT MOST 1048576: true; the input reads as it did. -/
def fnPolyMeanUptoRow : OpenClaim := { program := "ytdnklndemoinaaa", sum := "884f0eca77c8db8d59be97f572e9c5b5696ec320227a3c6c057690b69e8c4188", func := "loop.example/fixedmath/laws.FnPolyMean", spec := "fnPolyMean", apart := false, narrowed := true }
def FnPolyMeanUptoSaid : Prop := fnPolyMeanUptoRow.holds Try.pinned (OpenSpec.upto fnPolyMeanSpec)

/-- 'laws.FnPolySlope', WHERE WHAT IT READS IS OF BULK AT MOST 1048576: true; the input reads as it did. -/
def fnPolySlopeUptoRow : OpenClaim := { program := "ytdnklndemoinaaa", sum := "884f0eca77c8db8d59be97f572e9c5b5696ec320227a3c6c057690b69e8c4188", func := "loop.example/fixedmath/laws.FnPolySlope", spec := "fnPolySlope", apart := false, narrowed := true }
def FnPolySlopeUptoSaid : Prop := fnPolySlopeUptoRow.holds Try.pinned (OpenSpec.upto fnPolySlopeSpec)

/-- 'laws.FnPolyStored', WHERE WHAT IT READS IS OF BULK AT MOST 1048576: true; the input reads as it did. -/
def fnPolyStoredUptoRow : OpenClaim := { program := "ytdnklndemoinaaa", sum := "884f0eca77c8db8d59be97f572e9c5b5696ec320227a3c6c057690b69e8c4188", func := "loop.example/fixedmath/laws.FnPolyStored", spec := "fnPolyStored", unfollowed := true, recurses := true, apart := false, narrowed := true }
def FnPolyStoredUptoSaid : Prop := fnPolyStoredUptoRow.holds Try.pinned (OpenSpec.upto fnPolyStoredSpec)

end Rows
end Go.Proofs.Ytdnklndemoinaaa
