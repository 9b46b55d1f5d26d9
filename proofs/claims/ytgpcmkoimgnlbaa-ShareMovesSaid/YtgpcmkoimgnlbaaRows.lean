/-
  No cell of these rows narrows 'for every input' (looked for: loops, veiled, ifaces, maps, wideKeys, modest, calm, conditions, laid).
  DERIVED. THE GIVEN ROWS OF THIS SEAT. 5 by the template 'for every input the law returns true; each argument reads behind the call as it read before'; 0 by the template 'total and deterministic' (their statements: YtgpcmkoimgnlbaaTotals.lean).
  GIVEN WITH THE SEED: the statements are not yours to turn. If you find one false, say at which input.
  Laid BY PROGRAM, IN A SANDBOX (cutbox-rows.mjs): the forced cells as the released guide's own fill.sh prints them over the translation f0491eca1198766c… (all of the seat's roots in one cut). By AI agents, Wed Nov 11 2026. No macro, syntax, notation, axiom, sorry.
-/
import Derived.Test.YtgpcmkoimgnlbaaChecked
import GoSem.Claim
import GoSem.ClaimJoined
import GoSem.ClaimMapViews
import Derived.JoinedTies
import Derived.KernelRfl
namespace Go.Proofs.Ytgpcmkoimgnlbaa
/- THE CELL 'sum', in the pinned program and in every row, IS THE sha256 OF THE DUMP (.gsa) THAT YtgpcmkoimgnlbaaProg.lean LOADS. Nothing in Lean hashes anything: it is a label: what it is worth is what the hold of that sum in a sandbox is worth. -/
noncomputable def Try.pinned : Pinned := { name := "ytgpcmkoimgnlbaa", sum := "f0491eca1198766cc047ed85f4bbac2bd28483d6ddbd33e495ee4cb738adb223", checked := Try.checked }
namespace Rows
def none {H : Type} : Left H := { results := [], args := [] }

/-- 'slipstreamlaw09.ShareLeast': WHATEVER THE INPUT: true; the input reads as it did. -/
def shareLeastSpec : ChangeSpec := { name := "shareLeast", fn := fun _ => fun
  | [d1, d2, d3, d4] => { results := [.lit (.bool true)], args := [d1, d2, d3, d4] }
  | _ => none }
def shareLeastRow : OpenClaim := { program := "ytgpcmkoimgnlbaa", sum := "f0491eca1198766cc047ed85f4bbac2bd28483d6ddbd33e495ee4cb738adb223", func := "slipstream/slipstreamlaw09.ShareLeast", spec := "shareLeast", unfollowed := true, recurses := true, apart := false }
def ShareLeastSaid : Prop := shareLeastRow.holds Try.pinned (OpenSpec.ofChange shareLeastSpec)

/-- ITS FALSE NEIGHBOUR: 'it returns false'. Refute it at one input. -/
def shareLeastWrong : ChangeSpec := { name := "shareLeast", fn := fun _ => fun
  | [d1, d2, d3, d4] => { results := [.lit (.bool false)], args := [d1, d2, d3, d4] }
  | _ => none }
def ShareLeastWrongFalsely : Prop := shareLeastRow.holds Try.pinned (OpenSpec.ofChange shareLeastWrong)

/-- 'slipstreamlaw09.ShareWeighs': WHATEVER THE INPUT: true; the input reads as it did. -/
def shareWeighsSpec : ChangeSpec := { name := "shareWeighs", fn := fun _ => fun
  | [d1, d2] => { results := [.lit (.bool true)], args := [d1, d2] }
  | _ => none }
def shareWeighsRow : OpenClaim := { program := "ytgpcmkoimgnlbaa", sum := "f0491eca1198766cc047ed85f4bbac2bd28483d6ddbd33e495ee4cb738adb223", func := "slipstream/slipstreamlaw09.ShareWeighs", spec := "shareWeighs", unfollowed := true, recurses := true, apart := false }
def ShareWeighsSaid : Prop := shareWeighsRow.holds Try.pinned (OpenSpec.ofChange shareWeighsSpec)

/-- ITS FALSE NEIGHBOUR: 'it returns false'. Refute it at one input. -/
def shareWeighsWrong : ChangeSpec := { name := "shareWeighs", fn := fun _ => fun
  | [d1, d2] => { results := [.lit (.bool false)], args := [d1, d2] }
  | _ => none }
def ShareWeighsWrongFalsely : Prop := shareWeighsRow.holds Try.pinned (OpenSpec.ofChange shareWeighsWrong)

/-- 'slipstreamlaw09.ShareProves': WHATEVER THE INPUT: true; the input reads as it did. -/
def shareProvesSpec : ChangeSpec := { name := "shareProves", fn := fun _ => fun
  | [d1, d2, d3, d4, d5] => { results := [.lit (.bool true)], args := [d1, d2, d3, d4, d5] }
  | _ => none }
def shareProvesRow : OpenClaim := { program := "ytgpcmkoimgnlbaa", sum := "f0491eca1198766cc047ed85f4bbac2bd28483d6ddbd33e495ee4cb738adb223", func := "slipstream/slipstreamlaw09.ShareProves", spec := "shareProves", unfollowed := true, recurses := true, apart := false }
def ShareProvesSaid : Prop := shareProvesRow.holds Try.pinned (OpenSpec.ofChange shareProvesSpec)

/-- ITS FALSE NEIGHBOUR: 'it returns false'. Refute it at one input. -/
def shareProvesWrong : ChangeSpec := { name := "shareProves", fn := fun _ => fun
  | [d1, d2, d3, d4, d5] => { results := [.lit (.bool false)], args := [d1, d2, d3, d4, d5] }
  | _ => none }
def ShareProvesWrongFalsely : Prop := shareProvesRow.holds Try.pinned (OpenSpec.ofChange shareProvesWrong)

/-- 'slipstreamlaw09.ShareGreed': WHATEVER THE INPUT: true; the input reads as it did. -/
def shareGreedSpec : ChangeSpec := { name := "shareGreed", fn := fun _ => fun
  | [d1, d2, d3, d4] => { results := [.lit (.bool true)], args := [d1, d2, d3, d4] }
  | _ => none }
def shareGreedRow : OpenClaim := { program := "ytgpcmkoimgnlbaa", sum := "f0491eca1198766cc047ed85f4bbac2bd28483d6ddbd33e495ee4cb738adb223", func := "slipstream/slipstreamlaw09.ShareGreed", spec := "shareGreed", unfollowed := true, recurses := true, apart := false }
def ShareGreedSaid : Prop := shareGreedRow.holds Try.pinned (OpenSpec.ofChange shareGreedSpec)

/-- ITS FALSE NEIGHBOUR: 'it returns false'. Refute it at one input. -/
def shareGreedWrong : ChangeSpec := { name := "shareGreed", fn := fun _ => fun
  | [d1, d2, d3, d4] => { results := [.lit (.bool false)], args := [d1, d2, d3, d4] }
  | _ => none }
def ShareGreedWrongFalsely : Prop := shareGreedRow.holds Try.pinned (OpenSpec.ofChange shareGreedWrong)

/-- 'slipstreamlaw09.ShareMoves': WHATEVER THE INPUT: true; the input reads as it did. -/
def shareMovesSpec : ChangeSpec := { name := "shareMoves", fn := fun _ => fun
  | [d1, d2, d3, d4, d5] => { results := [.lit (.bool true)], args := [d1, d2, d3, d4, d5] }
  | _ => none }
def shareMovesRow : OpenClaim := { program := "ytgpcmkoimgnlbaa", sum := "f0491eca1198766cc047ed85f4bbac2bd28483d6ddbd33e495ee4cb738adb223", func := "slipstream/slipstreamlaw09.ShareMoves", spec := "shareMoves", unfollowed := true, recurses := true, apart := false }
def ShareMovesSaid : Prop := shareMovesRow.holds Try.pinned (OpenSpec.ofChange shareMovesSpec)

/-- ITS FALSE NEIGHBOUR: 'it returns false'. Refute it at one input. -/
def shareMovesWrong : ChangeSpec := { name := "shareMoves", fn := fun _ => fun
  | [d1, d2, d3, d4, d5] => { results := [.lit (.bool false)], args := [d1, d2, d3, d4, d5] }
  | _ => none }
def ShareMovesWrongFalsely : Prop := shareMovesRow.holds Try.pinned (OpenSpec.ofChange shareMovesWrong)

/- THE SECOND FORM. 'bulk': how many values and letters a reading holds, each counted each time it is reached (what is shared counts as often as it is met; a slice's spare places count too). A statement '..UptoSaid' is the law's where the arguments, and the package variables that the reading takes, are together of bulk at most 1048576: NARROWER than '..Said'. Prove '..Said' where nothing that the law and all that it calls make is longer than what came in: it says more and counts as full. Else prove '..UptoSaid'. A law counts once. -/
mutual
def uptoBulk {H : Type} : DataW H → Nat
  | .lit (.string bytes) => bytes.length + 1
  | .lit _ => 1
  | .nil => 1
  | .ptr d => uptoBulk d + 1
  | .slice elems spare => uptoBulkAll elems + uptoBulkAll spare + 1
  | .agg parts => uptoBulkAll parts + 1
  | .iface _ d => uptoBulk d + 1
  | .map entries => uptoBulkEntries entries + 1
  | .held _ => 1
def uptoBulkAll {H : Type} : List (DataW H) → Nat
  | [] => 0
  | d :: r => uptoBulk d + uptoBulkAll r
def uptoBulkEntries {H : Type} : List (Lit × DataW H) → Nat
  | [] => 0
  | x :: r => uptoBulkEntry x + uptoBulkEntries r
def uptoBulkEntry {H : Type} : Lit × DataW H → Nat
  | (.string bytes, d) => bytes.length + uptoBulk d + 1
  | (_, d) => uptoBulk d + 1
 end
def uptoSmall : (H : Type) → List (DataW H) → Bool := fun _ ds => decide (uptoBulkAll ds ≤ 1048576)
def OpenSpec.upto (s : _root_.Go.ChangeSpec) : _root_.Go.OpenSpec := { _root_.Go.OpenSpec.ofChange s with cond := some uptoSmall }

/-- 'slipstreamlaw09.ShareLeast', WHERE WHAT IT READS IS OF BULK AT MOST 1048576: true; the input reads as it did. -/
def shareLeastUptoRow : OpenClaim := { program := "ytgpcmkoimgnlbaa", sum := "f0491eca1198766cc047ed85f4bbac2bd28483d6ddbd33e495ee4cb738adb223", func := "slipstream/slipstreamlaw09.ShareLeast", spec := "shareLeast", unfollowed := true, recurses := true, apart := false, narrowed := true }
def ShareLeastUptoSaid : Prop := shareLeastUptoRow.holds Try.pinned (OpenSpec.upto shareLeastSpec)

/-- 'slipstreamlaw09.ShareWeighs', WHERE WHAT IT READS IS OF BULK AT MOST 1048576: true; the input reads as it did. -/
def shareWeighsUptoRow : OpenClaim := { program := "ytgpcmkoimgnlbaa", sum := "f0491eca1198766cc047ed85f4bbac2bd28483d6ddbd33e495ee4cb738adb223", func := "slipstream/slipstreamlaw09.ShareWeighs", spec := "shareWeighs", unfollowed := true, recurses := true, apart := false, narrowed := true }
def ShareWeighsUptoSaid : Prop := shareWeighsUptoRow.holds Try.pinned (OpenSpec.upto shareWeighsSpec)

/-- 'slipstreamlaw09.ShareProves', WHERE WHAT IT READS IS OF BULK AT MOST 1048576: true; the input reads as it did. -/
def shareProvesUptoRow : OpenClaim := { program := "ytgpcmkoimgnlbaa", sum := "f0491eca1198766cc047ed85f4bbac2bd28483d6ddbd33e495ee4cb738adb223", func := "slipstream/slipstreamlaw09.ShareProves", spec := "shareProves", unfollowed := true, recurses := true, apart := false, narrowed := true }
def ShareProvesUptoSaid : Prop := shareProvesUptoRow.holds Try.pinned (OpenSpec.upto shareProvesSpec)

/-- 'slipstreamlaw09.ShareGreed', WHERE WHAT IT READS IS OF BULK AT MOST 1048576: true; the input reads as it did. -/
def shareGreedUptoRow : OpenClaim := { program := "ytgpcmkoimgnlbaa", sum := "f0491eca1198766cc047ed85f4bbac2bd28483d6ddbd33e495ee4cb738adb223", func := "slipstream/slipstreamlaw09.ShareGreed", spec := "shareGreed", unfollowed := true, recurses := true, apart := false, narrowed := true }
def ShareGreedUptoSaid : Prop := shareGreedUptoRow.holds Try.pinned (OpenSpec.upto shareGreedSpec)

/-- 'slipstreamlaw09.ShareMoves', WHERE WHAT IT READS IS OF BULK AT MOST 1048576: true; the input reads as it did. -/
def shareMovesUptoRow : OpenClaim := { program := "ytgpcmkoimgnlbaa", sum := "f0491eca1198766cc047ed85f4bbac2bd28483d6ddbd33e495ee4cb738adb223", func := "slipstream/slipstreamlaw09.ShareMoves", spec := "shareMoves", unfollowed := true, recurses := true, apart := false, narrowed := true }
def ShareMovesUptoSaid : Prop := shareMovesUptoRow.holds Try.pinned (OpenSpec.upto shareMovesSpec)

end Rows
end Go.Proofs.Ytgpcmkoimgnlbaa
