/-
  No cell of these rows narrows 'for every input' (looked for: loops, veiled, ifaces, maps, wideKeys, modest, calm, conditions, laid).
  DERIVED. THE GIVEN ROWS OF THIS SEAT. 12 by the template 'for every input the law returns true; each argument reads behind the call as it read before'; 0 by the template 'total and deterministic' (their statements: YtnnaegnkkpknpaaTotals.lean).
  GIVEN WITH THE SEED: the statements are not yours to turn. If you find one false, say at which input.
  Laid BY PROGRAM, IN A SANDBOX (cutbox-rows.mjs): the forced cells as the released guide's own fill.sh prints them over the translation d8be8bc52789f7b3… (all of the seat's roots in one cut). By AI agents, Wed Nov 11 2026. No macro, syntax, notation, axiom, sorry.
-/
import Derived.Test.YtnnaegnkkpknpaaChecked
import GoSem.Claim
import GoSem.ClaimJoined
import GoSem.ClaimMapViews
import Derived.JoinedTies
import Derived.KernelRfl
namespace Go.Proofs.Ytnnaegnkkpknpaa
/- THE CELL 'sum', in the pinned program and in every row, IS THE sha256 OF THE DUMP (.gsa) THAT YtnnaegnkkpknpaaProg.lean LOADS. Nothing in Lean hashes anything: it is a label: what it is worth is what the hold of that sum in a sandbox is worth. -/
noncomputable def Try.pinned : Pinned := { name := "ytnnaegnkkpknpaa", sum := "d8be8bc52789f7b3bb06f7a29a95ec1b8f98b9d084674430016ae99d5764963a", checked := Try.checked }
namespace Rows
def none {H : Type} : Left H := { results := [], args := [] }

/-- 'slipstreamlaw03.WallSends': WHATEVER THE INPUT: true; the input reads as it did. -/
def wallSendsSpec : ChangeSpec := { name := "wallSends", fn := fun _ => fun
  | [d1, d2, d3] => { results := [.lit (.bool true)], args := [d1, d2, d3] }
  | _ => none }
def wallSendsRow : OpenClaim := { program := "ytnnaegnkkpknpaa", sum := "d8be8bc52789f7b3bb06f7a29a95ec1b8f98b9d084674430016ae99d5764963a", func := "slipstream/slipstreamlaw03.WallSends", spec := "wallSends", apart := false }
def WallSendsSaid : Prop := wallSendsRow.holds Try.pinned (OpenSpec.ofChange wallSendsSpec)

/-- ITS FALSE NEIGHBOUR: 'it returns false'. Refute it at one input. -/
def wallSendsWrong : ChangeSpec := { name := "wallSends", fn := fun _ => fun
  | [d1, d2, d3] => { results := [.lit (.bool false)], args := [d1, d2, d3] }
  | _ => none }
def WallSendsWrongFalsely : Prop := wallSendsRow.holds Try.pinned (OpenSpec.ofChange wallSendsWrong)

/-- 'slipstreamlaw03.WallImpulses': WHATEVER THE INPUT: true; the input reads as it did. -/
def wallImpulsesSpec : ChangeSpec := { name := "wallImpulses", fn := fun _ => fun
  | [d1, d2] => { results := [.lit (.bool true)], args := [d1, d2] }
  | _ => none }
def wallImpulsesRow : OpenClaim := { program := "ytnnaegnkkpknpaa", sum := "d8be8bc52789f7b3bb06f7a29a95ec1b8f98b9d084674430016ae99d5764963a", func := "slipstream/slipstreamlaw03.WallImpulses", spec := "wallImpulses", apart := false }
def WallImpulsesSaid : Prop := wallImpulsesRow.holds Try.pinned (OpenSpec.ofChange wallImpulsesSpec)

/-- ITS FALSE NEIGHBOUR: 'it returns false'. Refute it at one input. -/
def wallImpulsesWrong : ChangeSpec := { name := "wallImpulses", fn := fun _ => fun
  | [d1, d2] => { results := [.lit (.bool false)], args := [d1, d2] }
  | _ => none }
def WallImpulsesWrongFalsely : Prop := wallImpulsesRow.holds Try.pinned (OpenSpec.ofChange wallImpulsesWrong)

/-- 'slipstreamlaw03.WallShapes': WHATEVER THE INPUT: true; the input reads as it did. -/
def wallShapesSpec : ChangeSpec := { name := "wallShapes", fn := fun _ => fun
  | [d1, d2] => { results := [.lit (.bool true)], args := [d1, d2] }
  | _ => none }
def wallShapesRow : OpenClaim := { program := "ytnnaegnkkpknpaa", sum := "d8be8bc52789f7b3bb06f7a29a95ec1b8f98b9d084674430016ae99d5764963a", func := "slipstream/slipstreamlaw03.WallShapes", spec := "wallShapes", unfollowed := true, recurses := true, apart := false }
def WallShapesSaid : Prop := wallShapesRow.holds Try.pinned (OpenSpec.ofChange wallShapesSpec)

/-- ITS FALSE NEIGHBOUR: 'it returns false'. Refute it at one input. -/
def wallShapesWrong : ChangeSpec := { name := "wallShapes", fn := fun _ => fun
  | [d1, d2] => { results := [.lit (.bool false)], args := [d1, d2] }
  | _ => none }
def WallShapesWrongFalsely : Prop := wallShapesRow.holds Try.pinned (OpenSpec.ofChange wallShapesWrong)

/-- 'slipstreamlaw03.WallDiscs': WHATEVER THE INPUT: true; the input reads as it did. -/
def wallDiscsSpec : ChangeSpec := { name := "wallDiscs", fn := fun _ => fun
  | [d1, d2, d3] => { results := [.lit (.bool true)], args := [d1, d2, d3] }
  | _ => none }
def wallDiscsRow : OpenClaim := { program := "ytnnaegnkkpknpaa", sum := "d8be8bc52789f7b3bb06f7a29a95ec1b8f98b9d084674430016ae99d5764963a", func := "slipstream/slipstreamlaw03.WallDiscs", spec := "wallDiscs", unfollowed := true, recurses := true, apart := false }
def WallDiscsSaid : Prop := wallDiscsRow.holds Try.pinned (OpenSpec.ofChange wallDiscsSpec)

/-- ITS FALSE NEIGHBOUR: 'it returns false'. Refute it at one input. -/
def wallDiscsWrong : ChangeSpec := { name := "wallDiscs", fn := fun _ => fun
  | [d1, d2, d3] => { results := [.lit (.bool false)], args := [d1, d2, d3] }
  | _ => none }
def WallDiscsWrongFalsely : Prop := wallDiscsRow.holds Try.pinned (OpenSpec.ofChange wallDiscsWrong)

/-- 'slipstreamlaw03.WallRemoves': WHATEVER THE INPUT: true; the input reads as it did. -/
def wallRemovesSpec : ChangeSpec := { name := "wallRemoves", fn := fun _ => fun
  | [d1, d2, d3] => { results := [.lit (.bool true)], args := [d1, d2, d3] }
  | _ => none }
def wallRemovesRow : OpenClaim := { program := "ytnnaegnkkpknpaa", sum := "d8be8bc52789f7b3bb06f7a29a95ec1b8f98b9d084674430016ae99d5764963a", func := "slipstream/slipstreamlaw03.WallRemoves", spec := "wallRemoves", unfollowed := true, recurses := true, apart := false }
def WallRemovesSaid : Prop := wallRemovesRow.holds Try.pinned (OpenSpec.ofChange wallRemovesSpec)

/-- ITS FALSE NEIGHBOUR: 'it returns false'. Refute it at one input. -/
def wallRemovesWrong : ChangeSpec := { name := "wallRemoves", fn := fun _ => fun
  | [d1, d2, d3] => { results := [.lit (.bool false)], args := [d1, d2, d3] }
  | _ => none }
def WallRemovesWrongFalsely : Prop := wallRemovesRow.holds Try.pinned (OpenSpec.ofChange wallRemovesWrong)

/-- 'slipstreamlaw03.WallGrows': WHATEVER THE INPUT: true; the input reads as it did. -/
def wallGrowsSpec : ChangeSpec := { name := "wallGrows", fn := fun _ => fun
  | [d1, d2, d3] => { results := [.lit (.bool true)], args := [d1, d2, d3] }
  | _ => none }
def wallGrowsRow : OpenClaim := { program := "ytnnaegnkkpknpaa", sum := "d8be8bc52789f7b3bb06f7a29a95ec1b8f98b9d084674430016ae99d5764963a", func := "slipstream/slipstreamlaw03.WallGrows", spec := "wallGrows", unfollowed := true, recurses := true, apart := false }
def WallGrowsSaid : Prop := wallGrowsRow.holds Try.pinned (OpenSpec.ofChange wallGrowsSpec)

/-- ITS FALSE NEIGHBOUR: 'it returns false'. Refute it at one input. -/
def wallGrowsWrong : ChangeSpec := { name := "wallGrows", fn := fun _ => fun
  | [d1, d2, d3] => { results := [.lit (.bool false)], args := [d1, d2, d3] }
  | _ => none }
def WallGrowsWrongFalsely : Prop := wallGrowsRow.holds Try.pinned (OpenSpec.ofChange wallGrowsWrong)

/-- 'slipstreamlaw03.WallRuns': WHATEVER THE INPUT: true; the input reads as it did. -/
def wallRunsSpec : ChangeSpec := { name := "wallRuns", fn := fun _ => fun
  | [d1, d2, d3] => { results := [.lit (.bool true)], args := [d1, d2, d3] }
  | _ => none }
def wallRunsRow : OpenClaim := { program := "ytnnaegnkkpknpaa", sum := "d8be8bc52789f7b3bb06f7a29a95ec1b8f98b9d084674430016ae99d5764963a", func := "slipstream/slipstreamlaw03.WallRuns", spec := "wallRuns", unfollowed := true, recurses := true, apart := false }
def WallRunsSaid : Prop := wallRunsRow.holds Try.pinned (OpenSpec.ofChange wallRunsSpec)

/-- ITS FALSE NEIGHBOUR: 'it returns false'. Refute it at one input. -/
def wallRunsWrong : ChangeSpec := { name := "wallRuns", fn := fun _ => fun
  | [d1, d2, d3] => { results := [.lit (.bool false)], args := [d1, d2, d3] }
  | _ => none }
def WallRunsWrongFalsely : Prop := wallRunsRow.holds Try.pinned (OpenSpec.ofChange wallRunsWrong)

/-- 'slipstreamlaw03.WallSteps': WHATEVER THE INPUT: true; the input reads as it did. -/
def wallStepsSpec : ChangeSpec := { name := "wallSteps", fn := fun _ => fun
  | [d1, d2, d3] => { results := [.lit (.bool true)], args := [d1, d2, d3] }
  | _ => none }
def wallStepsRow : OpenClaim := { program := "ytnnaegnkkpknpaa", sum := "d8be8bc52789f7b3bb06f7a29a95ec1b8f98b9d084674430016ae99d5764963a", func := "slipstream/slipstreamlaw03.WallSteps", spec := "wallSteps", unfollowed := true, recurses := true, apart := false }
def WallStepsSaid : Prop := wallStepsRow.holds Try.pinned (OpenSpec.ofChange wallStepsSpec)

/-- ITS FALSE NEIGHBOUR: 'it returns false'. Refute it at one input. -/
def wallStepsWrong : ChangeSpec := { name := "wallSteps", fn := fun _ => fun
  | [d1, d2, d3] => { results := [.lit (.bool false)], args := [d1, d2, d3] }
  | _ => none }
def WallStepsWrongFalsely : Prop := wallStepsRow.holds Try.pinned (OpenSpec.ofChange wallStepsWrong)

/-- 'slipstreamlaw03.WallMirrors': WHATEVER THE INPUT: true; the input reads as it did. -/
def wallMirrorsSpec : ChangeSpec := { name := "wallMirrors", fn := fun _ => fun
  | [d1, d2] => { results := [.lit (.bool true)], args := [d1, d2] }
  | _ => none }
def wallMirrorsRow : OpenClaim := { program := "ytnnaegnkkpknpaa", sum := "d8be8bc52789f7b3bb06f7a29a95ec1b8f98b9d084674430016ae99d5764963a", func := "slipstream/slipstreamlaw03.WallMirrors", spec := "wallMirrors", unfollowed := true, recurses := true, apart := false }
def WallMirrorsSaid : Prop := wallMirrorsRow.holds Try.pinned (OpenSpec.ofChange wallMirrorsSpec)

/-- ITS FALSE NEIGHBOUR: 'it returns false'. Refute it at one input. -/
def wallMirrorsWrong : ChangeSpec := { name := "wallMirrors", fn := fun _ => fun
  | [d1, d2] => { results := [.lit (.bool false)], args := [d1, d2] }
  | _ => none }
def WallMirrorsWrongFalsely : Prop := wallMirrorsRow.holds Try.pinned (OpenSpec.ofChange wallMirrorsWrong)

/-- 'slipstreamlaw03.WallDrags': WHATEVER THE INPUT: true; the input reads as it did. -/
def wallDragsSpec : ChangeSpec := { name := "wallDrags", fn := fun _ => fun
  | [d1, d2, d3] => { results := [.lit (.bool true)], args := [d1, d2, d3] }
  | _ => none }
def wallDragsRow : OpenClaim := { program := "ytnnaegnkkpknpaa", sum := "d8be8bc52789f7b3bb06f7a29a95ec1b8f98b9d084674430016ae99d5764963a", func := "slipstream/slipstreamlaw03.WallDrags", spec := "wallDrags", unfollowed := true, recurses := true, apart := false }
def WallDragsSaid : Prop := wallDragsRow.holds Try.pinned (OpenSpec.ofChange wallDragsSpec)

/-- ITS FALSE NEIGHBOUR: 'it returns false'. Refute it at one input. -/
def wallDragsWrong : ChangeSpec := { name := "wallDrags", fn := fun _ => fun
  | [d1, d2, d3] => { results := [.lit (.bool false)], args := [d1, d2, d3] }
  | _ => none }
def WallDragsWrongFalsely : Prop := wallDragsRow.holds Try.pinned (OpenSpec.ofChange wallDragsWrong)

/-- 'slipstreamlaw03.WallTexts': WHATEVER THE INPUT: true; the input reads as it did. -/
def wallTextsSpec : ChangeSpec := { name := "wallTexts", fn := fun _ => fun
  | [d1, d2] => { results := [.lit (.bool true)], args := [d1, d2] }
  | _ => none }
def wallTextsRow : OpenClaim := { program := "ytnnaegnkkpknpaa", sum := "d8be8bc52789f7b3bb06f7a29a95ec1b8f98b9d084674430016ae99d5764963a", func := "slipstream/slipstreamlaw03.WallTexts", spec := "wallTexts", inPlace := ["internal/bytealg.IndexByteString", "internal/bytealg.IndexString", "internal/abi.NoEscape"], named := ["internal/bytealg.MaxLen"], apart := false }
def WallTextsSaid : Prop := wallTextsRow.holds Try.pinned (OpenSpec.ofChange wallTextsSpec)

/-- ITS FALSE NEIGHBOUR: 'it returns false'. Refute it at one input. -/
def wallTextsWrong : ChangeSpec := { name := "wallTexts", fn := fun _ => fun
  | [d1, d2] => { results := [.lit (.bool false)], args := [d1, d2] }
  | _ => none }
def WallTextsWrongFalsely : Prop := wallTextsRow.holds Try.pinned (OpenSpec.ofChange wallTextsWrong)

/-- 'slipstreamlaw03.WallKept': WHATEVER THE INPUT: true; the input reads as it did. -/
def wallKeptSpec : ChangeSpec := { name := "wallKept", fn := fun _ => fun
  | [d1, d2, d3] => { results := [.lit (.bool true)], args := [d1, d2, d3] }
  | _ => none }
def wallKeptRow : OpenClaim := { program := "ytnnaegnkkpknpaa", sum := "d8be8bc52789f7b3bb06f7a29a95ec1b8f98b9d084674430016ae99d5764963a", func := "slipstream/slipstreamlaw03.WallKept", spec := "wallKept", unfollowed := true, recurses := true, apart := false }
def WallKeptSaid : Prop := wallKeptRow.holds Try.pinned (OpenSpec.ofChange wallKeptSpec)

/-- ITS FALSE NEIGHBOUR: 'it returns false'. Refute it at one input. -/
def wallKeptWrong : ChangeSpec := { name := "wallKept", fn := fun _ => fun
  | [d1, d2, d3] => { results := [.lit (.bool false)], args := [d1, d2, d3] }
  | _ => none }
def WallKeptWrongFalsely : Prop := wallKeptRow.holds Try.pinned (OpenSpec.ofChange wallKeptWrong)

/- THE SECOND FORM. 'bulk': how many values and letters a reading holds, each counted each time it is reached (what is shared counts as often as it is met; a slice's spare places count too). A statement '..UptoSaid' is the law's where the arguments, and the package variables that the reading takes, are together of bulk at most 1048576: NARROWER than '..Said'. Prove '..Said' where nothing that the law and all that it calls make is longer than what came in: it says more and counts as full. Else prove '..UptoSaid'. A law counts once. -/
mutual
def uptoBulk {H : Type} : DataW H → Nat
  | .lit (.string bytes) => bytes.length + 1
  | .lit _ => 1
  | .nil => 1
  | .ptr d => uptoBulk d + 1
  | .slice elems spare => uptoBulkAll elems + uptoBulkAll spare + 1
  | .agg parts => uptoBulkAll parts + 1
  | .iface _ d => uptoBulk d + 1
  | .map entries => uptoBulkEntries entries + 1
  | .held _ => 1
def uptoBulkAll {H : Type} : List (DataW H) → Nat
  | [] => 0
  | d :: r => uptoBulk d + uptoBulkAll r
def uptoBulkEntries {H : Type} : List (Lit × DataW H) → Nat
  | [] => 0
  | x :: r => uptoBulkEntry x + uptoBulkEntries r
def uptoBulkEntry {H : Type} : Lit × DataW H → Nat
  | (.string bytes, d) => bytes.length + uptoBulk d + 1
  | (_, d) => uptoBulk d + 1
 end
def uptoSmall : (H : Type) → List (DataW H) → Bool := fun _ ds => decide (uptoBulkAll ds ≤ 1048576)
def OpenSpec.upto (s : _root_.Go.ChangeSpec) : _root_.Go.OpenSpec := { _root_.Go.OpenSpec.ofChange s with cond := some uptoSmall }

/-- 'slipstreamlaw03.WallSends', WHERE WHAT IT READS IS OF BULK AT MOST 1048576: true; the input reads as it did. -/
def wallSendsUptoRow : OpenClaim := { program := "ytnnaegnkkpknpaa", sum := "d8be8bc52789f7b3bb06f7a29a95ec1b8f98b9d084674430016ae99d5764963a", func := "slipstream/slipstreamlaw03.WallSends", spec := "wallSends", apart := false, narrowed := true }
def WallSendsUptoSaid : Prop := wallSendsUptoRow.holds Try.pinned (OpenSpec.upto wallSendsSpec)

/-- 'slipstreamlaw03.WallImpulses', WHERE WHAT IT READS IS OF BULK AT MOST 1048576: true; the input reads as it did. -/
def wallImpulsesUptoRow : OpenClaim := { program := "ytnnaegnkkpknpaa", sum := "d8be8bc52789f7b3bb06f7a29a95ec1b8f98b9d084674430016ae99d5764963a", func := "slipstream/slipstreamlaw03.WallImpulses", spec := "wallImpulses", apart := false, narrowed := true }
def WallImpulsesUptoSaid : Prop := wallImpulsesUptoRow.holds Try.pinned (OpenSpec.upto wallImpulsesSpec)

/-- 'slipstreamlaw03.WallShapes', WHERE WHAT IT READS IS OF BULK AT MOST 1048576: true; the input reads as it did. -/
def wallShapesUptoRow : OpenClaim := { program := "ytnnaegnkkpknpaa", sum := "d8be8bc52789f7b3bb06f7a29a95ec1b8f98b9d084674430016ae99d5764963a", func := "slipstream/slipstreamlaw03.WallShapes", spec := "wallShapes", unfollowed := true, recurses := true, apart := false, narrowed := true }
def WallShapesUptoSaid : Prop := wallShapesUptoRow.holds Try.pinned (OpenSpec.upto wallShapesSpec)

/-- 'slipstreamlaw03.WallDiscs', WHERE WHAT IT READS IS OF BULK AT MOST 1048576: true; the input reads as it did. -/
def wallDiscsUptoRow : OpenClaim := { program := "ytnnaegnkkpknpaa", sum := "d8be8bc52789f7b3bb06f7a29a95ec1b8f98b9d084674430016ae99d5764963a", func := "slipstream/slipstreamlaw03.WallDiscs", spec := "wallDiscs", unfollowed := true, recurses := true, apart := false, narrowed := true }
def WallDiscsUptoSaid : Prop := wallDiscsUptoRow.holds Try.pinned (OpenSpec.upto wallDiscsSpec)

/-- 'slipstreamlaw03.WallRemoves', WHERE WHAT IT READS IS OF BULK AT MOST 1048576: true; the input reads as it did. -/
def wallRemovesUptoRow : OpenClaim := { program := "ytnnaegnkkpknpaa", sum := "d8be8bc52789f7b3bb06f7a29a95ec1b8f98b9d084674430016ae99d5764963a", func := "slipstream/slipstreamlaw03.WallRemoves", spec := "wallRemoves", unfollowed := true, recurses := true, apart := false, narrowed := true }
def WallRemovesUptoSaid : Prop := wallRemovesUptoRow.holds Try.pinned (OpenSpec.upto wallRemovesSpec)

/-- 'slipstreamlaw03.WallGrows', WHERE WHAT IT READS IS OF BULK AT MOST 1048576: true; the input reads as it did. -/
def wallGrowsUptoRow : OpenClaim := { program := "ytnnaegnkkpknpaa", sum := "d8be8bc52789f7b3bb06f7a29a95ec1b8f98b9d084674430016ae99d5764963a", func := "slipstream/slipstreamlaw03.WallGrows", spec := "wallGrows", unfollowed := true, recurses := true, apart := false, narrowed := true }
def WallGrowsUptoSaid : Prop := wallGrowsUptoRow.holds Try.pinned (OpenSpec.upto wallGrowsSpec)

/-- 'slipstreamlaw03.WallRuns', WHERE WHAT IT READS IS OF BULK AT MOST 1048576: true; the input reads as it did. -/
def wallRunsUptoRow : OpenClaim := { program := "ytnnaegnkkpknpaa", sum := "d8be8bc52789f7b3bb06f7a29a95ec1b8f98b9d084674430016ae99d5764963a", func := "slipstream/slipstreamlaw03.WallRuns", spec := "wallRuns", unfollowed := true, recurses := true, apart := false, narrowed := true }
def WallRunsUptoSaid : Prop := wallRunsUptoRow.holds Try.pinned (OpenSpec.upto wallRunsSpec)

/-- 'slipstreamlaw03.WallSteps', WHERE WHAT IT READS IS OF BULK AT MOST 1048576: true; the input reads as it did. -/
def wallStepsUptoRow : OpenClaim := { program := "ytnnaegnkkpknpaa", sum := "d8be8bc52789f7b3bb06f7a29a95ec1b8f98b9d084674430016ae99d5764963a", func := "slipstream/slipstreamlaw03.WallSteps", spec := "wallSteps", unfollowed := true, recurses := true, apart := false, narrowed := true }
def WallStepsUptoSaid : Prop := wallStepsUptoRow.holds Try.pinned (OpenSpec.upto wallStepsSpec)

/-- 'slipstreamlaw03.WallMirrors', WHERE WHAT IT READS IS OF BULK AT MOST 1048576: true; the input reads as it did. -/
def wallMirrorsUptoRow : OpenClaim := { program := "ytnnaegnkkpknpaa", sum := "d8be8bc52789f7b3bb06f7a29a95ec1b8f98b9d084674430016ae99d5764963a", func := "slipstream/slipstreamlaw03.WallMirrors", spec := "wallMirrors", unfollowed := true, recurses := true, apart := false, narrowed := true }
def WallMirrorsUptoSaid : Prop := wallMirrorsUptoRow.holds Try.pinned (OpenSpec.upto wallMirrorsSpec)

/-- 'slipstreamlaw03.WallDrags', WHERE WHAT IT READS IS OF BULK AT MOST 1048576: true; the input reads as it did. -/
def wallDragsUptoRow : OpenClaim := { program := "ytnnaegnkkpknpaa", sum := "d8be8bc52789f7b3bb06f7a29a95ec1b8f98b9d084674430016ae99d5764963a", func := "slipstream/slipstreamlaw03.WallDrags", spec := "wallDrags", unfollowed := true, recurses := true, apart := false, narrowed := true }
def WallDragsUptoSaid : Prop := wallDragsUptoRow.holds Try.pinned (OpenSpec.upto wallDragsSpec)

/-- 'slipstreamlaw03.WallTexts', WHERE WHAT IT READS IS OF BULK AT MOST 1048576: true; the input reads as it did. -/
def wallTextsUptoRow : OpenClaim := { program := "ytnnaegnkkpknpaa", sum := "d8be8bc52789f7b3bb06f7a29a95ec1b8f98b9d084674430016ae99d5764963a", func := "slipstream/slipstreamlaw03.WallTexts", spec := "wallTexts", inPlace := ["internal/bytealg.IndexByteString", "internal/bytealg.IndexString", "internal/abi.NoEscape"], named := ["internal/bytealg.MaxLen"], apart := false, narrowed := true }
def WallTextsUptoSaid : Prop := wallTextsUptoRow.holds Try.pinned (OpenSpec.upto wallTextsSpec)

/-- 'slipstreamlaw03.WallKept', WHERE WHAT IT READS IS OF BULK AT MOST 1048576: true; the input reads as it did. -/
def wallKeptUptoRow : OpenClaim := { program := "ytnnaegnkkpknpaa", sum := "d8be8bc52789f7b3bb06f7a29a95ec1b8f98b9d084674430016ae99d5764963a", func := "slipstream/slipstreamlaw03.WallKept", spec := "wallKept", unfollowed := true, recurses := true, apart := false, narrowed := true }
def WallKeptUptoSaid : Prop := wallKeptUptoRow.holds Try.pinned (OpenSpec.upto wallKeptSpec)

end Rows
end Go.Proofs.Ytnnaegnkkpknpaa
