/-
  No cell of these rows narrows 'for every input' (looked for: loops, veiled, ifaces, maps, wideKeys, modest, calm, conditions, laid).
  DERIVED. THE GIVEN ROWS OF THIS SEAT. 3 by the template 'for every input the law returns true; each argument reads behind the call as it read before'; 0 by the template 'total and deterministic' (their statements: YtmmjaobpoiofdaaGreatTotals.lean).
  GIVEN WITH THE SEED: the statements are not yours to turn. If you find one false, say at which input.
  Laid BY PROGRAM, IN A SANDBOX (cutbox-rows.mjs): the forced cells as the released guide's own fill.sh prints them over the translation 460ce896ab8aecca… (all of the seat's roots in one cut). By AI agents, Wed Nov 11 2026. No macro, syntax, notation, axiom, sorry.
-/
import Derived.Test.YtmmjaobpoiofdaaGreatChecked
import GoSem.Claim
import GoSem.ClaimJoined
import GoSem.ClaimMapViews
import Derived.JoinedTies
import Derived.KernelRfl
namespace Go.Proofs.YtmmjaobpoiofdaaGreat
/- THE CELL 'sum', in the pinned program and in every row, IS THE sha256 OF THE DUMP (.gsa) THAT YtmmjaobpoiofdaaGreatProg.lean LOADS. Nothing in Lean hashes anything: it is a label: what it is worth is what the hold of that sum in a sandbox is worth. -/
noncomputable def Tryz.pinned : Pinned := { name := "ytmmjaobpoiofdaagreat", sum := "460ce896ab8aeccaeee39fb6eb1fb4af3d7bc2641a2f9789f7938dbafb5ccec2", checked := Tryz.checked }
namespace Rows
def none {H : Type} : Left H := { results := [], args := [] }

/-- 'slipstreamlaw05.NodeActs': WHATEVER THE INPUT: true; the input reads as it did. -/
def nodeActsSpec : ChangeSpec := { name := "nodeActs", fn := fun _ => fun
  | [d1, d2, d3] => { results := [.lit (.bool true)], args := [d1, d2, d3] }
  | _ => none }
def nodeActsRow : OpenClaim := { program := "ytmmjaobpoiofdaagreat", sum := "460ce896ab8aeccaeee39fb6eb1fb4af3d7bc2641a2f9789f7938dbafb5ccec2", func := "slipstream/slipstreamlaw05.NodeActs", spec := "nodeActs", unfollowed := true, recurses := true, plainKeys := false, apart := false }
def NodeActsSaid : Prop := nodeActsRow.holds Tryz.pinned (OpenSpec.ofChange nodeActsSpec)

/-- ITS FALSE NEIGHBOUR: 'it returns false'. Refute it at one input. -/
def nodeActsWrong : ChangeSpec := { name := "nodeActs", fn := fun _ => fun
  | [d1, d2, d3] => { results := [.lit (.bool false)], args := [d1, d2, d3] }
  | _ => none }
def NodeActsWrongFalsely : Prop := nodeActsRow.holds Tryz.pinned (OpenSpec.ofChange nodeActsWrong)

/-- 'slipstreamlaw05.NodePlays': WHATEVER THE INPUT: true; the input reads as it did. -/
def nodePlaysSpec : ChangeSpec := { name := "nodePlays", fn := fun _ => fun
  | [d1, d2, d3] => { results := [.lit (.bool true)], args := [d1, d2, d3] }
  | _ => none }
def nodePlaysRow : OpenClaim := { program := "ytmmjaobpoiofdaagreat", sum := "460ce896ab8aeccaeee39fb6eb1fb4af3d7bc2641a2f9789f7938dbafb5ccec2", func := "slipstream/slipstreamlaw05.NodePlays", spec := "nodePlays", unfollowed := true, recurses := true, plainKeys := false, apart := false }
def NodePlaysSaid : Prop := nodePlaysRow.holds Tryz.pinned (OpenSpec.ofChange nodePlaysSpec)

/-- ITS FALSE NEIGHBOUR: 'it returns false'. Refute it at one input. -/
def nodePlaysWrong : ChangeSpec := { name := "nodePlays", fn := fun _ => fun
  | [d1, d2, d3] => { results := [.lit (.bool false)], args := [d1, d2, d3] }
  | _ => none }
def NodePlaysWrongFalsely : Prop := nodePlaysRow.holds Tryz.pinned (OpenSpec.ofChange nodePlaysWrong)

/-- 'slipstreamlaw05.NodeEqual': WHATEVER THE INPUT: true; the input reads as it did. -/
def nodeEqualSpec : ChangeSpec := { name := "nodeEqual", fn := fun _ => fun
  | [d1, d2, d3] => { results := [.lit (.bool true)], args := [d1, d2, d3] }
  | _ => none }
def nodeEqualRow : OpenClaim := { program := "ytmmjaobpoiofdaagreat", sum := "460ce896ab8aeccaeee39fb6eb1fb4af3d7bc2641a2f9789f7938dbafb5ccec2", func := "slipstream/slipstreamlaw05.NodeEqual", spec := "nodeEqual", unfollowed := true, recurses := true, plainKeys := false, apart := false }
def NodeEqualSaid : Prop := nodeEqualRow.holds Tryz.pinned (OpenSpec.ofChange nodeEqualSpec)

/-- ITS FALSE NEIGHBOUR: 'it returns false'. Refute it at one input. -/
def nodeEqualWrong : ChangeSpec := { name := "nodeEqual", fn := fun _ => fun
  | [d1, d2, d3] => { results := [.lit (.bool false)], args := [d1, d2, d3] }
  | _ => none }
def NodeEqualWrongFalsely : Prop := nodeEqualRow.holds Tryz.pinned (OpenSpec.ofChange nodeEqualWrong)

/- THE SECOND FORM. 'bulk': how many values and letters a reading holds, each counted each time it is reached (what is shared counts as often as it is met; a slice's spare places count too). A statement '..UptoSaid' is the law's where the arguments, and the package variables that the reading takes, are together of bulk at most 1048576: NARROWER than '..Said'. Prove '..Said' where nothing that the law and all that it calls make is longer than what came in: it says more and counts as full. Else prove '..UptoSaid'. A law counts once. -/
mutual
def uptoBulk {H : Type} : DataW H → Nat
  | .lit (.string bytes) => bytes.length + 1
  | .lit _ => 1
  | .nil => 1
  | .ptr d => uptoBulk d + 1
  | .slice elems spare => uptoBulkAll elems + uptoBulkAll spare + 1
  | .agg parts => uptoBulkAll parts + 1
  | .iface _ d => uptoBulk d + 1
  | .map entries => uptoBulkEntries entries + 1
  | .held _ => 1
def uptoBulkAll {H : Type} : List (DataW H) → Nat
  | [] => 0
  | d :: r => uptoBulk d + uptoBulkAll r
def uptoBulkEntries {H : Type} : List (Lit × DataW H) → Nat
  | [] => 0
  | x :: r => uptoBulkEntry x + uptoBulkEntries r
def uptoBulkEntry {H : Type} : Lit × DataW H → Nat
  | (.string bytes, d) => bytes.length + uptoBulk d + 1
  | (_, d) => uptoBulk d + 1
 end
def uptoSmall : (H : Type) → List (DataW H) → Bool := fun _ ds => decide (uptoBulkAll ds ≤ 1048576)
def OpenSpec.upto (s : _root_.Go.ChangeSpec) : _root_.Go.OpenSpec := { _root_.Go.OpenSpec.ofChange s with cond := some uptoSmall }

/-- 'slipstreamlaw05.NodeActs', WHERE WHAT IT READS IS OF BULK AT MOST 1048576: true; the input reads as it did. -/
def nodeActsUptoRow : OpenClaim := { program := "ytmmjaobpoiofdaagreat", sum := "460ce896ab8aeccaeee39fb6eb1fb4af3d7bc2641a2f9789f7938dbafb5ccec2", func := "slipstream/slipstreamlaw05.NodeActs", spec := "nodeActs", unfollowed := true, recurses := true, plainKeys := false, apart := false, narrowed := true }
def NodeActsUptoSaid : Prop := nodeActsUptoRow.holds Tryz.pinned (OpenSpec.upto nodeActsSpec)

/-- 'slipstreamlaw05.NodePlays', WHERE WHAT IT READS IS OF BULK AT MOST 1048576: true; the input reads as it did. -/
def nodePlaysUptoRow : OpenClaim := { program := "ytmmjaobpoiofdaagreat", sum := "460ce896ab8aeccaeee39fb6eb1fb4af3d7bc2641a2f9789f7938dbafb5ccec2", func := "slipstream/slipstreamlaw05.NodePlays", spec := "nodePlays", unfollowed := true, recurses := true, plainKeys := false, apart := false, narrowed := true }
def NodePlaysUptoSaid : Prop := nodePlaysUptoRow.holds Tryz.pinned (OpenSpec.upto nodePlaysSpec)

/-- 'slipstreamlaw05.NodeEqual', WHERE WHAT IT READS IS OF BULK AT MOST 1048576: true; the input reads as it did. -/
def nodeEqualUptoRow : OpenClaim := { program := "ytmmjaobpoiofdaagreat", sum := "460ce896ab8aeccaeee39fb6eb1fb4af3d7bc2641a2f9789f7938dbafb5ccec2", func := "slipstream/slipstreamlaw05.NodeEqual", spec := "nodeEqual", unfollowed := true, recurses := true, plainKeys := false, apart := false, narrowed := true }
def NodeEqualUptoSaid : Prop := nodeEqualUptoRow.holds Tryz.pinned (OpenSpec.upto nodeEqualSpec)

end Rows
end Go.Proofs.YtmmjaobpoiofdaaGreat
