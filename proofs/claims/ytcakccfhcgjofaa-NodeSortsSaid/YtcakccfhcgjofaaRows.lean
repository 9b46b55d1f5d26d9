/-
  No cell of these rows narrows 'for every input' (looked for: loops, veiled, ifaces, maps, wideKeys, modest, calm, conditions, laid).
  DERIVED. THE GIVEN ROWS OF THIS SEAT. 7 by the template 'for every input the law returns true; each argument reads behind the call as it read before'; 0 by the template 'total and deterministic' (their statements: YtcakccfhcgjofaaTotals.lean).
  GIVEN WITH THE SEED: the statements are not yours to turn. If you find one false, say at which input.
  Laid BY PROGRAM, IN A SANDBOX (cutbox-rows.mjs): the forced cells as the released guide's own fill.sh prints them over the translation 18935ca2698ad114… (all of the seat's roots in one cut). By AI agents, Wed Nov 11 2026. No macro, syntax, notation, axiom, sorry.
-/
import Derived.Test.YtcakccfhcgjofaaChecked
import GoSem.Claim
import GoSem.ClaimJoined
import GoSem.ClaimMapViews
import Derived.JoinedTies
import Derived.KernelRfl
namespace Go.Proofs.Ytcakccfhcgjofaa
/- THE CELL 'sum', in the pinned program and in every row, IS THE sha256 OF THE DUMP (.gsa) THAT YtcakccfhcgjofaaProg.lean LOADS. Nothing in Lean hashes anything: it is a label: what it is worth is what the hold of that sum in a sandbox is worth. -/
noncomputable def Try.pinned : Pinned := { name := "ytcakccfhcgjofaa", sum := "18935ca2698ad1148262feaf9bbedbecb91dd5616408e765398d19fb5aab4337", checked := Try.checked }
namespace Rows
def none {H : Type} : Left H := { results := [], args := [] }

/-- 'slipstreamlaw05.NodeColumns': WHATEVER THE INPUT: true; the input reads as it did. -/
def nodeColumnsSpec : ChangeSpec := { name := "nodeColumns", fn := fun _ => fun
  | [d1, d2] => { results := [.lit (.bool true)], args := [d1, d2] }
  | _ => none }
def nodeColumnsRow : OpenClaim := { program := "ytcakccfhcgjofaa", sum := "18935ca2698ad1148262feaf9bbedbecb91dd5616408e765398d19fb5aab4337", func := "slipstream/slipstreamlaw05.NodeColumns", spec := "nodeColumns", unfollowed := true, recurses := true, plainKeys := false, apart := false }
def NodeColumnsSaid : Prop := nodeColumnsRow.holds Try.pinned (OpenSpec.ofChange nodeColumnsSpec)

/-- ITS FALSE NEIGHBOUR: 'it returns false'. Refute it at one input. -/
def nodeColumnsWrong : ChangeSpec := { name := "nodeColumns", fn := fun _ => fun
  | [d1, d2] => { results := [.lit (.bool false)], args := [d1, d2] }
  | _ => none }
def NodeColumnsWrongFalsely : Prop := nodeColumnsRow.holds Try.pinned (OpenSpec.ofChange nodeColumnsWrong)

/-- 'slipstreamlaw05.NodeDue': WHATEVER THE INPUT: true; the input reads as it did. -/
def nodeDueSpec : ChangeSpec := { name := "nodeDue", fn := fun _ => fun
  | [d1, d2, d3] => { results := [.lit (.bool true)], args := [d1, d2, d3] }
  | _ => none }
def nodeDueRow : OpenClaim := { program := "ytcakccfhcgjofaa", sum := "18935ca2698ad1148262feaf9bbedbecb91dd5616408e765398d19fb5aab4337", func := "slipstream/slipstreamlaw05.NodeDue", spec := "nodeDue", unfollowed := true, recurses := true, plainKeys := false, apart := false }
def NodeDueSaid : Prop := nodeDueRow.holds Try.pinned (OpenSpec.ofChange nodeDueSpec)

/-- ITS FALSE NEIGHBOUR: 'it returns false'. Refute it at one input. -/
def nodeDueWrong : ChangeSpec := { name := "nodeDue", fn := fun _ => fun
  | [d1, d2, d3] => { results := [.lit (.bool false)], args := [d1, d2, d3] }
  | _ => none }
def NodeDueWrongFalsely : Prop := nodeDueRow.holds Try.pinned (OpenSpec.ofChange nodeDueWrong)

/-- 'slipstreamlaw05.NodeValid': WHATEVER THE INPUT: true; the input reads as it did. -/
def nodeValidSpec : ChangeSpec := { name := "nodeValid", fn := fun _ => fun
  | [d1, d2] => { results := [.lit (.bool true)], args := [d1, d2] }
  | _ => none }
def nodeValidRow : OpenClaim := { program := "ytcakccfhcgjofaa", sum := "18935ca2698ad1148262feaf9bbedbecb91dd5616408e765398d19fb5aab4337", func := "slipstream/slipstreamlaw05.NodeValid", spec := "nodeValid", unfollowed := true, recurses := true, plainKeys := false, apart := false }
def NodeValidSaid : Prop := nodeValidRow.holds Try.pinned (OpenSpec.ofChange nodeValidSpec)

/-- ITS FALSE NEIGHBOUR: 'it returns false'. Refute it at one input. -/
def nodeValidWrong : ChangeSpec := { name := "nodeValid", fn := fun _ => fun
  | [d1, d2] => { results := [.lit (.bool false)], args := [d1, d2] }
  | _ => none }
def NodeValidWrongFalsely : Prop := nodeValidRow.holds Try.pinned (OpenSpec.ofChange nodeValidWrong)

/-- 'slipstreamlaw05.NodeReady': WHATEVER THE INPUT: true; the input reads as it did. -/
def nodeReadySpec : ChangeSpec := { name := "nodeReady", fn := fun _ => fun
  | [d1, d2, d3] => { results := [.lit (.bool true)], args := [d1, d2, d3] }
  | _ => none }
def nodeReadyRow : OpenClaim := { program := "ytcakccfhcgjofaa", sum := "18935ca2698ad1148262feaf9bbedbecb91dd5616408e765398d19fb5aab4337", func := "slipstream/slipstreamlaw05.NodeReady", spec := "nodeReady", unfollowed := true, recurses := true, plainKeys := false, apart := false }
def NodeReadySaid : Prop := nodeReadyRow.holds Try.pinned (OpenSpec.ofChange nodeReadySpec)

/-- ITS FALSE NEIGHBOUR: 'it returns false'. Refute it at one input. -/
def nodeReadyWrong : ChangeSpec := { name := "nodeReady", fn := fun _ => fun
  | [d1, d2, d3] => { results := [.lit (.bool false)], args := [d1, d2, d3] }
  | _ => none }
def NodeReadyWrongFalsely : Prop := nodeReadyRow.holds Try.pinned (OpenSpec.ofChange nodeReadyWrong)

/-- 'slipstreamlaw05.NodeMerges': WHATEVER THE INPUT: true; the input reads as it did. -/
def nodeMergesSpec : ChangeSpec := { name := "nodeMerges", fn := fun _ => fun
  | [d1, d2] => { results := [.lit (.bool true)], args := [d1, d2] }
  | _ => none }
def nodeMergesRow : OpenClaim := { program := "ytcakccfhcgjofaa", sum := "18935ca2698ad1148262feaf9bbedbecb91dd5616408e765398d19fb5aab4337", func := "slipstream/slipstreamlaw05.NodeMerges", spec := "nodeMerges", unfollowed := true, recurses := true, plainKeys := false, apart := false }
def NodeMergesSaid : Prop := nodeMergesRow.holds Try.pinned (OpenSpec.ofChange nodeMergesSpec)

/-- ITS FALSE NEIGHBOUR: 'it returns false'. Refute it at one input. -/
def nodeMergesWrong : ChangeSpec := { name := "nodeMerges", fn := fun _ => fun
  | [d1, d2] => { results := [.lit (.bool false)], args := [d1, d2] }
  | _ => none }
def NodeMergesWrongFalsely : Prop := nodeMergesRow.holds Try.pinned (OpenSpec.ofChange nodeMergesWrong)

/-- 'slipstreamlaw05.NodeSplits': WHATEVER THE INPUT: true; the input reads as it did. -/
def nodeSplitsSpec : ChangeSpec := { name := "nodeSplits", fn := fun _ => fun
  | [d] => { results := [.lit (.bool true)], args := [d] }
  | _ => none }
def nodeSplitsRow : OpenClaim := { program := "ytcakccfhcgjofaa", sum := "18935ca2698ad1148262feaf9bbedbecb91dd5616408e765398d19fb5aab4337", func := "slipstream/slipstreamlaw05.NodeSplits", spec := "nodeSplits", unfollowed := true, recurses := true, plainKeys := false, apart := false }
def NodeSplitsSaid : Prop := nodeSplitsRow.holds Try.pinned (OpenSpec.ofChange nodeSplitsSpec)

/-- ITS FALSE NEIGHBOUR: 'it returns false'. Refute it at one input. -/
def nodeSplitsWrong : ChangeSpec := { name := "nodeSplits", fn := fun _ => fun
  | [d] => { results := [.lit (.bool false)], args := [d] }
  | _ => none }
def NodeSplitsWrongFalsely : Prop := nodeSplitsRow.holds Try.pinned (OpenSpec.ofChange nodeSplitsWrong)

/-- 'slipstreamlaw05.NodeSorts': WHATEVER THE INPUT: true; the input reads as it did. -/
def nodeSortsSpec : ChangeSpec := { name := "nodeSorts", fn := fun _ => fun
  | [d] => { results := [.lit (.bool true)], args := [d] }
  | _ => none }
def nodeSortsRow : OpenClaim := { program := "ytcakccfhcgjofaa", sum := "18935ca2698ad1148262feaf9bbedbecb91dd5616408e765398d19fb5aab4337", func := "slipstream/slipstreamlaw05.NodeSorts", spec := "nodeSorts", unfollowed := true, recurses := true, plainKeys := false, apart := false }
def NodeSortsSaid : Prop := nodeSortsRow.holds Try.pinned (OpenSpec.ofChange nodeSortsSpec)

/-- ITS FALSE NEIGHBOUR: 'it returns false'. Refute it at one input. -/
def nodeSortsWrong : ChangeSpec := { name := "nodeSorts", fn := fun _ => fun
  | [d] => { results := [.lit (.bool false)], args := [d] }
  | _ => none }
def NodeSortsWrongFalsely : Prop := nodeSortsRow.holds Try.pinned (OpenSpec.ofChange nodeSortsWrong)

/- THE SECOND FORM. 'bulk': how many values and letters a reading holds, each counted each time it is reached (what is shared counts as often as it is met; a slice's spare places count too). A statement '..UptoSaid' is the law's where the arguments, and the package variables that the reading takes, are together of bulk at most 1048576: NARROWER than '..Said'. Prove '..Said' where nothing that the law and all that it calls make is longer than what came in: it says more and counts as full. Else prove '..UptoSaid'. A law counts once. -/
mutual
def uptoBulk {H : Type} : DataW H → Nat
  | .lit (.string bytes) => bytes.length + 1
  | .lit _ => 1
  | .nil => 1
  | .ptr d => uptoBulk d + 1
  | .slice elems spare => uptoBulkAll elems + uptoBulkAll spare + 1
  | .agg parts => uptoBulkAll parts + 1
  | .iface _ d => uptoBulk d + 1
  | .map entries => uptoBulkEntries entries + 1
  | .held _ => 1
def uptoBulkAll {H : Type} : List (DataW H) → Nat
  | [] => 0
  | d :: r => uptoBulk d + uptoBulkAll r
def uptoBulkEntries {H : Type} : List (Lit × DataW H) → Nat
  | [] => 0
  | x :: r => uptoBulkEntry x + uptoBulkEntries r
def uptoBulkEntry {H : Type} : Lit × DataW H → Nat
  | (.string bytes, d) => bytes.length + uptoBulk d + 1
  | (_, d) => uptoBulk d + 1
 end
def uptoSmall : (H : Type) → List (DataW H) → Bool := fun _ ds => decide (uptoBulkAll ds ≤ 1048576)
def OpenSpec.upto (s : _root_.Go.ChangeSpec) : _root_.Go.OpenSpec := { _root_.Go.OpenSpec.ofChange s with cond := some uptoSmall }

/-- 'slipstreamlaw05.NodeColumns', WHERE WHAT IT READS IS OF BULK AT MOST 1048576: true; the input reads as it did. -/
def nodeColumnsUptoRow : OpenClaim := { program := "ytcakccfhcgjofaa", sum := "18935ca2698ad1148262feaf9bbedbecb91dd5616408e765398d19fb5aab4337", func := "slipstream/slipstreamlaw05.NodeColumns", spec := "nodeColumns", unfollowed := true, recurses := true, plainKeys := false, apart := false, narrowed := true }
def NodeColumnsUptoSaid : Prop := nodeColumnsUptoRow.holds Try.pinned (OpenSpec.upto nodeColumnsSpec)

/-- 'slipstreamlaw05.NodeDue', WHERE WHAT IT READS IS OF BULK AT MOST 1048576: true; the input reads as it did. -/
def nodeDueUptoRow : OpenClaim := { program := "ytcakccfhcgjofaa", sum := "18935ca2698ad1148262feaf9bbedbecb91dd5616408e765398d19fb5aab4337", func := "slipstream/slipstreamlaw05.NodeDue", spec := "nodeDue", unfollowed := true, recurses := true, plainKeys := false, apart := false, narrowed := true }
def NodeDueUptoSaid : Prop := nodeDueUptoRow.holds Try.pinned (OpenSpec.upto nodeDueSpec)

/-- 'slipstreamlaw05.NodeValid', WHERE WHAT IT READS IS OF BULK AT MOST 1048576: true; the input reads as it did. -/
def nodeValidUptoRow : OpenClaim := { program := "ytcakccfhcgjofaa", sum := "18935ca2698ad1148262feaf9bbedbecb91dd5616408e765398d19fb5aab4337", func := "slipstream/slipstreamlaw05.NodeValid", spec := "nodeValid", unfollowed := true, recurses := true, plainKeys := false, apart := false, narrowed := true }
def NodeValidUptoSaid : Prop := nodeValidUptoRow.holds Try.pinned (OpenSpec.upto nodeValidSpec)

/-- 'slipstreamlaw05.NodeReady', WHERE WHAT IT READS IS OF BULK AT MOST 1048576: true; the input reads as it did. -/
def nodeReadyUptoRow : OpenClaim := { program := "ytcakccfhcgjofaa", sum := "18935ca2698ad1148262feaf9bbedbecb91dd5616408e765398d19fb5aab4337", func := "slipstream/slipstreamlaw05.NodeReady", spec := "nodeReady", unfollowed := true, recurses := true, plainKeys := false, apart := false, narrowed := true }
def NodeReadyUptoSaid : Prop := nodeReadyUptoRow.holds Try.pinned (OpenSpec.upto nodeReadySpec)

/-- 'slipstreamlaw05.NodeMerges', WHERE WHAT IT READS IS OF BULK AT MOST 1048576: true; the input reads as it did. -/
def nodeMergesUptoRow : OpenClaim := { program := "ytcakccfhcgjofaa", sum := "18935ca2698ad1148262feaf9bbedbecb91dd5616408e765398d19fb5aab4337", func := "slipstream/slipstreamlaw05.NodeMerges", spec := "nodeMerges", unfollowed := true, recurses := true, plainKeys := false, apart := false, narrowed := true }
def NodeMergesUptoSaid : Prop := nodeMergesUptoRow.holds Try.pinned (OpenSpec.upto nodeMergesSpec)

/-- 'slipstreamlaw05.NodeSplits', WHERE WHAT IT READS IS OF BULK AT MOST 1048576: true; the input reads as it did. -/
def nodeSplitsUptoRow : OpenClaim := { program := "ytcakccfhcgjofaa", sum := "18935ca2698ad1148262feaf9bbedbecb91dd5616408e765398d19fb5aab4337", func := "slipstream/slipstreamlaw05.NodeSplits", spec := "nodeSplits", unfollowed := true, recurses := true, plainKeys := false, apart := false, narrowed := true }
def NodeSplitsUptoSaid : Prop := nodeSplitsUptoRow.holds Try.pinned (OpenSpec.upto nodeSplitsSpec)

/-- 'slipstreamlaw05.NodeSorts', WHERE WHAT IT READS IS OF BULK AT MOST 1048576: true; the input reads as it did. -/
def nodeSortsUptoRow : OpenClaim := { program := "ytcakccfhcgjofaa", sum := "18935ca2698ad1148262feaf9bbedbecb91dd5616408e765398d19fb5aab4337", func := "slipstream/slipstreamlaw05.NodeSorts", spec := "nodeSorts", unfollowed := true, recurses := true, plainKeys := false, apart := false, narrowed := true }
def NodeSortsUptoSaid : Prop := nodeSortsUptoRow.holds Try.pinned (OpenSpec.upto nodeSortsSpec)

end Rows
end Go.Proofs.Ytcakccfhcgjofaa
