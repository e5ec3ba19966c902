/-
  No cell of these rows narrows 'for every input' (looked for: loops, veiled, ifaces, maps, wideKeys, modest, calm, conditions, laid).
  DERIVED. THE GIVEN ROWS OF THIS SEAT. 5 by the template 'for every input the law returns true; each argument reads behind the call as it read before'; 0 by the template 'total and deterministic' (their statements: YthjnidcmhegoeaaTotals.lean).
  GIVEN WITH THE SEED: the statements are not yours to turn. If you find one false, say at which input.
  Laid BY PROGRAM, IN A SANDBOX (cutbox-rows.mjs): the forced cells as the released guide's own fill.sh prints them over the translation e9ef74cfce0f6a78… (all of the seat's roots in one cut). By AI agents, Wed Nov 11 2026. No macro, syntax, notation, axiom, sorry.
-/
import Derived.Test.YthjnidcmhegoeaaChecked
import GoSem.Claim
import GoSem.ClaimJoined
import GoSem.ClaimMapViews
import Derived.JoinedTies
import Derived.KernelRfl
namespace Go.Proofs.Ythjnidcmhegoeaa
/- THE CELL 'sum', in the pinned program and in every row, IS THE sha256 OF THE DUMP (.gsa) THAT YthjnidcmhegoeaaProg.lean LOADS. Nothing in Lean hashes anything: it is a label: what it is worth is what the hold of that sum in a sandbox is worth. -/
noncomputable def Try.pinned : Pinned := { name := "ythjnidcmhegoeaa", sum := "e9ef74cfce0f6a7819d9fe2296bce7e0c53abe012d061d304d9101bc9bce4ecc", checked := Try.checked }
namespace Rows
def none {H : Type} : Left H := { results := [], args := [] }

/-- 'laws.FnExactAddEdge': WHATEVER THE INPUT: true; the input reads as it did. -/
def fnExactAddEdgeSpec : ChangeSpec := { name := "fnExactAddEdge", fn := fun _ => fun
  | [d1, d2] => { results := [.lit (.bool true)], args := [d1, d2] }
  | _ => none }
def fnExactAddEdgeRow : OpenClaim := { program := "ythjnidcmhegoeaa", sum := "e9ef74cfce0f6a7819d9fe2296bce7e0c53abe012d061d304d9101bc9bce4ecc", func := "loop.example/graphcluster/laws.FnExactAddEdge", spec := "fnExactAddEdge", inPlace := ["slices.overlaps[loop.example/graphcluster/impl.Edge]"], unfollowed := true, recurses := true, apart := false }
def FnExactAddEdgeSaid : Prop := fnExactAddEdgeRow.holds Try.pinned (OpenSpec.ofChange fnExactAddEdgeSpec)

/-- ITS FALSE NEIGHBOUR: 'it returns false'. Refute it at one input. -/
def fnExactAddEdgeWrong : ChangeSpec := { name := "fnExactAddEdge", fn := fun _ => fun
  | [d1, d2] => { results := [.lit (.bool false)], args := [d1, d2] }
  | _ => none }
def FnExactAddEdgeWrongFalsely : Prop := fnExactAddEdgeRow.holds Try.pinned (OpenSpec.ofChange fnExactAddEdgeWrong)

/-- 'laws.FnAddEdge': WHATEVER THE INPUT: true; the input reads as it did. -/
def fnAddEdgeSpec : ChangeSpec := { name := "fnAddEdge", fn := fun _ => fun
  | [d] => { results := [.lit (.bool true)], args := [d] }
  | _ => none }
def fnAddEdgeRow : OpenClaim := { program := "ythjnidcmhegoeaa", sum := "e9ef74cfce0f6a7819d9fe2296bce7e0c53abe012d061d304d9101bc9bce4ecc", func := "loop.example/graphcluster/laws.FnAddEdge", spec := "fnAddEdge", inPlace := ["slices.overlaps[loop.example/graphcluster/impl.Edge]"], unfollowed := true, recurses := true, apart := false }
def FnAddEdgeSaid : Prop := fnAddEdgeRow.holds Try.pinned (OpenSpec.ofChange fnAddEdgeSpec)

/-- ITS FALSE NEIGHBOUR: 'it returns false'. Refute it at one input. -/
def fnAddEdgeWrong : ChangeSpec := { name := "fnAddEdge", fn := fun _ => fun
  | [d] => { results := [.lit (.bool false)], args := [d] }
  | _ => none }
def FnAddEdgeWrongFalsely : Prop := fnAddEdgeRow.holds Try.pinned (OpenSpec.ofChange fnAddEdgeWrong)

/-- 'laws.FnExactReadJob': WHATEVER THE INPUT: true; the input reads as it did. -/
def fnExactReadJobSpec : ChangeSpec := { name := "fnExactReadJob", fn := fun _ => fun
  | [d] => { results := [.lit (.bool true)], args := [d] }
  | _ => none }
def fnExactReadJobRow : OpenClaim := { program := "ythjnidcmhegoeaa", sum := "e9ef74cfce0f6a7819d9fe2296bce7e0c53abe012d061d304d9101bc9bce4ecc", func := "loop.example/graphcluster/laws.FnExactReadJob", spec := "fnExactReadJob", apart := false }
def FnExactReadJobSaid : Prop := fnExactReadJobRow.holds Try.pinned (OpenSpec.ofChange fnExactReadJobSpec)

/-- ITS FALSE NEIGHBOUR: 'it returns false'. Refute it at one input. -/
def fnExactReadJobWrong : ChangeSpec := { name := "fnExactReadJob", fn := fun _ => fun
  | [d] => { results := [.lit (.bool false)], args := [d] }
  | _ => none }
def FnExactReadJobWrongFalsely : Prop := fnExactReadJobRow.holds Try.pinned (OpenSpec.ofChange fnExactReadJobWrong)

/-- 'laws.FnExactLastCheckpoint': WHATEVER THE INPUT: true; the input reads as it did. -/
def fnExactLastCheckpointSpec : ChangeSpec := { name := "fnExactLastCheckpoint", fn := fun _ => fun
  | [d] => { results := [.lit (.bool true)], args := [d] }
  | _ => none }
def fnExactLastCheckpointRow : OpenClaim := { program := "ythjnidcmhegoeaa", sum := "e9ef74cfce0f6a7819d9fe2296bce7e0c53abe012d061d304d9101bc9bce4ecc", func := "loop.example/graphcluster/laws.FnExactLastCheckpoint", spec := "fnExactLastCheckpoint", unfollowed := true, recurses := true, apart := false }
def FnExactLastCheckpointSaid : Prop := fnExactLastCheckpointRow.holds Try.pinned (OpenSpec.ofChange fnExactLastCheckpointSpec)

/-- ITS FALSE NEIGHBOUR: 'it returns false'. Refute it at one input. -/
def fnExactLastCheckpointWrong : ChangeSpec := { name := "fnExactLastCheckpoint", fn := fun _ => fun
  | [d] => { results := [.lit (.bool false)], args := [d] }
  | _ => none }
def FnExactLastCheckpointWrongFalsely : Prop := fnExactLastCheckpointRow.holds Try.pinned (OpenSpec.ofChange fnExactLastCheckpointWrong)

/-- 'laws.FnExactRecoverState': WHATEVER THE INPUT: true; the input reads as it did. -/
def fnExactRecoverStateSpec : ChangeSpec := { name := "fnExactRecoverState", fn := fun _ => fun
  | [d1, d2] => { results := [.lit (.bool true)], args := [d1, d2] }
  | _ => none }
def fnExactRecoverStateRow : OpenClaim := { program := "ythjnidcmhegoeaa", sum := "e9ef74cfce0f6a7819d9fe2296bce7e0c53abe012d061d304d9101bc9bce4ecc", func := "loop.example/graphcluster/laws.FnExactRecoverState", spec := "fnExactRecoverState", unfollowed := true, recurses := true, apart := false }
def FnExactRecoverStateSaid : Prop := fnExactRecoverStateRow.holds Try.pinned (OpenSpec.ofChange fnExactRecoverStateSpec)

/-- ITS FALSE NEIGHBOUR: 'it returns false'. Refute it at one input. -/
def fnExactRecoverStateWrong : ChangeSpec := { name := "fnExactRecoverState", fn := fun _ => fun
  | [d1, d2] => { results := [.lit (.bool false)], args := [d1, d2] }
  | _ => none }
def FnExactRecoverStateWrongFalsely : Prop := fnExactRecoverStateRow.holds Try.pinned (OpenSpec.ofChange fnExactRecoverStateWrong)

/- THE SECOND FORM. 'bulk': how many values and letters a reading holds, each counted each time it is reached (what is shared counts as often as it is met; a slice's spare places count too). A statement '..UptoSaid' is the law's where the arguments, and the package variables that the reading takes, are together of bulk at most 1048576: NARROWER than '..Said'. Prove '..Said' where nothing that the law and all that it calls make is longer than what came in: it says more and counts as full. Else prove '..UptoSaid'. A law counts once. -/
mutual
def uptoBulk {H : Type} : DataW H → Nat
  | .lit (.string bytes) => bytes.length + 1
  | .lit _ => 1
  | .nil => 1
  | .ptr d => uptoBulk d + 1
  | .slice elems spare => uptoBulkAll elems + uptoBulkAll spare + 1
  | .agg parts => uptoBulkAll parts + 1
  | .iface _ d => uptoBulk d + 1
  | .map entries => uptoBulkEntries entries + 1
  | .held _ => 1
def uptoBulkAll {H : Type} : List (DataW H) → Nat
  | [] => 0
  | d :: r => uptoBulk d + uptoBulkAll r
def uptoBulkEntries {H : Type} : List (Lit × DataW H) → Nat
  | [] => 0
  | x :: r => uptoBulkEntry x + uptoBulkEntries r
def uptoBulkEntry {H : Type} : Lit × DataW H → Nat
  | (.string bytes, d) => bytes.length + uptoBulk d + 1
  | (_, d) => uptoBulk d + 1
 end
def uptoSmall : (H : Type) → List (DataW H) → Bool := fun _ ds => decide (uptoBulkAll ds ≤ 1048576)
def OpenSpec.upto (s : _root_.Go.ChangeSpec) : _root_.Go.OpenSpec := { _root_.Go.OpenSpec.ofChange s with cond := some uptoSmall }

/-- 'laws.FnExactAddEdge', WHERE WHAT IT READS IS OF BULK AT MOST 1048576: true; the input reads as it did. -/
def fnExactAddEdgeUptoRow : OpenClaim := { program := "ythjnidcmhegoeaa", sum := "e9ef74cfce0f6a7819d9fe2296bce7e0c53abe012d061d304d9101bc9bce4ecc", func := "loop.example/graphcluster/laws.FnExactAddEdge", spec := "fnExactAddEdge", inPlace := ["slices.overlaps[loop.example/graphcluster/impl.Edge]"], unfollowed := true, recurses := true, apart := false, narrowed := true }
def FnExactAddEdgeUptoSaid : Prop := fnExactAddEdgeUptoRow.holds Try.pinned (OpenSpec.upto fnExactAddEdgeSpec)

/-- 'laws.FnAddEdge', WHERE WHAT IT READS IS OF BULK AT MOST 1048576: true; the input reads as it did. -/
def fnAddEdgeUptoRow : OpenClaim := { program := "ythjnidcmhegoeaa", sum := "e9ef74cfce0f6a7819d9fe2296bce7e0c53abe012d061d304d9101bc9bce4ecc", func := "loop.example/graphcluster/laws.FnAddEdge", spec := "fnAddEdge", inPlace := ["slices.overlaps[loop.example/graphcluster/impl.Edge]"], unfollowed := true, recurses := true, apart := false, narrowed := true }
def FnAddEdgeUptoSaid : Prop := fnAddEdgeUptoRow.holds Try.pinned (OpenSpec.upto fnAddEdgeSpec)

/-- 'laws.FnExactReadJob', WHERE WHAT IT READS IS OF BULK AT MOST 1048576: true; the input reads as it did. -/
def fnExactReadJobUptoRow : OpenClaim := { program := "ythjnidcmhegoeaa", sum := "e9ef74cfce0f6a7819d9fe2296bce7e0c53abe012d061d304d9101bc9bce4ecc", func := "loop.example/graphcluster/laws.FnExactReadJob", spec := "fnExactReadJob", apart := false, narrowed := true }
def FnExactReadJobUptoSaid : Prop := fnExactReadJobUptoRow.holds Try.pinned (OpenSpec.upto fnExactReadJobSpec)

/-- 'laws.FnExactLastCheckpoint', WHERE WHAT IT READS IS OF BULK AT MOST 1048576: true; the input reads as it did. -/
def fnExactLastCheckpointUptoRow : OpenClaim := { program := "ythjnidcmhegoeaa", sum := "e9ef74cfce0f6a7819d9fe2296bce7e0c53abe012d061d304d9101bc9bce4ecc", func := "loop.example/graphcluster/laws.FnExactLastCheckpoint", spec := "fnExactLastCheckpoint", unfollowed := true, recurses := true, apart := false, narrowed := true }
def FnExactLastCheckpointUptoSaid : Prop := fnExactLastCheckpointUptoRow.holds Try.pinned (OpenSpec.upto fnExactLastCheckpointSpec)

/-- 'laws.FnExactRecoverState', WHERE WHAT IT READS IS OF BULK AT MOST 1048576: true; the input reads as it did. -/
def fnExactRecoverStateUptoRow : OpenClaim := { program := "ythjnidcmhegoeaa", sum := "e9ef74cfce0f6a7819d9fe2296bce7e0c53abe012d061d304d9101bc9bce4ecc", func := "loop.example/graphcluster/laws.FnExactRecoverState", spec := "fnExactRecoverState", unfollowed := true, recurses := true, apart := false, narrowed := true }
def FnExactRecoverStateUptoSaid : Prop := fnExactRecoverStateUptoRow.holds Try.pinned (OpenSpec.upto fnExactRecoverStateSpec)

end Rows
end Go.Proofs.Ythjnidcmhegoeaa
