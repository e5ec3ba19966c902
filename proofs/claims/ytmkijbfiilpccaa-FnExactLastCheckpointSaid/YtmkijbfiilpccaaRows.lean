/-
  No cell of these rows narrows 'for every input' (looked for: loops, veiled, ifaces, maps, wideKeys, modest, calm, conditions, laid).
  DERIVED. THE GIVEN ROWS OF THIS SEAT. 3 by the template 'for every input the law returns true; each argument reads behind the call as it read before'; 0 by the template 'total and deterministic' (their statements: YtmkijbfiilpccaaTotals.lean).
  GIVEN WITH THE SEED: the statements are not yours to turn. If you find one false, say at which input.
  Laid BY PROGRAM, IN A SANDBOX (cutbox-rows.mjs): the forced cells as the released guide's own fill.sh prints them over the translation c504b32e31e4ec2e… (all of the seat's roots in one cut). By AI agents, Wed Nov 11 2026. No macro, syntax, notation, axiom, sorry.
-/
import Derived.Test.YtmkijbfiilpccaaChecked
import GoSem.Claim
import GoSem.ClaimJoined
import GoSem.ClaimMapViews
import Derived.JoinedTies
import Derived.KernelRfl
namespace Go.Proofs.Ytmkijbfiilpccaa
/- THE CELL 'sum', in the pinned program and in every row, IS THE sha256 OF THE DUMP (.gsa) THAT YtmkijbfiilpccaaProg.lean LOADS. Nothing in Lean hashes anything: it is a label: what it is worth is what the hold of that sum in a sandbox is worth. -/
noncomputable def Try.pinned : Pinned := { name := "ytmkijbfiilpccaa", sum := "c504b32e31e4ec2ef8d892575e910da6ecc629bc9b26e759df280fe69fc2ea1c", checked := Try.checked }
namespace Rows
def none {H : Type} : Left H := { results := [], args := [] }

/-- 'laws.FnExactLastCheckpoint': WHATEVER THE INPUT: true; the input reads as it did. -/
def fnExactLastCheckpointSpec : ChangeSpec := { name := "fnExactLastCheckpoint", fn := fun _ => fun
  | [d] => { results := [.lit (.bool true)], args := [d] }
  | _ => none }
def fnExactLastCheckpointRow : OpenClaim := { program := "ytmkijbfiilpccaa", sum := "c504b32e31e4ec2ef8d892575e910da6ecc629bc9b26e759df280fe69fc2ea1c", func := "loop.example/graphcluster/laws.FnExactLastCheckpoint", spec := "fnExactLastCheckpoint", unfollowed := true, recurses := true, apart := false }
def FnExactLastCheckpointSaid : Prop := fnExactLastCheckpointRow.holds Try.pinned (OpenSpec.ofChange fnExactLastCheckpointSpec)

/-- ITS FALSE NEIGHBOUR: 'it returns false'. Refute it at one input. -/
def fnExactLastCheckpointWrong : ChangeSpec := { name := "fnExactLastCheckpoint", fn := fun _ => fun
  | [d] => { results := [.lit (.bool false)], args := [d] }
  | _ => none }
def FnExactLastCheckpointWrongFalsely : Prop := fnExactLastCheckpointRow.holds Try.pinned (OpenSpec.ofChange fnExactLastCheckpointWrong)

/-- 'laws.FnStateBodies': WHATEVER THE INPUT: true; the input reads as it did. -/
def fnStateBodiesSpec : ChangeSpec := { name := "fnStateBodies", fn := fun _ => fun
  | [d] => { results := [.lit (.bool true)], args := [d] }
  | _ => none }
def fnStateBodiesRow : OpenClaim := { program := "ytmkijbfiilpccaa", sum := "c504b32e31e4ec2ef8d892575e910da6ecc629bc9b26e759df280fe69fc2ea1c", func := "loop.example/graphcluster/laws.FnStateBodies", spec := "fnStateBodies", unfollowed := true, recurses := true, apart := false }
def FnStateBodiesSaid : Prop := fnStateBodiesRow.holds Try.pinned (OpenSpec.ofChange fnStateBodiesSpec)

/-- ITS FALSE NEIGHBOUR: 'it returns false'. Refute it at one input. -/
def fnStateBodiesWrong : ChangeSpec := { name := "fnStateBodies", fn := fun _ => fun
  | [d] => { results := [.lit (.bool false)], args := [d] }
  | _ => none }
def FnStateBodiesWrongFalsely : Prop := fnStateBodiesRow.holds Try.pinned (OpenSpec.ofChange fnStateBodiesWrong)

/-- 'laws.FnLastCheckpoint': WHATEVER THE INPUT: true; the input reads as it did. -/
def fnLastCheckpointSpec : ChangeSpec := { name := "fnLastCheckpoint", fn := fun _ => fun
  | [d] => { results := [.lit (.bool true)], args := [d] }
  | _ => none }
def fnLastCheckpointRow : OpenClaim := { program := "ytmkijbfiilpccaa", sum := "c504b32e31e4ec2ef8d892575e910da6ecc629bc9b26e759df280fe69fc2ea1c", func := "loop.example/graphcluster/laws.FnLastCheckpoint", spec := "fnLastCheckpoint", unfollowed := true, recurses := true, apart := false }
def FnLastCheckpointSaid : Prop := fnLastCheckpointRow.holds Try.pinned (OpenSpec.ofChange fnLastCheckpointSpec)

/-- ITS FALSE NEIGHBOUR: 'it returns false'. Refute it at one input. -/
def fnLastCheckpointWrong : ChangeSpec := { name := "fnLastCheckpoint", fn := fun _ => fun
  | [d] => { results := [.lit (.bool false)], args := [d] }
  | _ => none }
def FnLastCheckpointWrongFalsely : Prop := fnLastCheckpointRow.holds Try.pinned (OpenSpec.ofChange fnLastCheckpointWrong)

/- THE SECOND FORM. 'bulk': how many values and letters a reading holds, each counted each time it is reached (what is shared counts as often as it is met; a slice's spare places count too). A statement '..UptoSaid' is the law's where the arguments, and the package variables that the reading takes, are together of bulk at most 1048576: NARROWER than '..Said'. Prove '..Said' where nothing that the law and all that it calls make is longer than what came in: it says more and counts as full. Else prove '..UptoSaid'. A law counts once. -/
mutual
def uptoBulk {H : Type} : DataW H → Nat
  | .lit (.string bytes) => bytes.length + 1
  | .lit _ => 1
  | .nil => 1
  | .ptr d => uptoBulk d + 1
  | .slice elems spare => uptoBulkAll elems + uptoBulkAll spare + 1
  | .agg parts => uptoBulkAll parts + 1
  | .iface _ d => uptoBulk d + 1
  | .map entries => uptoBulkEntries entries + 1
  | .held _ => 1
def uptoBulkAll {H : Type} : List (DataW H) → Nat
  | [] => 0
  | d :: r => uptoBulk d + uptoBulkAll r
def uptoBulkEntries {H : Type} : List (Lit × DataW H) → Nat
  | [] => 0
  | x :: r => uptoBulkEntry x + uptoBulkEntries r
def uptoBulkEntry {H : Type} : Lit × DataW H → Nat
  | (.string bytes, d) => bytes.length + uptoBulk d + 1
  | (_, d) => uptoBulk d + 1
 end
def uptoSmall : (H : Type) → List (DataW H) → Bool := fun _ ds => decide (uptoBulkAll ds ≤ 1048576)
def OpenSpec.upto (s : _root_.Go.ChangeSpec) : _root_.Go.OpenSpec := { _root_.Go.OpenSpec.ofChange s with cond := some uptoSmall }

/-- 'laws.FnExactLastCheckpoint', WHERE WHAT IT READS IS OF BULK AT MOST 1048576: true; the input reads as it did. -/
def fnExactLastCheckpointUptoRow : OpenClaim := { program := "ytmkijbfiilpccaa", sum := "c504b32e31e4ec2ef8d892575e910da6ecc629bc9b26e759df280fe69fc2ea1c", func := "loop.example/graphcluster/laws.FnExactLastCheckpoint", spec := "fnExactLastCheckpoint", unfollowed := true, recurses := true, apart := false, narrowed := true }
def FnExactLastCheckpointUptoSaid : Prop := fnExactLastCheckpointUptoRow.holds Try.pinned (OpenSpec.upto fnExactLastCheckpointSpec)

/-- 'laws.FnStateBodies', WHERE WHAT IT READS IS OF BULK AT MOST 1048576: true; the input reads as it did. -/
def fnStateBodiesUptoRow : OpenClaim := { program := "ytmkijbfiilpccaa", sum := "c504b32e31e4ec2ef8d892575e910da6ecc629bc9b26e759df280fe69fc2ea1c", func := "loop.example/graphcluster/laws.FnStateBodies", spec := "fnStateBodies", unfollowed := true, recurses := true, apart := false, narrowed := true }
def FnStateBodiesUptoSaid : Prop := fnStateBodiesUptoRow.holds Try.pinned (OpenSpec.upto fnStateBodiesSpec)

/-- 'laws.FnLastCheckpoint', WHERE WHAT IT READS IS OF BULK AT MOST 1048576: true; the input reads as it did. -/
def fnLastCheckpointUptoRow : OpenClaim := { program := "ytmkijbfiilpccaa", sum := "c504b32e31e4ec2ef8d892575e910da6ecc629bc9b26e759df280fe69fc2ea1c", func := "loop.example/graphcluster/laws.FnLastCheckpoint", spec := "fnLastCheckpoint", unfollowed := true, recurses := true, apart := false, narrowed := true }
def FnLastCheckpointUptoSaid : Prop := fnLastCheckpointUptoRow.holds Try.pinned (OpenSpec.upto fnLastCheckpointSpec)

end Rows
end Go.Proofs.Ytmkijbfiilpccaa
