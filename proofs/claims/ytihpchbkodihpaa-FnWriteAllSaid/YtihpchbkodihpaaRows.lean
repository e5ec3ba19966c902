/-
  No cell of these rows narrows 'for every input' (looked for: loops, veiled, ifaces, maps, wideKeys, modest, calm, conditions, laid).
  DERIVED. THE GIVEN ROWS OF THIS SEAT. 8 by the template 'for every input the law returns true; each argument reads behind the call as it read before'; 0 by the template 'total and deterministic' (their statements: YtihpchbkodihpaaTotals.lean).
  GIVEN WITH THE SEED: the statements are not yours to turn. If you find one false, say at which input.
  Laid BY PROGRAM, IN A SANDBOX (cutbox-rows.mjs): the forced cells as the released guide's own fill.sh prints them over the translation 5660c411d8bcb21c… (all of the seat's roots in one cut). By AI agents, Wed Nov 11 2026. No macro, syntax, notation, axiom, sorry.
-/
import Derived.Test.YtihpchbkodihpaaChecked
import GoSem.Claim
import GoSem.ClaimJoined
import GoSem.ClaimMapViews
import Derived.JoinedTies
import Derived.KernelRfl
namespace Go.Proofs.Ytihpchbkodihpaa
/- THE CELL 'sum', in the pinned program and in every row, IS THE sha256 OF THE DUMP (.gsa) THAT YtihpchbkodihpaaProg.lean LOADS. Nothing in Lean hashes anything: it is a label: what it is worth is what the hold of that sum in a sandbox is worth. -/
noncomputable def Try.pinned : Pinned := { name := "ytihpchbkodihpaa", sum := "5660c411d8bcb21caf897929fca723e4ffb67607744833f3f83dc068411ed11f", checked := Try.checked }
namespace Rows
def none {H : Type} : Left H := { results := [], args := [] }

/-- 'laws.FnServiceValid': WHATEVER THE INPUT: true; the input reads as it did. -/
def fnServiceValidSpec : ChangeSpec := { name := "fnServiceValid", fn := fun _ => fun
  | [d] => { results := [.lit (.bool true)], args := [d] }
  | _ => none }
def fnServiceValidRow : OpenClaim := { program := "ytihpchbkodihpaa", sum := "5660c411d8bcb21caf897929fca723e4ffb67607744833f3f83dc068411ed11f", func := "loop.example/graphcluster/laws.FnServiceValid", spec := "fnServiceValid", apart := false }
def FnServiceValidSaid : Prop := fnServiceValidRow.holds Try.pinned (OpenSpec.ofChange fnServiceValidSpec)

/-- ITS FALSE NEIGHBOUR: 'it returns false'. Refute it at one input. -/
def fnServiceValidWrong : ChangeSpec := { name := "fnServiceValid", fn := fun _ => fun
  | [d] => { results := [.lit (.bool false)], args := [d] }
  | _ => none }
def FnServiceValidWrongFalsely : Prop := fnServiceValidRow.holds Try.pinned (OpenSpec.ofChange fnServiceValidWrong)

/-- 'laws.FnExactAddEdge': WHATEVER THE INPUT: true; the input reads as it did. -/
def fnExactAddEdgeSpec : ChangeSpec := { name := "fnExactAddEdge", fn := fun _ => fun
  | [d1, d2] => { results := [.lit (.bool true)], args := [d1, d2] }
  | _ => none }
def fnExactAddEdgeRow : OpenClaim := { program := "ytihpchbkodihpaa", sum := "5660c411d8bcb21caf897929fca723e4ffb67607744833f3f83dc068411ed11f", func := "loop.example/graphcluster/laws.FnExactAddEdge", spec := "fnExactAddEdge", inPlace := ["slices.overlaps[loop.example/graphcluster/impl.Edge]"], unfollowed := true, recurses := true, apart := false }
def FnExactAddEdgeSaid : Prop := fnExactAddEdgeRow.holds Try.pinned (OpenSpec.ofChange fnExactAddEdgeSpec)

/-- ITS FALSE NEIGHBOUR: 'it returns false'. Refute it at one input. -/
def fnExactAddEdgeWrong : ChangeSpec := { name := "fnExactAddEdge", fn := fun _ => fun
  | [d1, d2] => { results := [.lit (.bool false)], args := [d1, d2] }
  | _ => none }
def FnExactAddEdgeWrongFalsely : Prop := fnExactAddEdgeRow.holds Try.pinned (OpenSpec.ofChange fnExactAddEdgeWrong)

/-- 'laws.FnAddEdge': WHATEVER THE INPUT: true; the input reads as it did. -/
def fnAddEdgeSpec : ChangeSpec := { name := "fnAddEdge", fn := fun _ => fun
  | [d] => { results := [.lit (.bool true)], args := [d] }
  | _ => none }
def fnAddEdgeRow : OpenClaim := { program := "ytihpchbkodihpaa", sum := "5660c411d8bcb21caf897929fca723e4ffb67607744833f3f83dc068411ed11f", func := "loop.example/graphcluster/laws.FnAddEdge", spec := "fnAddEdge", inPlace := ["slices.overlaps[loop.example/graphcluster/impl.Edge]"], unfollowed := true, recurses := true, apart := false }
def FnAddEdgeSaid : Prop := fnAddEdgeRow.holds Try.pinned (OpenSpec.ofChange fnAddEdgeSpec)

/-- ITS FALSE NEIGHBOUR: 'it returns false'. Refute it at one input. -/
def fnAddEdgeWrong : ChangeSpec := { name := "fnAddEdge", fn := fun _ => fun
  | [d] => { results := [.lit (.bool false)], args := [d] }
  | _ => none }
def FnAddEdgeWrongFalsely : Prop := fnAddEdgeRow.holds Try.pinned (OpenSpec.ofChange fnAddEdgeWrong)

/-- 'laws.FnExactReadGraph': WHATEVER THE INPUT: true; the input reads as it did. -/
def fnExactReadGraphSpec : ChangeSpec := { name := "fnExactReadGraph", fn := fun _ => fun
  | [d] => { results := [.lit (.bool true)], args := [d] }
  | _ => none }
def fnExactReadGraphRow : OpenClaim := { program := "ytihpchbkodihpaa", sum := "5660c411d8bcb21caf897929fca723e4ffb67607744833f3f83dc068411ed11f", func := "loop.example/graphcluster/laws.FnExactReadGraph", spec := "fnExactReadGraph", unfollowed := true, recurses := true, apart := false }
def FnExactReadGraphSaid : Prop := fnExactReadGraphRow.holds Try.pinned (OpenSpec.ofChange fnExactReadGraphSpec)

/-- ITS FALSE NEIGHBOUR: 'it returns false'. Refute it at one input. -/
def fnExactReadGraphWrong : ChangeSpec := { name := "fnExactReadGraph", fn := fun _ => fun
  | [d] => { results := [.lit (.bool false)], args := [d] }
  | _ => none }
def FnExactReadGraphWrongFalsely : Prop := fnExactReadGraphRow.holds Try.pinned (OpenSpec.ofChange fnExactReadGraphWrong)

/-- 'laws.FnGraphBytes': WHATEVER THE INPUT: true; the input reads as it did. -/
def fnGraphBytesSpec : ChangeSpec := { name := "fnGraphBytes", fn := fun _ => fun
  | [d] => { results := [.lit (.bool true)], args := [d] }
  | _ => none }
def fnGraphBytesRow : OpenClaim := { program := "ytihpchbkodihpaa", sum := "5660c411d8bcb21caf897929fca723e4ffb67607744833f3f83dc068411ed11f", func := "loop.example/graphcluster/laws.FnGraphBytes", spec := "fnGraphBytes", unfollowed := true, recurses := true, apart := false }
def FnGraphBytesSaid : Prop := fnGraphBytesRow.holds Try.pinned (OpenSpec.ofChange fnGraphBytesSpec)

/-- ITS FALSE NEIGHBOUR: 'it returns false'. Refute it at one input. -/
def fnGraphBytesWrong : ChangeSpec := { name := "fnGraphBytes", fn := fun _ => fun
  | [d] => { results := [.lit (.bool false)], args := [d] }
  | _ => none }
def FnGraphBytesWrongFalsely : Prop := fnGraphBytesRow.holds Try.pinned (OpenSpec.ofChange fnGraphBytesWrong)

/-- 'laws.FnReadGraph': WHATEVER THE INPUT: true; the input reads as it did. -/
def fnReadGraphSpec : ChangeSpec := { name := "fnReadGraph", fn := fun _ => fun
  | [d] => { results := [.lit (.bool true)], args := [d] }
  | _ => none }
def fnReadGraphRow : OpenClaim := { program := "ytihpchbkodihpaa", sum := "5660c411d8bcb21caf897929fca723e4ffb67607744833f3f83dc068411ed11f", func := "loop.example/graphcluster/laws.FnReadGraph", spec := "fnReadGraph", unfollowed := true, recurses := true, apart := false }
def FnReadGraphSaid : Prop := fnReadGraphRow.holds Try.pinned (OpenSpec.ofChange fnReadGraphSpec)

/-- ITS FALSE NEIGHBOUR: 'it returns false'. Refute it at one input. -/
def fnReadGraphWrong : ChangeSpec := { name := "fnReadGraph", fn := fun _ => fun
  | [d] => { results := [.lit (.bool false)], args := [d] }
  | _ => none }
def FnReadGraphWrongFalsely : Prop := fnReadGraphRow.holds Try.pinned (OpenSpec.ofChange fnReadGraphWrong)

/-- 'laws.FnDiskWrite': WHATEVER THE INPUT: true; the input reads as it did. -/
def fnDiskWriteSpec : ChangeSpec := { name := "fnDiskWrite", fn := fun _ => fun
  | [d] => { results := [.lit (.bool true)], args := [d] }
  | _ => none }
def fnDiskWriteRow : OpenClaim := { program := "ytihpchbkodihpaa", sum := "5660c411d8bcb21caf897929fca723e4ffb67607744833f3f83dc068411ed11f", func := "loop.example/graphcluster/laws.FnDiskWrite", spec := "fnDiskWrite", unfollowed := true, recurses := true, apart := false }
def FnDiskWriteSaid : Prop := fnDiskWriteRow.holds Try.pinned (OpenSpec.ofChange fnDiskWriteSpec)

/-- ITS FALSE NEIGHBOUR: 'it returns false'. Refute it at one input. -/
def fnDiskWriteWrong : ChangeSpec := { name := "fnDiskWrite", fn := fun _ => fun
  | [d] => { results := [.lit (.bool false)], args := [d] }
  | _ => none }
def FnDiskWriteWrongFalsely : Prop := fnDiskWriteRow.holds Try.pinned (OpenSpec.ofChange fnDiskWriteWrong)

/-- 'laws.FnWriteAll': WHATEVER THE INPUT: true; the input reads as it did. -/
def fnWriteAllSpec : ChangeSpec := { name := "fnWriteAll", fn := fun _ => fun
  | [d] => { results := [.lit (.bool true)], args := [d] }
  | _ => none }
def fnWriteAllRow : OpenClaim := { program := "ytihpchbkodihpaa", sum := "5660c411d8bcb21caf897929fca723e4ffb67607744833f3f83dc068411ed11f", func := "loop.example/graphcluster/laws.FnWriteAll", spec := "fnWriteAll", unfollowed := true, recurses := true, apart := false }
def FnWriteAllSaid : Prop := fnWriteAllRow.holds Try.pinned (OpenSpec.ofChange fnWriteAllSpec)

/-- ITS FALSE NEIGHBOUR: 'it returns false'. Refute it at one input. -/
def fnWriteAllWrong : ChangeSpec := { name := "fnWriteAll", fn := fun _ => fun
  | [d] => { results := [.lit (.bool false)], args := [d] }
  | _ => none }
def FnWriteAllWrongFalsely : Prop := fnWriteAllRow.holds Try.pinned (OpenSpec.ofChange fnWriteAllWrong)

/- THE SECOND FORM. 'bulk': how many values and letters a reading holds, each counted each time it is reached (what is shared counts as often as it is met; a slice's spare places count too). A statement '..UptoSaid' is the law's where the arguments, and the package variables that the reading takes, are together of bulk at most 1048576: NARROWER than '..Said'. Prove '..Said' where nothing that the law and all that it calls make is longer than what came in: it says more and counts as full. Else prove '..UptoSaid'. A law counts once. -/
mutual
def uptoBulk {H : Type} : DataW H → Nat
  | .lit (.string bytes) => bytes.length + 1
  | .lit _ => 1
  | .nil => 1
  | .ptr d => uptoBulk d + 1
  | .slice elems spare => uptoBulkAll elems + uptoBulkAll spare + 1
  | .agg parts => uptoBulkAll parts + 1
  | .iface _ d => uptoBulk d + 1
  | .map entries => uptoBulkEntries entries + 1
  | .held _ => 1
def uptoBulkAll {H : Type} : List (DataW H) → Nat
  | [] => 0
  | d :: r => uptoBulk d + uptoBulkAll r
def uptoBulkEntries {H : Type} : List (Lit × DataW H) → Nat
  | [] => 0
  | x :: r => uptoBulkEntry x + uptoBulkEntries r
def uptoBulkEntry {H : Type} : Lit × DataW H → Nat
  | (.string bytes, d) => bytes.length + uptoBulk d + 1
  | (_, d) => uptoBulk d + 1
 end
def uptoSmall : (H : Type) → List (DataW H) → Bool := fun _ ds => decide (uptoBulkAll ds ≤ 1048576)
def OpenSpec.upto (s : _root_.Go.ChangeSpec) : _root_.Go.OpenSpec := { _root_.Go.OpenSpec.ofChange s with cond := some uptoSmall }

/-- 'laws.FnServiceValid', WHERE WHAT IT READS IS OF BULK AT MOST 1048576: true; the input reads as it did. -/
def fnServiceValidUptoRow : OpenClaim := { program := "ytihpchbkodihpaa", sum := "5660c411d8bcb21caf897929fca723e4ffb67607744833f3f83dc068411ed11f", func := "loop.example/graphcluster/laws.FnServiceValid", spec := "fnServiceValid", apart := false, narrowed := true }
def FnServiceValidUptoSaid : Prop := fnServiceValidUptoRow.holds Try.pinned (OpenSpec.upto fnServiceValidSpec)

/-- 'laws.FnExactAddEdge', WHERE WHAT IT READS IS OF BULK AT MOST 1048576: true; the input reads as it did. -/
def fnExactAddEdgeUptoRow : OpenClaim := { program := "ytihpchbkodihpaa", sum := "5660c411d8bcb21caf897929fca723e4ffb67607744833f3f83dc068411ed11f", func := "loop.example/graphcluster/laws.FnExactAddEdge", spec := "fnExactAddEdge", inPlace := ["slices.overlaps[loop.example/graphcluster/impl.Edge]"], unfollowed := true, recurses := true, apart := false, narrowed := true }
def FnExactAddEdgeUptoSaid : Prop := fnExactAddEdgeUptoRow.holds Try.pinned (OpenSpec.upto fnExactAddEdgeSpec)

/-- 'laws.FnAddEdge', WHERE WHAT IT READS IS OF BULK AT MOST 1048576: true; the input reads as it did. -/
def fnAddEdgeUptoRow : OpenClaim := { program := "ytihpchbkodihpaa", sum := "5660c411d8bcb21caf897929fca723e4ffb67607744833f3f83dc068411ed11f", func := "loop.example/graphcluster/laws.FnAddEdge", spec := "fnAddEdge", inPlace := ["slices.overlaps[loop.example/graphcluster/impl.Edge]"], unfollowed := true, recurses := true, apart := false, narrowed := true }
def FnAddEdgeUptoSaid : Prop := fnAddEdgeUptoRow.holds Try.pinned (OpenSpec.upto fnAddEdgeSpec)

/-- 'laws.FnExactReadGraph', WHERE WHAT IT READS IS OF BULK AT MOST 1048576: true; the input reads as it did. -/
def fnExactReadGraphUptoRow : OpenClaim := { program := "ytihpchbkodihpaa", sum := "5660c411d8bcb21caf897929fca723e4ffb67607744833f3f83dc068411ed11f", func := "loop.example/graphcluster/laws.FnExactReadGraph", spec := "fnExactReadGraph", unfollowed := true, recurses := true, apart := false, narrowed := true }
def FnExactReadGraphUptoSaid : Prop := fnExactReadGraphUptoRow.holds Try.pinned (OpenSpec.upto fnExactReadGraphSpec)

/-- 'laws.FnGraphBytes', WHERE WHAT IT READS IS OF BULK AT MOST 1048576: true; the input reads as it did. -/
def fnGraphBytesUptoRow : OpenClaim := { program := "ytihpchbkodihpaa", sum := "5660c411d8bcb21caf897929fca723e4ffb67607744833f3f83dc068411ed11f", func := "loop.example/graphcluster/laws.FnGraphBytes", spec := "fnGraphBytes", unfollowed := true, recurses := true, apart := false, narrowed := true }
def FnGraphBytesUptoSaid : Prop := fnGraphBytesUptoRow.holds Try.pinned (OpenSpec.upto fnGraphBytesSpec)

/-- 'laws.FnReadGraph', WHERE WHAT IT READS IS OF BULK AT MOST 1048576: true; the input reads as it did. -/
def fnReadGraphUptoRow : OpenClaim := { program := "ytihpchbkodihpaa", sum := "5660c411d8bcb21caf897929fca723e4ffb67607744833f3f83dc068411ed11f", func := "loop.example/graphcluster/laws.FnReadGraph", spec := "fnReadGraph", unfollowed := true, recurses := true, apart := false, narrowed := true }
def FnReadGraphUptoSaid : Prop := fnReadGraphUptoRow.holds Try.pinned (OpenSpec.upto fnReadGraphSpec)

/-- 'laws.FnDiskWrite', WHERE WHAT IT READS IS OF BULK AT MOST 1048576: true; the input reads as it did. -/
def fnDiskWriteUptoRow : OpenClaim := { program := "ytihpchbkodihpaa", sum := "5660c411d8bcb21caf897929fca723e4ffb67607744833f3f83dc068411ed11f", func := "loop.example/graphcluster/laws.FnDiskWrite", spec := "fnDiskWrite", unfollowed := true, recurses := true, apart := false, narrowed := true }
def FnDiskWriteUptoSaid : Prop := fnDiskWriteUptoRow.holds Try.pinned (OpenSpec.upto fnDiskWriteSpec)

/-- 'laws.FnWriteAll', WHERE WHAT IT READS IS OF BULK AT MOST 1048576: true; the input reads as it did. -/
def fnWriteAllUptoRow : OpenClaim := { program := "ytihpchbkodihpaa", sum := "5660c411d8bcb21caf897929fca723e4ffb67607744833f3f83dc068411ed11f", func := "loop.example/graphcluster/laws.FnWriteAll", spec := "fnWriteAll", unfollowed := true, recurses := true, apart := false, narrowed := true }
def FnWriteAllUptoSaid : Prop := fnWriteAllUptoRow.holds Try.pinned (OpenSpec.upto fnWriteAllSpec)

end Rows
end Go.Proofs.Ytihpchbkodihpaa
