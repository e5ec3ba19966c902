/-
  No cell of these rows narrows 'for every input' (looked for: loops, veiled, ifaces, maps, wideKeys, modest, calm, conditions, laid).
  DERIVED. THE GIVEN ROWS OF THIS SEAT. 11 by the template 'for every input the law returns true; each argument reads behind the call as it read before'; 0 by the template 'total and deterministic' (their statements: YtlanonimjbhjnaaTotals.lean).
  GIVEN WITH THE SEED: the statements are not yours to turn. If you find one false, say at which input.
  Laid BY PROGRAM, IN A SANDBOX (cutbox-rows.mjs): the forced cells as the released guide's own fill.sh prints them over the translation ed3a8b35cc50589b… (all of the seat's roots in one cut). By AI agents, Wed Nov 11 2026. No macro, syntax, notation, axiom, sorry.
-/
import Derived.Test.YtlanonimjbhjnaaChecked
import GoSem.Claim
import GoSem.ClaimJoined
import GoSem.ClaimMapViews
import Derived.JoinedTies
import Derived.KernelRfl
namespace Go.Proofs.Ytlanonimjbhjnaa
/- THE CELL 'sum', in the pinned program and in every row, IS THE sha256 OF THE DUMP (.gsa) THAT YtlanonimjbhjnaaProg.lean LOADS. Nothing in Lean hashes anything: it is a label: what it is worth is what the hold of that sum in a sandbox is worth. -/
noncomputable def Try.pinned : Pinned := { name := "ytlanonimjbhjnaa", sum := "ed3a8b35cc50589be1542ee276943ba399157d4e6735bcca379ddab071abc095", checked := Try.checked }
namespace Rows
def none {H : Type} : Left H := { results := [], args := [] }

/-- 'laws.FnExactJobValid': WHATEVER THE INPUT: true; the input reads as it did. -/
def fnExactJobValidSpec : ChangeSpec := { name := "fnExactJobValid", fn := fun _ => fun
  | [d] => { results := [.lit (.bool true)], args := [d] }
  | _ => none }
def fnExactJobValidRow : OpenClaim := { program := "ytlanonimjbhjnaa", sum := "ed3a8b35cc50589be1542ee276943ba399157d4e6735bcca379ddab071abc095", func := "loop.example/graphcluster/laws.FnExactJobValid", spec := "fnExactJobValid", apart := false }
def FnExactJobValidSaid : Prop := fnExactJobValidRow.holds Try.pinned (OpenSpec.ofChange fnExactJobValidSpec)

/-- ITS FALSE NEIGHBOUR: 'it returns false'. Refute it at one input. -/
def fnExactJobValidWrong : ChangeSpec := { name := "fnExactJobValid", fn := fun _ => fun
  | [d] => { results := [.lit (.bool false)], args := [d] }
  | _ => none }
def FnExactJobValidWrongFalsely : Prop := fnExactJobValidRow.holds Try.pinned (OpenSpec.ofChange fnExactJobValidWrong)

/-- 'laws.FnExactDecodeNumber': WHATEVER THE INPUT: true; the input reads as it did. -/
def fnExactDecodeNumberSpec : ChangeSpec := { name := "fnExactDecodeNumber", fn := fun _ => fun
  | [d1, d2] => { results := [.lit (.bool true)], args := [d1, d2] }
  | _ => none }
def fnExactDecodeNumberRow : OpenClaim := { program := "ytlanonimjbhjnaa", sum := "ed3a8b35cc50589be1542ee276943ba399157d4e6735bcca379ddab071abc095", func := "loop.example/graphcluster/laws.FnExactDecodeNumber", spec := "fnExactDecodeNumber", apart := false }
def FnExactDecodeNumberSaid : Prop := fnExactDecodeNumberRow.holds Try.pinned (OpenSpec.ofChange fnExactDecodeNumberSpec)

/-- ITS FALSE NEIGHBOUR: 'it returns false'. Refute it at one input. -/
def fnExactDecodeNumberWrong : ChangeSpec := { name := "fnExactDecodeNumber", fn := fun _ => fun
  | [d1, d2] => { results := [.lit (.bool false)], args := [d1, d2] }
  | _ => none }
def FnExactDecodeNumberWrongFalsely : Prop := fnExactDecodeNumberRow.holds Try.pinned (OpenSpec.ofChange fnExactDecodeNumberWrong)

/-- 'laws.FnJobValid': WHATEVER THE INPUT: true; the input reads as it did. -/
def fnJobValidSpec : ChangeSpec := { name := "fnJobValid", fn := fun _ => fun
  | [d] => { results := [.lit (.bool true)], args := [d] }
  | _ => none }
def fnJobValidRow : OpenClaim := { program := "ytlanonimjbhjnaa", sum := "ed3a8b35cc50589be1542ee276943ba399157d4e6735bcca379ddab071abc095", func := "loop.example/graphcluster/laws.FnJobValid", spec := "fnJobValid", apart := false }
def FnJobValidSaid : Prop := fnJobValidRow.holds Try.pinned (OpenSpec.ofChange fnJobValidSpec)

/-- ITS FALSE NEIGHBOUR: 'it returns false'. Refute it at one input. -/
def fnJobValidWrong : ChangeSpec := { name := "fnJobValid", fn := fun _ => fun
  | [d] => { results := [.lit (.bool false)], args := [d] }
  | _ => none }
def FnJobValidWrongFalsely : Prop := fnJobValidRow.holds Try.pinned (OpenSpec.ofChange fnJobValidWrong)

/-- 'laws.FnCodesJoin': WHATEVER THE INPUT: true; the input reads as it did. -/
def fnCodesJoinSpec : ChangeSpec := { name := "fnCodesJoin", fn := fun _ => fun
  | [d1, d2] => { results := [.lit (.bool true)], args := [d1, d2] }
  | _ => none }
def fnCodesJoinRow : OpenClaim := { program := "ytlanonimjbhjnaa", sum := "ed3a8b35cc50589be1542ee276943ba399157d4e6735bcca379ddab071abc095", func := "loop.example/graphcluster/laws.FnCodesJoin", spec := "fnCodesJoin", apart := false }
def FnCodesJoinSaid : Prop := fnCodesJoinRow.holds Try.pinned (OpenSpec.ofChange fnCodesJoinSpec)

/-- ITS FALSE NEIGHBOUR: 'it returns false'. Refute it at one input. -/
def fnCodesJoinWrong : ChangeSpec := { name := "fnCodesJoin", fn := fun _ => fun
  | [d1, d2] => { results := [.lit (.bool false)], args := [d1, d2] }
  | _ => none }
def FnCodesJoinWrongFalsely : Prop := fnCodesJoinRow.holds Try.pinned (OpenSpec.ofChange fnCodesJoinWrong)

/-- 'laws.FnEncodeNumber': WHATEVER THE INPUT: true; the input reads as it did. -/
def fnEncodeNumberSpec : ChangeSpec := { name := "fnEncodeNumber", fn := fun _ => fun
  | [d] => { results := [.lit (.bool true)], args := [d] }
  | _ => none }
def fnEncodeNumberRow : OpenClaim := { program := "ytlanonimjbhjnaa", sum := "ed3a8b35cc50589be1542ee276943ba399157d4e6735bcca379ddab071abc095", func := "loop.example/graphcluster/laws.FnEncodeNumber", spec := "fnEncodeNumber", apart := false }
def FnEncodeNumberSaid : Prop := fnEncodeNumberRow.holds Try.pinned (OpenSpec.ofChange fnEncodeNumberSpec)

/-- ITS FALSE NEIGHBOUR: 'it returns false'. Refute it at one input. -/
def fnEncodeNumberWrong : ChangeSpec := { name := "fnEncodeNumber", fn := fun _ => fun
  | [d] => { results := [.lit (.bool false)], args := [d] }
  | _ => none }
def FnEncodeNumberWrongFalsely : Prop := fnEncodeNumberRow.holds Try.pinned (OpenSpec.ofChange fnEncodeNumberWrong)

/-- 'laws.FnExactReadEdge': WHATEVER THE INPUT: true; the input reads as it did. -/
def fnExactReadEdgeSpec : ChangeSpec := { name := "fnExactReadEdge", fn := fun _ => fun
  | [d] => { results := [.lit (.bool true)], args := [d] }
  | _ => none }
def fnExactReadEdgeRow : OpenClaim := { program := "ytlanonimjbhjnaa", sum := "ed3a8b35cc50589be1542ee276943ba399157d4e6735bcca379ddab071abc095", func := "loop.example/graphcluster/laws.FnExactReadEdge", spec := "fnExactReadEdge", apart := false }
def FnExactReadEdgeSaid : Prop := fnExactReadEdgeRow.holds Try.pinned (OpenSpec.ofChange fnExactReadEdgeSpec)

/-- ITS FALSE NEIGHBOUR: 'it returns false'. Refute it at one input. -/
def fnExactReadEdgeWrong : ChangeSpec := { name := "fnExactReadEdge", fn := fun _ => fun
  | [d] => { results := [.lit (.bool false)], args := [d] }
  | _ => none }
def FnExactReadEdgeWrongFalsely : Prop := fnExactReadEdgeRow.holds Try.pinned (OpenSpec.ofChange fnExactReadEdgeWrong)

/-- 'laws.FnEdgeBody': WHATEVER THE INPUT: true; the input reads as it did. -/
def fnEdgeBodySpec : ChangeSpec := { name := "fnEdgeBody", fn := fun _ => fun
  | [d] => { results := [.lit (.bool true)], args := [d] }
  | _ => none }
def fnEdgeBodyRow : OpenClaim := { program := "ytlanonimjbhjnaa", sum := "ed3a8b35cc50589be1542ee276943ba399157d4e6735bcca379ddab071abc095", func := "loop.example/graphcluster/laws.FnEdgeBody", spec := "fnEdgeBody", apart := false }
def FnEdgeBodySaid : Prop := fnEdgeBodyRow.holds Try.pinned (OpenSpec.ofChange fnEdgeBodySpec)

/-- ITS FALSE NEIGHBOUR: 'it returns false'. Refute it at one input. -/
def fnEdgeBodyWrong : ChangeSpec := { name := "fnEdgeBody", fn := fun _ => fun
  | [d] => { results := [.lit (.bool false)], args := [d] }
  | _ => none }
def FnEdgeBodyWrongFalsely : Prop := fnEdgeBodyRow.holds Try.pinned (OpenSpec.ofChange fnEdgeBodyWrong)

/-- 'laws.FnDecodeNumber': WHATEVER THE INPUT: true; the input reads as it did. -/
def fnDecodeNumberSpec : ChangeSpec := { name := "fnDecodeNumber", fn := fun _ => fun
  | [d] => { results := [.lit (.bool true)], args := [d] }
  | _ => none }
def fnDecodeNumberRow : OpenClaim := { program := "ytlanonimjbhjnaa", sum := "ed3a8b35cc50589be1542ee276943ba399157d4e6735bcca379ddab071abc095", func := "loop.example/graphcluster/laws.FnDecodeNumber", spec := "fnDecodeNumber", apart := false }
def FnDecodeNumberSaid : Prop := fnDecodeNumberRow.holds Try.pinned (OpenSpec.ofChange fnDecodeNumberSpec)

/-- ITS FALSE NEIGHBOUR: 'it returns false'. Refute it at one input. -/
def fnDecodeNumberWrong : ChangeSpec := { name := "fnDecodeNumber", fn := fun _ => fun
  | [d] => { results := [.lit (.bool false)], args := [d] }
  | _ => none }
def FnDecodeNumberWrongFalsely : Prop := fnDecodeNumberRow.holds Try.pinned (OpenSpec.ofChange fnDecodeNumberWrong)

/-- 'laws.FnExactReadJob': WHATEVER THE INPUT: true; the input reads as it did. -/
def fnExactReadJobSpec : ChangeSpec := { name := "fnExactReadJob", fn := fun _ => fun
  | [d] => { results := [.lit (.bool true)], args := [d] }
  | _ => none }
def fnExactReadJobRow : OpenClaim := { program := "ytlanonimjbhjnaa", sum := "ed3a8b35cc50589be1542ee276943ba399157d4e6735bcca379ddab071abc095", func := "loop.example/graphcluster/laws.FnExactReadJob", spec := "fnExactReadJob", apart := false }
def FnExactReadJobSaid : Prop := fnExactReadJobRow.holds Try.pinned (OpenSpec.ofChange fnExactReadJobSpec)

/-- ITS FALSE NEIGHBOUR: 'it returns false'. Refute it at one input. -/
def fnExactReadJobWrong : ChangeSpec := { name := "fnExactReadJob", fn := fun _ => fun
  | [d] => { results := [.lit (.bool false)], args := [d] }
  | _ => none }
def FnExactReadJobWrongFalsely : Prop := fnExactReadJobRow.holds Try.pinned (OpenSpec.ofChange fnExactReadJobWrong)

/-- 'laws.FnExactDiskWrite': WHATEVER THE INPUT: true; the input reads as it did. -/
def fnExactDiskWriteSpec : ChangeSpec := { name := "fnExactDiskWrite", fn := fun _ => fun
  | [d1, d2] => { results := [.lit (.bool true)], args := [d1, d2] }
  | _ => none }
def fnExactDiskWriteRow : OpenClaim := { program := "ytlanonimjbhjnaa", sum := "ed3a8b35cc50589be1542ee276943ba399157d4e6735bcca379ddab071abc095", func := "loop.example/graphcluster/laws.FnExactDiskWrite", spec := "fnExactDiskWrite", apart := false }
def FnExactDiskWriteSaid : Prop := fnExactDiskWriteRow.holds Try.pinned (OpenSpec.ofChange fnExactDiskWriteSpec)

/-- ITS FALSE NEIGHBOUR: 'it returns false'. Refute it at one input. -/
def fnExactDiskWriteWrong : ChangeSpec := { name := "fnExactDiskWrite", fn := fun _ => fun
  | [d1, d2] => { results := [.lit (.bool false)], args := [d1, d2] }
  | _ => none }
def FnExactDiskWriteWrongFalsely : Prop := fnExactDiskWriteRow.holds Try.pinned (OpenSpec.ofChange fnExactDiskWriteWrong)

/-- 'laws.FnReadEdge': WHATEVER THE INPUT: true; the input reads as it did. -/
def fnReadEdgeSpec : ChangeSpec := { name := "fnReadEdge", fn := fun _ => fun
  | [d] => { results := [.lit (.bool true)], args := [d] }
  | _ => none }
def fnReadEdgeRow : OpenClaim := { program := "ytlanonimjbhjnaa", sum := "ed3a8b35cc50589be1542ee276943ba399157d4e6735bcca379ddab071abc095", func := "loop.example/graphcluster/laws.FnReadEdge", spec := "fnReadEdge", apart := false }
def FnReadEdgeSaid : Prop := fnReadEdgeRow.holds Try.pinned (OpenSpec.ofChange fnReadEdgeSpec)

/-- ITS FALSE NEIGHBOUR: 'it returns false'. Refute it at one input. -/
def fnReadEdgeWrong : ChangeSpec := { name := "fnReadEdge", fn := fun _ => fun
  | [d] => { results := [.lit (.bool false)], args := [d] }
  | _ => none }
def FnReadEdgeWrongFalsely : Prop := fnReadEdgeRow.holds Try.pinned (OpenSpec.ofChange fnReadEdgeWrong)

/- THE SECOND FORM. 'bulk': how many values and letters a reading holds, each counted each time it is reached (what is shared counts as often as it is met; a slice's spare places count too). A statement '..UptoSaid' is the law's where the arguments, and the package variables that the reading takes, are together of bulk at most 1048576: NARROWER than '..Said'. Prove '..Said' where nothing that the law and all that it calls make is longer than what came in: it says more and counts as full. Else prove '..UptoSaid'. A law counts once. -/
mutual
def uptoBulk {H : Type} : DataW H → Nat
  | .lit (.string bytes) => bytes.length + 1
  | .lit _ => 1
  | .nil => 1
  | .ptr d => uptoBulk d + 1
  | .slice elems spare => uptoBulkAll elems + uptoBulkAll spare + 1
  | .agg parts => uptoBulkAll parts + 1
  | .iface _ d => uptoBulk d + 1
  | .map entries => uptoBulkEntries entries + 1
  | .held _ => 1
def uptoBulkAll {H : Type} : List (DataW H) → Nat
  | [] => 0
  | d :: r => uptoBulk d + uptoBulkAll r
def uptoBulkEntries {H : Type} : List (Lit × DataW H) → Nat
  | [] => 0
  | x :: r => uptoBulkEntry x + uptoBulkEntries r
def uptoBulkEntry {H : Type} : Lit × DataW H → Nat
  | (.string bytes, d) => bytes.length + uptoBulk d + 1
  | (_, d) => uptoBulk d + 1
 end
def uptoSmall : (H : Type) → List (DataW H) → Bool := fun _ ds => decide (uptoBulkAll ds ≤ 1048576)
def OpenSpec.upto (s : _root_.Go.ChangeSpec) : _root_.Go.OpenSpec := { _root_.Go.OpenSpec.ofChange s with cond := some uptoSmall }

/-- 'laws.FnExactJobValid', WHERE WHAT IT READS IS OF BULK AT MOST 1048576: true; the input reads as it did. -/
def fnExactJobValidUptoRow : OpenClaim := { program := "ytlanonimjbhjnaa", sum := "ed3a8b35cc50589be1542ee276943ba399157d4e6735bcca379ddab071abc095", func := "loop.example/graphcluster/laws.FnExactJobValid", spec := "fnExactJobValid", apart := false, narrowed := true }
def FnExactJobValidUptoSaid : Prop := fnExactJobValidUptoRow.holds Try.pinned (OpenSpec.upto fnExactJobValidSpec)

/-- 'laws.FnExactDecodeNumber', WHERE WHAT IT READS IS OF BULK AT MOST 1048576: true; the input reads as it did. -/
def fnExactDecodeNumberUptoRow : OpenClaim := { program := "ytlanonimjbhjnaa", sum := "ed3a8b35cc50589be1542ee276943ba399157d4e6735bcca379ddab071abc095", func := "loop.example/graphcluster/laws.FnExactDecodeNumber", spec := "fnExactDecodeNumber", apart := false, narrowed := true }
def FnExactDecodeNumberUptoSaid : Prop := fnExactDecodeNumberUptoRow.holds Try.pinned (OpenSpec.upto fnExactDecodeNumberSpec)

/-- 'laws.FnJobValid', WHERE WHAT IT READS IS OF BULK AT MOST 1048576: true; the input reads as it did. -/
def fnJobValidUptoRow : OpenClaim := { program := "ytlanonimjbhjnaa", sum := "ed3a8b35cc50589be1542ee276943ba399157d4e6735bcca379ddab071abc095", func := "loop.example/graphcluster/laws.FnJobValid", spec := "fnJobValid", apart := false, narrowed := true }
def FnJobValidUptoSaid : Prop := fnJobValidUptoRow.holds Try.pinned (OpenSpec.upto fnJobValidSpec)

/-- 'laws.FnCodesJoin', WHERE WHAT IT READS IS OF BULK AT MOST 1048576: true; the input reads as it did. -/
def fnCodesJoinUptoRow : OpenClaim := { program := "ytlanonimjbhjnaa", sum := "ed3a8b35cc50589be1542ee276943ba399157d4e6735bcca379ddab071abc095", func := "loop.example/graphcluster/laws.FnCodesJoin", spec := "fnCodesJoin", apart := false, narrowed := true }
def FnCodesJoinUptoSaid : Prop := fnCodesJoinUptoRow.holds Try.pinned (OpenSpec.upto fnCodesJoinSpec)

/-- 'laws.FnEncodeNumber', WHERE WHAT IT READS IS OF BULK AT MOST 1048576: true; the input reads as it did. -/
def fnEncodeNumberUptoRow : OpenClaim := { program := "ytlanonimjbhjnaa", sum := "ed3a8b35cc50589be1542ee276943ba399157d4e6735bcca379ddab071abc095", func := "loop.example/graphcluster/laws.FnEncodeNumber", spec := "fnEncodeNumber", apart := false, narrowed := true }
def FnEncodeNumberUptoSaid : Prop := fnEncodeNumberUptoRow.holds Try.pinned (OpenSpec.upto fnEncodeNumberSpec)

/-- 'laws.FnExactReadEdge', WHERE WHAT IT READS IS OF BULK AT MOST 1048576: true; the input reads as it did. -/
def fnExactReadEdgeUptoRow : OpenClaim := { program := "ytlanonimjbhjnaa", sum := "ed3a8b35cc50589be1542ee276943ba399157d4e6735bcca379ddab071abc095", func := "loop.example/graphcluster/laws.FnExactReadEdge", spec := "fnExactReadEdge", apart := false, narrowed := true }
def FnExactReadEdgeUptoSaid : Prop := fnExactReadEdgeUptoRow.holds Try.pinned (OpenSpec.upto fnExactReadEdgeSpec)

/-- 'laws.FnEdgeBody', WHERE WHAT IT READS IS OF BULK AT MOST 1048576: true; the input reads as it did. -/
def fnEdgeBodyUptoRow : OpenClaim := { program := "ytlanonimjbhjnaa", sum := "ed3a8b35cc50589be1542ee276943ba399157d4e6735bcca379ddab071abc095", func := "loop.example/graphcluster/laws.FnEdgeBody", spec := "fnEdgeBody", apart := false, narrowed := true }
def FnEdgeBodyUptoSaid : Prop := fnEdgeBodyUptoRow.holds Try.pinned (OpenSpec.upto fnEdgeBodySpec)

/-- 'laws.FnDecodeNumber', WHERE WHAT IT READS IS OF BULK AT MOST 1048576: true; the input reads as it did. -/
def fnDecodeNumberUptoRow : OpenClaim := { program := "ytlanonimjbhjnaa", sum := "ed3a8b35cc50589be1542ee276943ba399157d4e6735bcca379ddab071abc095", func := "loop.example/graphcluster/laws.FnDecodeNumber", spec := "fnDecodeNumber", apart := false, narrowed := true }
def FnDecodeNumberUptoSaid : Prop := fnDecodeNumberUptoRow.holds Try.pinned (OpenSpec.upto fnDecodeNumberSpec)

/-- 'laws.FnExactReadJob', WHERE WHAT IT READS IS OF BULK AT MOST 1048576: true; the input reads as it did. -/
def fnExactReadJobUptoRow : OpenClaim := { program := "ytlanonimjbhjnaa", sum := "ed3a8b35cc50589be1542ee276943ba399157d4e6735bcca379ddab071abc095", func := "loop.example/graphcluster/laws.FnExactReadJob", spec := "fnExactReadJob", apart := false, narrowed := true }
def FnExactReadJobUptoSaid : Prop := fnExactReadJobUptoRow.holds Try.pinned (OpenSpec.upto fnExactReadJobSpec)

/-- 'laws.FnExactDiskWrite', WHERE WHAT IT READS IS OF BULK AT MOST 1048576: true; the input reads as it did. -/
def fnExactDiskWriteUptoRow : OpenClaim := { program := "ytlanonimjbhjnaa", sum := "ed3a8b35cc50589be1542ee276943ba399157d4e6735bcca379ddab071abc095", func := "loop.example/graphcluster/laws.FnExactDiskWrite", spec := "fnExactDiskWrite", apart := false, narrowed := true }
def FnExactDiskWriteUptoSaid : Prop := fnExactDiskWriteUptoRow.holds Try.pinned (OpenSpec.upto fnExactDiskWriteSpec)

/-- 'laws.FnReadEdge', WHERE WHAT IT READS IS OF BULK AT MOST 1048576: true; the input reads as it did. -/
def fnReadEdgeUptoRow : OpenClaim := { program := "ytlanonimjbhjnaa", sum := "ed3a8b35cc50589be1542ee276943ba399157d4e6735bcca379ddab071abc095", func := "loop.example/graphcluster/laws.FnReadEdge", spec := "fnReadEdge", apart := false, narrowed := true }
def FnReadEdgeUptoSaid : Prop := fnReadEdgeUptoRow.holds Try.pinned (OpenSpec.upto fnReadEdgeSpec)

end Rows
end Go.Proofs.Ytlanonimjbhjnaa
