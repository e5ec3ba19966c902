/-
  NARROWER THAN 'FOR EVERY INPUT', by the rows' own cells (each row's printed sentence says how): FnHopsFrom: laid · FnWrongHops: laid · FnHopsRight: laid · FnDropVertex: laid · FnDropHops: laid · FnPartsRight: laid · FnPartParents: laid · FnExactPartParents: laid.
  DERIVED. THE GIVEN ROWS OF THIS SEAT. 8 by the template 'for every input the law returns true; each argument reads behind the call as it read before'; 0 by the template 'total and deterministic' (their statements: YtfdaoepbdolgiaaDoorTotals.lean).
  GIVEN WITH THE SEED: the statements are not yours to turn. If you find one false, say at which input.
  Laid BY PROGRAM, IN A SANDBOX (cutbox-rows.mjs): the forced cells as the released guide's own fill.sh prints them over the translation 5f1d97a3a3cd9339… (all of the seat's roots in one cut). By AI agents, Wed Nov 11 2026. No macro, syntax, notation, axiom, sorry.
-/
import Derived.Test.YtfdaoepbdolgiaaDoorChecked
import GoSem.Claim
import GoSem.ClaimJoined
import GoSem.ClaimMapViews
import Derived.JoinedTies
import Derived.KernelRfl
namespace Go.Proofs.YtfdaoepbdolgiaaDoor
/- THE CELL 'sum', in the pinned program and in every row, IS THE sha256 OF THE DUMP (.gsa) THAT YtfdaoepbdolgiaaDoorProg.lean LOADS. Nothing in Lean hashes anything: it is a label: what it is worth is what the hold of that sum in a sandbox is worth. -/
noncomputable def Tryd.pinned : Pinned := { name := "ytfdaoepbdolgiaadoor", sum := "5f1d97a3a3cd93399f21ba101e6f6ab3fbc7b80e8191cc274ec706520f59bf9a", checked := Tryd.checked }
namespace Rows
def none {H : Type} : Left H := { results := [], args := [] }

/- WHAT THE LISTED PACKAGE-LEVEL VARIABLES READ AS WHEN THE CALL BEGINS. Each datum BY PROGRAM (the guide's laid-datum.mjs) off the statement by which the dump's own 'gosem.cut.vars' lays the variable. In a bare row this is a premise. The card (YtfdaoepbdolgiaaDoorCards.lean) ties it to the program's text. -/
def laid_math_bits_deBruijn32tab {H : Type} : DataW H := .agg [.lit (.int .u8 0), .lit (.int .u8 1), .lit (.int .u8 28), .lit (.int .u8 2), .lit (.int .u8 29), .lit (.int .u8 14), .lit (.int .u8 24), .lit (.int .u8 3), .lit (.int .u8 30), .lit (.int .u8 22), .lit (.int .u8 20), .lit (.int .u8 15), .lit (.int .u8 25), .lit (.int .u8 17), .lit (.int .u8 4), .lit (.int .u8 8), .lit (.int .u8 31), .lit (.int .u8 27), .lit (.int .u8 13), .lit (.int .u8 23), .lit (.int .u8 21), .lit (.int .u8 19), .lit (.int .u8 16), .lit (.int .u8 7), .lit (.int .u8 26), .lit (.int .u8 12), .lit (.int .u8 18), .lit (.int .u8 6), .lit (.int .u8 11), .lit (.int .u8 5), .lit (.int .u8 10), .lit (.int .u8 9)]

/-- 'laws.FnHopsFrom': WHATEVER THE INPUT: true; the input reads as it did. -/
def fnHopsFromSpec : ChangeSpec := { name := "fnHopsFrom", fn := fun _ => fun
  | [d] => { results := [.lit (.bool true)], args := [d] }
  | _ => none }
def fnHopsFromRow : OpenClaim := { program := "ytfdaoepbdolgiaadoor", sum := "5f1d97a3a3cd93399f21ba101e6f6ab3fbc7b80e8191cc274ec706520f59bf9a", func := "loop.example/graphcluster/laws.FnHopsFrom", spec := "fnHopsFrom", unfollowed := true, recurses := true, named := ["math/bits.deBruijn32tab"], apart := false, laid := [("math/bits.deBruijn32tab", laid_math_bits_deBruijn32tab)] }
def FnHopsFromSaid : Prop := fnHopsFromRow.holds Tryd.pinned (OpenSpec.ofChange fnHopsFromSpec)

/-- ITS FALSE NEIGHBOUR: 'it returns false'. Refute it at one input. -/
def fnHopsFromWrong : ChangeSpec := { name := "fnHopsFrom", fn := fun _ => fun
  | [d] => { results := [.lit (.bool false)], args := [d] }
  | _ => none }
def FnHopsFromWrongFalsely : Prop := fnHopsFromRow.holds Tryd.pinned (OpenSpec.ofChange fnHopsFromWrong)

/-- 'laws.FnWrongHops': WHATEVER THE INPUT: true; the input reads as it did. -/
def fnWrongHopsSpec : ChangeSpec := { name := "fnWrongHops", fn := fun _ => fun
  | [d] => { results := [.lit (.bool true)], args := [d] }
  | _ => none }
def fnWrongHopsRow : OpenClaim := { program := "ytfdaoepbdolgiaadoor", sum := "5f1d97a3a3cd93399f21ba101e6f6ab3fbc7b80e8191cc274ec706520f59bf9a", func := "loop.example/graphcluster/laws.FnWrongHops", spec := "fnWrongHops", unfollowed := true, recurses := true, named := ["math/bits.deBruijn32tab"], apart := false, laid := [("math/bits.deBruijn32tab", laid_math_bits_deBruijn32tab)] }
def FnWrongHopsSaid : Prop := fnWrongHopsRow.holds Tryd.pinned (OpenSpec.ofChange fnWrongHopsSpec)

/-- ITS FALSE NEIGHBOUR: 'it returns false'. Refute it at one input. -/
def fnWrongHopsWrong : ChangeSpec := { name := "fnWrongHops", fn := fun _ => fun
  | [d] => { results := [.lit (.bool false)], args := [d] }
  | _ => none }
def FnWrongHopsWrongFalsely : Prop := fnWrongHopsRow.holds Tryd.pinned (OpenSpec.ofChange fnWrongHopsWrong)

/-- 'laws.FnHopsRight': WHATEVER THE INPUT: true; the input reads as it did. -/
def fnHopsRightSpec : ChangeSpec := { name := "fnHopsRight", fn := fun _ => fun
  | [d] => { results := [.lit (.bool true)], args := [d] }
  | _ => none }
def fnHopsRightRow : OpenClaim := { program := "ytfdaoepbdolgiaadoor", sum := "5f1d97a3a3cd93399f21ba101e6f6ab3fbc7b80e8191cc274ec706520f59bf9a", func := "loop.example/graphcluster/laws.FnHopsRight", spec := "fnHopsRight", unfollowed := true, recurses := true, named := ["math/bits.deBruijn32tab"], apart := false, laid := [("math/bits.deBruijn32tab", laid_math_bits_deBruijn32tab)] }
def FnHopsRightSaid : Prop := fnHopsRightRow.holds Tryd.pinned (OpenSpec.ofChange fnHopsRightSpec)

/-- ITS FALSE NEIGHBOUR: 'it returns false'. Refute it at one input. -/
def fnHopsRightWrong : ChangeSpec := { name := "fnHopsRight", fn := fun _ => fun
  | [d] => { results := [.lit (.bool false)], args := [d] }
  | _ => none }
def FnHopsRightWrongFalsely : Prop := fnHopsRightRow.holds Tryd.pinned (OpenSpec.ofChange fnHopsRightWrong)

/-- 'laws.FnDropVertex': WHATEVER THE INPUT: true; the input reads as it did. -/
def fnDropVertexSpec : ChangeSpec := { name := "fnDropVertex", fn := fun _ => fun
  | [d] => { results := [.lit (.bool true)], args := [d] }
  | _ => none }
def fnDropVertexRow : OpenClaim := { program := "ytfdaoepbdolgiaadoor", sum := "5f1d97a3a3cd93399f21ba101e6f6ab3fbc7b80e8191cc274ec706520f59bf9a", func := "loop.example/graphcluster/laws.FnDropVertex", spec := "fnDropVertex", named := ["math/bits.deBruijn32tab"], apart := false, laid := [("math/bits.deBruijn32tab", laid_math_bits_deBruijn32tab)] }
def FnDropVertexSaid : Prop := fnDropVertexRow.holds Tryd.pinned (OpenSpec.ofChange fnDropVertexSpec)

/-- ITS FALSE NEIGHBOUR: 'it returns false'. Refute it at one input. -/
def fnDropVertexWrong : ChangeSpec := { name := "fnDropVertex", fn := fun _ => fun
  | [d] => { results := [.lit (.bool false)], args := [d] }
  | _ => none }
def FnDropVertexWrongFalsely : Prop := fnDropVertexRow.holds Tryd.pinned (OpenSpec.ofChange fnDropVertexWrong)

/-- 'laws.FnDropHops': WHATEVER THE INPUT: true; the input reads as it did. -/
def fnDropHopsSpec : ChangeSpec := { name := "fnDropHops", fn := fun _ => fun
  | [d] => { results := [.lit (.bool true)], args := [d] }
  | _ => none }
def fnDropHopsRow : OpenClaim := { program := "ytfdaoepbdolgiaadoor", sum := "5f1d97a3a3cd93399f21ba101e6f6ab3fbc7b80e8191cc274ec706520f59bf9a", func := "loop.example/graphcluster/laws.FnDropHops", spec := "fnDropHops", named := ["math/bits.deBruijn32tab"], apart := false, laid := [("math/bits.deBruijn32tab", laid_math_bits_deBruijn32tab)] }
def FnDropHopsSaid : Prop := fnDropHopsRow.holds Tryd.pinned (OpenSpec.ofChange fnDropHopsSpec)

/-- ITS FALSE NEIGHBOUR: 'it returns false'. Refute it at one input. -/
def fnDropHopsWrong : ChangeSpec := { name := "fnDropHops", fn := fun _ => fun
  | [d] => { results := [.lit (.bool false)], args := [d] }
  | _ => none }
def FnDropHopsWrongFalsely : Prop := fnDropHopsRow.holds Tryd.pinned (OpenSpec.ofChange fnDropHopsWrong)

/-- 'laws.FnPartsRight': WHATEVER THE INPUT: true; the input reads as it did. -/
def fnPartsRightSpec : ChangeSpec := { name := "fnPartsRight", fn := fun _ => fun
  | [d] => { results := [.lit (.bool true)], args := [d] }
  | _ => none }
def fnPartsRightRow : OpenClaim := { program := "ytfdaoepbdolgiaadoor", sum := "5f1d97a3a3cd93399f21ba101e6f6ab3fbc7b80e8191cc274ec706520f59bf9a", func := "loop.example/graphcluster/laws.FnPartsRight", spec := "fnPartsRight", named := ["math/bits.deBruijn32tab"], apart := false, laid := [("math/bits.deBruijn32tab", laid_math_bits_deBruijn32tab)] }
def FnPartsRightSaid : Prop := fnPartsRightRow.holds Tryd.pinned (OpenSpec.ofChange fnPartsRightSpec)

/-- ITS FALSE NEIGHBOUR: 'it returns false'. Refute it at one input. -/
def fnPartsRightWrong : ChangeSpec := { name := "fnPartsRight", fn := fun _ => fun
  | [d] => { results := [.lit (.bool false)], args := [d] }
  | _ => none }
def FnPartsRightWrongFalsely : Prop := fnPartsRightRow.holds Tryd.pinned (OpenSpec.ofChange fnPartsRightWrong)

/-- 'laws.FnPartParents': WHATEVER THE INPUT: true; the input reads as it did. -/
def fnPartParentsSpec : ChangeSpec := { name := "fnPartParents", fn := fun _ => fun
  | [d] => { results := [.lit (.bool true)], args := [d] }
  | _ => none }
def fnPartParentsRow : OpenClaim := { program := "ytfdaoepbdolgiaadoor", sum := "5f1d97a3a3cd93399f21ba101e6f6ab3fbc7b80e8191cc274ec706520f59bf9a", func := "loop.example/graphcluster/laws.FnPartParents", spec := "fnPartParents", named := ["math/bits.deBruijn32tab"], apart := false, laid := [("math/bits.deBruijn32tab", laid_math_bits_deBruijn32tab)] }
def FnPartParentsSaid : Prop := fnPartParentsRow.holds Tryd.pinned (OpenSpec.ofChange fnPartParentsSpec)

/-- ITS FALSE NEIGHBOUR: 'it returns false'. Refute it at one input. -/
def fnPartParentsWrong : ChangeSpec := { name := "fnPartParents", fn := fun _ => fun
  | [d] => { results := [.lit (.bool false)], args := [d] }
  | _ => none }
def FnPartParentsWrongFalsely : Prop := fnPartParentsRow.holds Tryd.pinned (OpenSpec.ofChange fnPartParentsWrong)

/-- 'laws.FnExactPartParents': WHATEVER THE INPUT: true; the input reads as it did. -/
def fnExactPartParentsSpec : ChangeSpec := { name := "fnExactPartParents", fn := fun _ => fun
  | [d] => { results := [.lit (.bool true)], args := [d] }
  | _ => none }
def fnExactPartParentsRow : OpenClaim := { program := "ytfdaoepbdolgiaadoor", sum := "5f1d97a3a3cd93399f21ba101e6f6ab3fbc7b80e8191cc274ec706520f59bf9a", func := "loop.example/graphcluster/laws.FnExactPartParents", spec := "fnExactPartParents", named := ["math/bits.deBruijn32tab"], apart := false, laid := [("math/bits.deBruijn32tab", laid_math_bits_deBruijn32tab)] }
def FnExactPartParentsSaid : Prop := fnExactPartParentsRow.holds Tryd.pinned (OpenSpec.ofChange fnExactPartParentsSpec)

/-- ITS FALSE NEIGHBOUR: 'it returns false'. Refute it at one input. -/
def fnExactPartParentsWrong : ChangeSpec := { name := "fnExactPartParents", fn := fun _ => fun
  | [d] => { results := [.lit (.bool false)], args := [d] }
  | _ => none }
def FnExactPartParentsWrongFalsely : Prop := fnExactPartParentsRow.holds Tryd.pinned (OpenSpec.ofChange fnExactPartParentsWrong)

/- THE SECOND FORM. 'bulk': how many values and letters a reading holds, each counted each time it is reached (what is shared counts as often as it is met; a slice's spare places count too). A statement '..UptoSaid' is the law's where the arguments, and the package variables that the reading takes, are together of bulk at most 1048576: NARROWER than '..Said'. Prove '..Said' where nothing that the law and all that it calls make is longer than what came in: it says more and counts as full. Else prove '..UptoSaid'. A law counts once. -/
mutual
def uptoBulk {H : Type} : DataW H → Nat
  | .lit (.string bytes) => bytes.length + 1
  | .lit _ => 1
  | .nil => 1
  | .ptr d => uptoBulk d + 1
  | .slice elems spare => uptoBulkAll elems + uptoBulkAll spare + 1
  | .agg parts => uptoBulkAll parts + 1
  | .iface _ d => uptoBulk d + 1
  | .map entries => uptoBulkEntries entries + 1
  | .held _ => 1
def uptoBulkAll {H : Type} : List (DataW H) → Nat
  | [] => 0
  | d :: r => uptoBulk d + uptoBulkAll r
def uptoBulkEntries {H : Type} : List (Lit × DataW H) → Nat
  | [] => 0
  | x :: r => uptoBulkEntry x + uptoBulkEntries r
def uptoBulkEntry {H : Type} : Lit × DataW H → Nat
  | (.string bytes, d) => bytes.length + uptoBulk d + 1
  | (_, d) => uptoBulk d + 1
 end
def uptoSmall : (H : Type) → List (DataW H) → Bool := fun _ ds => decide (uptoBulkAll ds ≤ 1048576)
def OpenSpec.upto (s : _root_.Go.ChangeSpec) : _root_.Go.OpenSpec := { _root_.Go.OpenSpec.ofChange s with cond := some uptoSmall }

/-- 'laws.FnHopsFrom', WHERE WHAT IT READS IS OF BULK AT MOST 1048576: true; the input reads as it did. -/
def fnHopsFromUptoRow : OpenClaim := { program := "ytfdaoepbdolgiaadoor", sum := "5f1d97a3a3cd93399f21ba101e6f6ab3fbc7b80e8191cc274ec706520f59bf9a", func := "loop.example/graphcluster/laws.FnHopsFrom", spec := "fnHopsFrom", unfollowed := true, recurses := true, named := ["math/bits.deBruijn32tab"], apart := false, laid := [("math/bits.deBruijn32tab", laid_math_bits_deBruijn32tab)], narrowed := true }
def FnHopsFromUptoSaid : Prop := fnHopsFromUptoRow.holds Tryd.pinned (OpenSpec.upto fnHopsFromSpec)

/-- 'laws.FnWrongHops', WHERE WHAT IT READS IS OF BULK AT MOST 1048576: true; the input reads as it did. -/
def fnWrongHopsUptoRow : OpenClaim := { program := "ytfdaoepbdolgiaadoor", sum := "5f1d97a3a3cd93399f21ba101e6f6ab3fbc7b80e8191cc274ec706520f59bf9a", func := "loop.example/graphcluster/laws.FnWrongHops", spec := "fnWrongHops", unfollowed := true, recurses := true, named := ["math/bits.deBruijn32tab"], apart := false, laid := [("math/bits.deBruijn32tab", laid_math_bits_deBruijn32tab)], narrowed := true }
def FnWrongHopsUptoSaid : Prop := fnWrongHopsUptoRow.holds Tryd.pinned (OpenSpec.upto fnWrongHopsSpec)

/-- 'laws.FnHopsRight', WHERE WHAT IT READS IS OF BULK AT MOST 1048576: true; the input reads as it did. -/
def fnHopsRightUptoRow : OpenClaim := { program := "ytfdaoepbdolgiaadoor", sum := "5f1d97a3a3cd93399f21ba101e6f6ab3fbc7b80e8191cc274ec706520f59bf9a", func := "loop.example/graphcluster/laws.FnHopsRight", spec := "fnHopsRight", unfollowed := true, recurses := true, named := ["math/bits.deBruijn32tab"], apart := false, laid := [("math/bits.deBruijn32tab", laid_math_bits_deBruijn32tab)], narrowed := true }
def FnHopsRightUptoSaid : Prop := fnHopsRightUptoRow.holds Tryd.pinned (OpenSpec.upto fnHopsRightSpec)

/-- 'laws.FnDropVertex', WHERE WHAT IT READS IS OF BULK AT MOST 1048576: true; the input reads as it did. -/
def fnDropVertexUptoRow : OpenClaim := { program := "ytfdaoepbdolgiaadoor", sum := "5f1d97a3a3cd93399f21ba101e6f6ab3fbc7b80e8191cc274ec706520f59bf9a", func := "loop.example/graphcluster/laws.FnDropVertex", spec := "fnDropVertex", named := ["math/bits.deBruijn32tab"], apart := false, laid := [("math/bits.deBruijn32tab", laid_math_bits_deBruijn32tab)], narrowed := true }
def FnDropVertexUptoSaid : Prop := fnDropVertexUptoRow.holds Tryd.pinned (OpenSpec.upto fnDropVertexSpec)

/-- 'laws.FnDropHops', WHERE WHAT IT READS IS OF BULK AT MOST 1048576: true; the input reads as it did. -/
def fnDropHopsUptoRow : OpenClaim := { program := "ytfdaoepbdolgiaadoor", sum := "5f1d97a3a3cd93399f21ba101e6f6ab3fbc7b80e8191cc274ec706520f59bf9a", func := "loop.example/graphcluster/laws.FnDropHops", spec := "fnDropHops", named := ["math/bits.deBruijn32tab"], apart := false, laid := [("math/bits.deBruijn32tab", laid_math_bits_deBruijn32tab)], narrowed := true }
def FnDropHopsUptoSaid : Prop := fnDropHopsUptoRow.holds Tryd.pinned (OpenSpec.upto fnDropHopsSpec)

/-- 'laws.FnPartsRight', WHERE WHAT IT READS IS OF BULK AT MOST 1048576: true; the input reads as it did. -/
def fnPartsRightUptoRow : OpenClaim := { program := "ytfdaoepbdolgiaadoor", sum := "5f1d97a3a3cd93399f21ba101e6f6ab3fbc7b80e8191cc274ec706520f59bf9a", func := "loop.example/graphcluster/laws.FnPartsRight", spec := "fnPartsRight", named := ["math/bits.deBruijn32tab"], apart := false, laid := [("math/bits.deBruijn32tab", laid_math_bits_deBruijn32tab)], narrowed := true }
def FnPartsRightUptoSaid : Prop := fnPartsRightUptoRow.holds Tryd.pinned (OpenSpec.upto fnPartsRightSpec)

/-- 'laws.FnPartParents', WHERE WHAT IT READS IS OF BULK AT MOST 1048576: true; the input reads as it did. -/
def fnPartParentsUptoRow : OpenClaim := { program := "ytfdaoepbdolgiaadoor", sum := "5f1d97a3a3cd93399f21ba101e6f6ab3fbc7b80e8191cc274ec706520f59bf9a", func := "loop.example/graphcluster/laws.FnPartParents", spec := "fnPartParents", named := ["math/bits.deBruijn32tab"], apart := false, laid := [("math/bits.deBruijn32tab", laid_math_bits_deBruijn32tab)], narrowed := true }
def FnPartParentsUptoSaid : Prop := fnPartParentsUptoRow.holds Tryd.pinned (OpenSpec.upto fnPartParentsSpec)

/-- 'laws.FnExactPartParents', WHERE WHAT IT READS IS OF BULK AT MOST 1048576: true; the input reads as it did. -/
def fnExactPartParentsUptoRow : OpenClaim := { program := "ytfdaoepbdolgiaadoor", sum := "5f1d97a3a3cd93399f21ba101e6f6ab3fbc7b80e8191cc274ec706520f59bf9a", func := "loop.example/graphcluster/laws.FnExactPartParents", spec := "fnExactPartParents", named := ["math/bits.deBruijn32tab"], apart := false, laid := [("math/bits.deBruijn32tab", laid_math_bits_deBruijn32tab)], narrowed := true }
def FnExactPartParentsUptoSaid : Prop := fnExactPartParentsUptoRow.holds Tryd.pinned (OpenSpec.upto fnExactPartParentsSpec)

end Rows
end Go.Proofs.YtfdaoepbdolgiaaDoor
