/-
  NARROWER THAN 'FOR EVERY INPUT', by the rows' own cells (each row's printed sentence says how): FnExactJobText: laid · FnJobText: laid · FnReadJob: laid · FnExactCostParents: laid · FnCostParents: laid · FnCostsFrom: laid · FnWrongCosts: laid · FnCostsRight: laid.
  DERIVED. THE GIVEN ROWS OF THIS SEAT. 8 by the template 'for every input the law returns true; each argument reads behind the call as it read before'; 0 by the template 'total and deterministic' (their statements: YthjnidcmhegoeaaDoorTotals.lean).
  GIVEN WITH THE SEED: the statements are not yours to turn. If you find one false, say at which input.
  Laid BY PROGRAM, IN A SANDBOX (cutbox-rows.mjs): the forced cells as the released guide's own fill.sh prints them over the translation 2661a513ef047926… (all of the seat's roots in one cut). By AI agents, Wed Nov 11 2026. No macro, syntax, notation, axiom, sorry.
-/
import Derived.Test.YthjnidcmhegoeaaDoorChecked
import GoSem.Claim
import GoSem.ClaimJoined
import GoSem.ClaimMapViews
import Derived.JoinedTies
import Derived.KernelRfl
namespace Go.Proofs.YthjnidcmhegoeaaDoor
/- THE CELL 'sum', in the pinned program and in every row, IS THE sha256 OF THE DUMP (.gsa) THAT YthjnidcmhegoeaaDoorProg.lean LOADS. Nothing in Lean hashes anything: it is a label: what it is worth is what the hold of that sum in a sandbox is worth. -/
noncomputable def Tryd.pinned : Pinned := { name := "ythjnidcmhegoeaadoor", sum := "2661a513ef0479264e306f5d004e1fdd454bd98221c7646bc72686c73aadb710", checked := Tryd.checked }
namespace Rows
def none {H : Type} : Left H := { results := [], args := [] }

/- WHAT THE LISTED PACKAGE-LEVEL VARIABLES READ AS WHEN THE CALL BEGINS. Each datum BY PROGRAM (the guide's laid-datum.mjs) off the statement by which the dump's own 'gosem.cut.vars' lays the variable. In a bare row this is a premise. The card (YthjnidcmhegoeaaDoorCards.lean) ties it to the program's text. -/
def laid_math_bits_deBruijn32tab {H : Type} : DataW H := .agg [.lit (.int .u8 0), .lit (.int .u8 1), .lit (.int .u8 28), .lit (.int .u8 2), .lit (.int .u8 29), .lit (.int .u8 14), .lit (.int .u8 24), .lit (.int .u8 3), .lit (.int .u8 30), .lit (.int .u8 22), .lit (.int .u8 20), .lit (.int .u8 15), .lit (.int .u8 25), .lit (.int .u8 17), .lit (.int .u8 4), .lit (.int .u8 8), .lit (.int .u8 31), .lit (.int .u8 27), .lit (.int .u8 13), .lit (.int .u8 23), .lit (.int .u8 21), .lit (.int .u8 19), .lit (.int .u8 16), .lit (.int .u8 7), .lit (.int .u8 26), .lit (.int .u8 12), .lit (.int .u8 18), .lit (.int .u8 6), .lit (.int .u8 11), .lit (.int .u8 5), .lit (.int .u8 10), .lit (.int .u8 9)]
def laid_math_bits_deBruijn64tab {H : Type} : DataW H := .agg [.lit (.int .u8 0), .lit (.int .u8 1), .lit (.int .u8 56), .lit (.int .u8 2), .lit (.int .u8 57), .lit (.int .u8 49), .lit (.int .u8 28), .lit (.int .u8 3), .lit (.int .u8 61), .lit (.int .u8 58), .lit (.int .u8 42), .lit (.int .u8 50), .lit (.int .u8 38), .lit (.int .u8 29), .lit (.int .u8 17), .lit (.int .u8 4), .lit (.int .u8 62), .lit (.int .u8 47), .lit (.int .u8 59), .lit (.int .u8 36), .lit (.int .u8 45), .lit (.int .u8 43), .lit (.int .u8 51), .lit (.int .u8 22), .lit (.int .u8 53), .lit (.int .u8 39), .lit (.int .u8 33), .lit (.int .u8 30), .lit (.int .u8 24), .lit (.int .u8 18), .lit (.int .u8 12), .lit (.int .u8 5), .lit (.int .u8 63), .lit (.int .u8 55), .lit (.int .u8 48), .lit (.int .u8 27), .lit (.int .u8 60), .lit (.int .u8 41), .lit (.int .u8 37), .lit (.int .u8 16), .lit (.int .u8 46), .lit (.int .u8 35), .lit (.int .u8 44), .lit (.int .u8 21), .lit (.int .u8 52), .lit (.int .u8 32), .lit (.int .u8 23), .lit (.int .u8 11), .lit (.int .u8 54), .lit (.int .u8 26), .lit (.int .u8 40), .lit (.int .u8 15), .lit (.int .u8 34), .lit (.int .u8 20), .lit (.int .u8 31), .lit (.int .u8 10), .lit (.int .u8 25), .lit (.int .u8 14), .lit (.int .u8 19), .lit (.int .u8 9), .lit (.int .u8 13), .lit (.int .u8 8), .lit (.int .u8 7), .lit (.int .u8 6)]
def laid_internal_strconv_uint64pow10 {H : Type} : DataW H := .agg [.lit (.int .u64 1), .lit (.int .u64 10), .lit (.int .u64 100), .lit (.int .u64 1000), .lit (.int .u64 10000), .lit (.int .u64 100000), .lit (.int .u64 1000000), .lit (.int .u64 10000000), .lit (.int .u64 100000000), .lit (.int .u64 1000000000), .lit (.int .u64 10000000000), .lit (.int .u64 100000000000), .lit (.int .u64 1000000000000), .lit (.int .u64 10000000000000), .lit (.int .u64 100000000000000), .lit (.int .u64 1000000000000000), .lit (.int .u64 10000000000000000), .lit (.int .u64 100000000000000000), .lit (.int .u64 1000000000000000000), .lit (.int .u64 10000000000000000000)]

/-- 'laws.FnExactJobText': WHATEVER THE INPUT: true; the input reads as it did. -/
def fnExactJobTextSpec : ChangeSpec := { name := "fnExactJobText", fn := fun _ => fun
  | [d] => { results := [.lit (.bool true)], args := [d] }
  | _ => none }
def fnExactJobTextRow : OpenClaim := { program := "ythjnidcmhegoeaadoor", sum := "2661a513ef0479264e306f5d004e1fdd454bd98221c7646bc72686c73aadb710", func := "loop.example/graphcluster/laws.FnExactJobText", spec := "fnExactJobText", inPlace := ["internal/abi.NoEscape"], named := ["internal/strconv.uint64pow10", "math/bits.deBruijn32tab", "math/bits.deBruijn64tab"], apart := false, laid := [("math/bits.deBruijn32tab", laid_math_bits_deBruijn32tab), ("math/bits.deBruijn64tab", laid_math_bits_deBruijn64tab), ("internal/strconv.uint64pow10", laid_internal_strconv_uint64pow10)] }
def FnExactJobTextSaid : Prop := fnExactJobTextRow.holds Tryd.pinned (OpenSpec.ofChange fnExactJobTextSpec)

/-- ITS FALSE NEIGHBOUR: 'it returns false'. Refute it at one input. -/
def fnExactJobTextWrong : ChangeSpec := { name := "fnExactJobText", fn := fun _ => fun
  | [d] => { results := [.lit (.bool false)], args := [d] }
  | _ => none }
def FnExactJobTextWrongFalsely : Prop := fnExactJobTextRow.holds Tryd.pinned (OpenSpec.ofChange fnExactJobTextWrong)

/-- 'laws.FnJobText': WHATEVER THE INPUT: true; the input reads as it did. -/
def fnJobTextSpec : ChangeSpec := { name := "fnJobText", fn := fun _ => fun
  | [d] => { results := [.lit (.bool true)], args := [d] }
  | _ => none }
def fnJobTextRow : OpenClaim := { program := "ythjnidcmhegoeaadoor", sum := "2661a513ef0479264e306f5d004e1fdd454bd98221c7646bc72686c73aadb710", func := "loop.example/graphcluster/laws.FnJobText", spec := "fnJobText", inPlace := ["internal/abi.NoEscape"], named := ["internal/strconv.uint64pow10", "math/bits.deBruijn32tab", "math/bits.deBruijn64tab"], apart := false, laid := [("math/bits.deBruijn32tab", laid_math_bits_deBruijn32tab), ("math/bits.deBruijn64tab", laid_math_bits_deBruijn64tab), ("internal/strconv.uint64pow10", laid_internal_strconv_uint64pow10)] }
def FnJobTextSaid : Prop := fnJobTextRow.holds Tryd.pinned (OpenSpec.ofChange fnJobTextSpec)

/-- ITS FALSE NEIGHBOUR: 'it returns false'. Refute it at one input. -/
def fnJobTextWrong : ChangeSpec := { name := "fnJobText", fn := fun _ => fun
  | [d] => { results := [.lit (.bool false)], args := [d] }
  | _ => none }
def FnJobTextWrongFalsely : Prop := fnJobTextRow.holds Tryd.pinned (OpenSpec.ofChange fnJobTextWrong)

/-- 'laws.FnReadJob': WHATEVER THE INPUT: true; the input reads as it did. -/
def fnReadJobSpec : ChangeSpec := { name := "fnReadJob", fn := fun _ => fun
  | [d] => { results := [.lit (.bool true)], args := [d] }
  | _ => none }
def fnReadJobRow : OpenClaim := { program := "ythjnidcmhegoeaadoor", sum := "2661a513ef0479264e306f5d004e1fdd454bd98221c7646bc72686c73aadb710", func := "loop.example/graphcluster/laws.FnReadJob", spec := "fnReadJob", inPlace := ["internal/abi.NoEscape"], named := ["internal/strconv.uint64pow10", "math/bits.deBruijn32tab", "math/bits.deBruijn64tab"], apart := false, laid := [("math/bits.deBruijn32tab", laid_math_bits_deBruijn32tab), ("math/bits.deBruijn64tab", laid_math_bits_deBruijn64tab), ("internal/strconv.uint64pow10", laid_internal_strconv_uint64pow10)] }
def FnReadJobSaid : Prop := fnReadJobRow.holds Tryd.pinned (OpenSpec.ofChange fnReadJobSpec)

/-- ITS FALSE NEIGHBOUR: 'it returns false'. Refute it at one input. -/
def fnReadJobWrong : ChangeSpec := { name := "fnReadJob", fn := fun _ => fun
  | [d] => { results := [.lit (.bool false)], args := [d] }
  | _ => none }
def FnReadJobWrongFalsely : Prop := fnReadJobRow.holds Tryd.pinned (OpenSpec.ofChange fnReadJobWrong)

/-- 'laws.FnExactCostParents': WHATEVER THE INPUT: true; the input reads as it did. -/
def fnExactCostParentsSpec : ChangeSpec := { name := "fnExactCostParents", fn := fun _ => fun
  | [d1, d2] => { results := [.lit (.bool true)], args := [d1, d2] }
  | _ => none }
def fnExactCostParentsRow : OpenClaim := { program := "ythjnidcmhegoeaadoor", sum := "2661a513ef0479264e306f5d004e1fdd454bd98221c7646bc72686c73aadb710", func := "loop.example/graphcluster/laws.FnExactCostParents", spec := "fnExactCostParents", unfollowed := true, recurses := true, named := ["math/bits.deBruijn32tab"], apart := false, laid := [("math/bits.deBruijn32tab", laid_math_bits_deBruijn32tab)] }
def FnExactCostParentsSaid : Prop := fnExactCostParentsRow.holds Tryd.pinned (OpenSpec.ofChange fnExactCostParentsSpec)

/-- ITS FALSE NEIGHBOUR: 'it returns false'. Refute it at one input. -/
def fnExactCostParentsWrong : ChangeSpec := { name := "fnExactCostParents", fn := fun _ => fun
  | [d1, d2] => { results := [.lit (.bool false)], args := [d1, d2] }
  | _ => none }
def FnExactCostParentsWrongFalsely : Prop := fnExactCostParentsRow.holds Tryd.pinned (OpenSpec.ofChange fnExactCostParentsWrong)

/-- 'laws.FnCostParents': WHATEVER THE INPUT: true; the input reads as it did. -/
def fnCostParentsSpec : ChangeSpec := { name := "fnCostParents", fn := fun _ => fun
  | [d] => { results := [.lit (.bool true)], args := [d] }
  | _ => none }
def fnCostParentsRow : OpenClaim := { program := "ythjnidcmhegoeaadoor", sum := "2661a513ef0479264e306f5d004e1fdd454bd98221c7646bc72686c73aadb710", func := "loop.example/graphcluster/laws.FnCostParents", spec := "fnCostParents", unfollowed := true, recurses := true, named := ["math/bits.deBruijn32tab"], apart := false, laid := [("math/bits.deBruijn32tab", laid_math_bits_deBruijn32tab)] }
def FnCostParentsSaid : Prop := fnCostParentsRow.holds Tryd.pinned (OpenSpec.ofChange fnCostParentsSpec)

/-- ITS FALSE NEIGHBOUR: 'it returns false'. Refute it at one input. -/
def fnCostParentsWrong : ChangeSpec := { name := "fnCostParents", fn := fun _ => fun
  | [d] => { results := [.lit (.bool false)], args := [d] }
  | _ => none }
def FnCostParentsWrongFalsely : Prop := fnCostParentsRow.holds Tryd.pinned (OpenSpec.ofChange fnCostParentsWrong)

/-- 'laws.FnCostsFrom': WHATEVER THE INPUT: true; the input reads as it did. -/
def fnCostsFromSpec : ChangeSpec := { name := "fnCostsFrom", fn := fun _ => fun
  | [d] => { results := [.lit (.bool true)], args := [d] }
  | _ => none }
def fnCostsFromRow : OpenClaim := { program := "ythjnidcmhegoeaadoor", sum := "2661a513ef0479264e306f5d004e1fdd454bd98221c7646bc72686c73aadb710", func := "loop.example/graphcluster/laws.FnCostsFrom", spec := "fnCostsFrom", unfollowed := true, recurses := true, named := ["math/bits.deBruijn32tab"], apart := false, laid := [("math/bits.deBruijn32tab", laid_math_bits_deBruijn32tab)] }
def FnCostsFromSaid : Prop := fnCostsFromRow.holds Tryd.pinned (OpenSpec.ofChange fnCostsFromSpec)

/-- ITS FALSE NEIGHBOUR: 'it returns false'. Refute it at one input. -/
def fnCostsFromWrong : ChangeSpec := { name := "fnCostsFrom", fn := fun _ => fun
  | [d] => { results := [.lit (.bool false)], args := [d] }
  | _ => none }
def FnCostsFromWrongFalsely : Prop := fnCostsFromRow.holds Tryd.pinned (OpenSpec.ofChange fnCostsFromWrong)

/-- 'laws.FnWrongCosts': WHATEVER THE INPUT: true; the input reads as it did. -/
def fnWrongCostsSpec : ChangeSpec := { name := "fnWrongCosts", fn := fun _ => fun
  | [d] => { results := [.lit (.bool true)], args := [d] }
  | _ => none }
def fnWrongCostsRow : OpenClaim := { program := "ythjnidcmhegoeaadoor", sum := "2661a513ef0479264e306f5d004e1fdd454bd98221c7646bc72686c73aadb710", func := "loop.example/graphcluster/laws.FnWrongCosts", spec := "fnWrongCosts", unfollowed := true, recurses := true, named := ["math/bits.deBruijn32tab"], apart := false, laid := [("math/bits.deBruijn32tab", laid_math_bits_deBruijn32tab)] }
def FnWrongCostsSaid : Prop := fnWrongCostsRow.holds Tryd.pinned (OpenSpec.ofChange fnWrongCostsSpec)

/-- ITS FALSE NEIGHBOUR: 'it returns false'. Refute it at one input. -/
def fnWrongCostsWrong : ChangeSpec := { name := "fnWrongCosts", fn := fun _ => fun
  | [d] => { results := [.lit (.bool false)], args := [d] }
  | _ => none }
def FnWrongCostsWrongFalsely : Prop := fnWrongCostsRow.holds Tryd.pinned (OpenSpec.ofChange fnWrongCostsWrong)

/-- 'laws.FnCostsRight': WHATEVER THE INPUT: true; the input reads as it did. -/
def fnCostsRightSpec : ChangeSpec := { name := "fnCostsRight", fn := fun _ => fun
  | [d] => { results := [.lit (.bool true)], args := [d] }
  | _ => none }
def fnCostsRightRow : OpenClaim := { program := "ythjnidcmhegoeaadoor", sum := "2661a513ef0479264e306f5d004e1fdd454bd98221c7646bc72686c73aadb710", func := "loop.example/graphcluster/laws.FnCostsRight", spec := "fnCostsRight", unfollowed := true, recurses := true, named := ["math/bits.deBruijn32tab"], apart := false, laid := [("math/bits.deBruijn32tab", laid_math_bits_deBruijn32tab)] }
def FnCostsRightSaid : Prop := fnCostsRightRow.holds Tryd.pinned (OpenSpec.ofChange fnCostsRightSpec)

/-- ITS FALSE NEIGHBOUR: 'it returns false'. Refute it at one input. -/
def fnCostsRightWrong : ChangeSpec := { name := "fnCostsRight", fn := fun _ => fun
  | [d] => { results := [.lit (.bool false)], args := [d] }
  | _ => none }
def FnCostsRightWrongFalsely : Prop := fnCostsRightRow.holds Tryd.pinned (OpenSpec.ofChange fnCostsRightWrong)

/- THE SECOND FORM. 'bulk': how many values and letters a reading holds, each counted each time it is reached (what is shared counts as often as it is met; a slice's spare places count too). A statement '..UptoSaid' is the law's where the arguments, and the package variables that the reading takes, are together of bulk at most 1048576: NARROWER than '..Said'. Prove '..Said' where nothing that the law and all that it calls make is longer than what came in: it says more and counts as full. Else prove '..UptoSaid'. A law counts once. -/
mutual
def uptoBulk {H : Type} : DataW H → Nat
  | .lit (.string bytes) => bytes.length + 1
  | .lit _ => 1
  | .nil => 1
  | .ptr d => uptoBulk d + 1
  | .slice elems spare => uptoBulkAll elems + uptoBulkAll spare + 1
  | .agg parts => uptoBulkAll parts + 1
  | .iface _ d => uptoBulk d + 1
  | .map entries => uptoBulkEntries entries + 1
  | .held _ => 1
def uptoBulkAll {H : Type} : List (DataW H) → Nat
  | [] => 0
  | d :: r => uptoBulk d + uptoBulkAll r
def uptoBulkEntries {H : Type} : List (Lit × DataW H) → Nat
  | [] => 0
  | x :: r => uptoBulkEntry x + uptoBulkEntries r
def uptoBulkEntry {H : Type} : Lit × DataW H → Nat
  | (.string bytes, d) => bytes.length + uptoBulk d + 1
  | (_, d) => uptoBulk d + 1
 end
def uptoSmall : (H : Type) → List (DataW H) → Bool := fun _ ds => decide (uptoBulkAll ds ≤ 1048576)
def OpenSpec.upto (s : _root_.Go.ChangeSpec) : _root_.Go.OpenSpec := { _root_.Go.OpenSpec.ofChange s with cond := some uptoSmall }

/-- 'laws.FnExactJobText', WHERE WHAT IT READS IS OF BULK AT MOST 1048576: true; the input reads as it did. -/
def fnExactJobTextUptoRow : OpenClaim := { program := "ythjnidcmhegoeaadoor", sum := "2661a513ef0479264e306f5d004e1fdd454bd98221c7646bc72686c73aadb710", func := "loop.example/graphcluster/laws.FnExactJobText", spec := "fnExactJobText", inPlace := ["internal/abi.NoEscape"], named := ["internal/strconv.uint64pow10", "math/bits.deBruijn32tab", "math/bits.deBruijn64tab"], apart := false, laid := [("math/bits.deBruijn32tab", laid_math_bits_deBruijn32tab), ("math/bits.deBruijn64tab", laid_math_bits_deBruijn64tab), ("internal/strconv.uint64pow10", laid_internal_strconv_uint64pow10)], narrowed := true }
def FnExactJobTextUptoSaid : Prop := fnExactJobTextUptoRow.holds Tryd.pinned (OpenSpec.upto fnExactJobTextSpec)

/-- 'laws.FnJobText', WHERE WHAT IT READS IS OF BULK AT MOST 1048576: true; the input reads as it did. -/
def fnJobTextUptoRow : OpenClaim := { program := "ythjnidcmhegoeaadoor", sum := "2661a513ef0479264e306f5d004e1fdd454bd98221c7646bc72686c73aadb710", func := "loop.example/graphcluster/laws.FnJobText", spec := "fnJobText", inPlace := ["internal/abi.NoEscape"], named := ["internal/strconv.uint64pow10", "math/bits.deBruijn32tab", "math/bits.deBruijn64tab"], apart := false, laid := [("math/bits.deBruijn32tab", laid_math_bits_deBruijn32tab), ("math/bits.deBruijn64tab", laid_math_bits_deBruijn64tab), ("internal/strconv.uint64pow10", laid_internal_strconv_uint64pow10)], narrowed := true }
def FnJobTextUptoSaid : Prop := fnJobTextUptoRow.holds Tryd.pinned (OpenSpec.upto fnJobTextSpec)

/-- 'laws.FnReadJob', WHERE WHAT IT READS IS OF BULK AT MOST 1048576: true; the input reads as it did. -/
def fnReadJobUptoRow : OpenClaim := { program := "ythjnidcmhegoeaadoor", sum := "2661a513ef0479264e306f5d004e1fdd454bd98221c7646bc72686c73aadb710", func := "loop.example/graphcluster/laws.FnReadJob", spec := "fnReadJob", inPlace := ["internal/abi.NoEscape"], named := ["internal/strconv.uint64pow10", "math/bits.deBruijn32tab", "math/bits.deBruijn64tab"], apart := false, laid := [("math/bits.deBruijn32tab", laid_math_bits_deBruijn32tab), ("math/bits.deBruijn64tab", laid_math_bits_deBruijn64tab), ("internal/strconv.uint64pow10", laid_internal_strconv_uint64pow10)], narrowed := true }
def FnReadJobUptoSaid : Prop := fnReadJobUptoRow.holds Tryd.pinned (OpenSpec.upto fnReadJobSpec)

/-- 'laws.FnExactCostParents', WHERE WHAT IT READS IS OF BULK AT MOST 1048576: true; the input reads as it did. -/
def fnExactCostParentsUptoRow : OpenClaim := { program := "ythjnidcmhegoeaadoor", sum := "2661a513ef0479264e306f5d004e1fdd454bd98221c7646bc72686c73aadb710", func := "loop.example/graphcluster/laws.FnExactCostParents", spec := "fnExactCostParents", unfollowed := true, recurses := true, named := ["math/bits.deBruijn32tab"], apart := false, laid := [("math/bits.deBruijn32tab", laid_math_bits_deBruijn32tab)], narrowed := true }
def FnExactCostParentsUptoSaid : Prop := fnExactCostParentsUptoRow.holds Tryd.pinned (OpenSpec.upto fnExactCostParentsSpec)

/-- 'laws.FnCostParents', WHERE WHAT IT READS IS OF BULK AT MOST 1048576: true; the input reads as it did. -/
def fnCostParentsUptoRow : OpenClaim := { program := "ythjnidcmhegoeaadoor", sum := "2661a513ef0479264e306f5d004e1fdd454bd98221c7646bc72686c73aadb710", func := "loop.example/graphcluster/laws.FnCostParents", spec := "fnCostParents", unfollowed := true, recurses := true, named := ["math/bits.deBruijn32tab"], apart := false, laid := [("math/bits.deBruijn32tab", laid_math_bits_deBruijn32tab)], narrowed := true }
def FnCostParentsUptoSaid : Prop := fnCostParentsUptoRow.holds Tryd.pinned (OpenSpec.upto fnCostParentsSpec)

/-- 'laws.FnCostsFrom', WHERE WHAT IT READS IS OF BULK AT MOST 1048576: true; the input reads as it did. -/
def fnCostsFromUptoRow : OpenClaim := { program := "ythjnidcmhegoeaadoor", sum := "2661a513ef0479264e306f5d004e1fdd454bd98221c7646bc72686c73aadb710", func := "loop.example/graphcluster/laws.FnCostsFrom", spec := "fnCostsFrom", unfollowed := true, recurses := true, named := ["math/bits.deBruijn32tab"], apart := false, laid := [("math/bits.deBruijn32tab", laid_math_bits_deBruijn32tab)], narrowed := true }
def FnCostsFromUptoSaid : Prop := fnCostsFromUptoRow.holds Tryd.pinned (OpenSpec.upto fnCostsFromSpec)

/-- 'laws.FnWrongCosts', WHERE WHAT IT READS IS OF BULK AT MOST 1048576: true; the input reads as it did. -/
def fnWrongCostsUptoRow : OpenClaim := { program := "ythjnidcmhegoeaadoor", sum := "2661a513ef0479264e306f5d004e1fdd454bd98221c7646bc72686c73aadb710", func := "loop.example/graphcluster/laws.FnWrongCosts", spec := "fnWrongCosts", unfollowed := true, recurses := true, named := ["math/bits.deBruijn32tab"], apart := false, laid := [("math/bits.deBruijn32tab", laid_math_bits_deBruijn32tab)], narrowed := true }
def FnWrongCostsUptoSaid : Prop := fnWrongCostsUptoRow.holds Tryd.pinned (OpenSpec.upto fnWrongCostsSpec)

/-- 'laws.FnCostsRight', WHERE WHAT IT READS IS OF BULK AT MOST 1048576: true; the input reads as it did. -/
def fnCostsRightUptoRow : OpenClaim := { program := "ythjnidcmhegoeaadoor", sum := "2661a513ef0479264e306f5d004e1fdd454bd98221c7646bc72686c73aadb710", func := "loop.example/graphcluster/laws.FnCostsRight", spec := "fnCostsRight", unfollowed := true, recurses := true, named := ["math/bits.deBruijn32tab"], apart := false, laid := [("math/bits.deBruijn32tab", laid_math_bits_deBruijn32tab)], narrowed := true }
def FnCostsRightUptoSaid : Prop := fnCostsRightUptoRow.holds Tryd.pinned (OpenSpec.upto fnCostsRightSpec)

end Rows
end Go.Proofs.YthjnidcmhegoeaaDoor
