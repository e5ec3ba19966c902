/- Graphs by states: the reference's AddEdge, its row handed over. No statement of the seat is proved here. -/
import Derived.Lib.Hide
import Derived.Test.YtmkijbfiilpccaaXlTy
import Derived.Test.YtmkijbfiilpccaaXlAbsX
import Derived.Test.YtmkijbfiilpccaaXlGValid
import Derived.Test.YtmkijbfiilpccaaXlAGraph
import Derived.Test.YtmkijbfiilpccaaXlADrwI
set_option linter.unusedSimpArgs false
set_option linter.unusedVariables false
namespace Go.Proofs.Ytmkijbfiilpccaa.Abs
open Go.RowKit
open R (val row ref)
theorem edges_plain (es : List E3) : ∀ e ∈ edges es,plain1 e = true:=fun e he=>by
 obtain ⟨x,_,rfl⟩:=List.mem_map.1 he
 rfl
theorem Zax (a b c : Int) : ∀ x ∈ [P0.agg [int a,int b,int c]],plain1 x = true:=fun x hx=>by
 obtain rfl : x = P0.agg [int a,int b,int c]:=by simpa using hx
 rfl
end Go.Proofs.Ytmkijbfiilpccaa.Abs
set_option linter.unusedSimpArgs false
set_option linter.unusedVariables false
namespace Go.Proofs.Ytmkijbfiilpccaa.Abs
open Go.RowKit
open R (val row ref)
theorem allN_ints (xs : List Int) : AllN 1 (ints xs):=fun i e he=>by
 obtain ⟨x,_,rfl⟩:=List.mem_map.1 (List.mem_of_getElem? he)
 rfl
end Go.Proofs.Ytmkijbfiilpccaa.Abs
