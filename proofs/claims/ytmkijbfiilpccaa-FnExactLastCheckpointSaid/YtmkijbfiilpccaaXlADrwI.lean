/- By states: division, remainder, xor, numbers of bytes. No statement of the seat is proved here. -/
import Derived.Lib.Hide
import Derived.Test.YtmkijbfiilpccaaXlTy
import Derived.Test.YtmkijbfiilpccaaXlAbsX
import Derived.Test.YtmkijbfiilpccaaXlADat
set_option linter.unusedSimpArgs false
set_option linter.unusedVariables false
namespace Go.Proofs.Ytmkijbfiilpccaa.Abs
open Go.RowKit
open R (val row ref)
theorem k_rem {P : Program} {l : List (Nat × D)} {h : List (Nat × Ob)} {o : Oper} {n n' : Bool} {k : IntKind} {p q : Int} {t t' : TypeId} {x y : Operand} (ho : o.op = .binOp .rem t x y t') (hx : evO l x = some (.one (.r n (R.val (.int k p))))) (hy : evO l y = some (.one (.r n' (R.val (.int k q))))) (hq : q ≠ 0) : Loc P (lookH h) (evD (look l)) o (.one (.r true (R.val (.int k (p.tmod q))))) :=
 loc_rem t t' x y ho (Za hx) (Za hy) hq
theorem k_div {P : Program} {l : List (Nat × D)} {h : List (Nat × Ob)} {o : Oper} {n n' : Bool} {k : IntKind} {p q : Int} {t t' : TypeId} {x y : Operand} (ho : o.op = .binOp .quo t x y t') (hx : evO l x = some (.one (.r n (R.val (.int k p))))) (hy : evO l y = some (.one (.r n' (R.val (.int k q))))) (hq : q ≠ 0) : Loc P (lookH h) (evD (look l)) o (.one (.r true (R.val (.int k (k.wrap (p.tdiv q)))))) :=
 loc_div t t' x y ho (Za hx) (Za hy) hq
open Classical in
theorem var2 {E : TypeId} {a b a' b' : Cell} (h1 : a = a') (h2 : b = b') : Ob.var E [a,b] = .var E [a',b']:=by rw [h1,h2]
theorem Z6 {H : Nat → Option Ob} {k n sz : Nat} {E : TypeId} {els : List P0} {new : Bool} (hk : H k = some (.sl E sz new els)) (hn : n = els.length) : CAr H (.own k 0 n sz) (row false sz els):=by
 have:=cAr_own (H:=H) (j:=0) (n:=n) hk oM
 rwa [List.drop_zero,List.take_of_length_le oM] at this
theorem cell_int {m : Bool} {k : IntKind} {a b : Int} (h : a = b) : Cell.r m (.val (.int k a)) = .r m (.val (.int k b)):=by rw [h]
end Go.Proofs.Ytmkijbfiilpccaa.Abs
