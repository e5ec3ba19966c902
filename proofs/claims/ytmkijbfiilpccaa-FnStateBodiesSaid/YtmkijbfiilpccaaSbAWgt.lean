/- Weights by states. No statement of the seat is proved here. -/
import Derived.Lib.Hide
import Derived.Test.YtmkijbfiilpccaaSbTy
import Derived.Test.YtmkijbfiilpccaaSbAGraph
set_option linter.unusedSimpArgs false
set_option linter.unusedVariables false
set_option maxRecDepth 100000
set_option maxHeartbeats 4000000
namespace Go.Proofs.Ytmkijbfiilpccaa.Abs
open Go.RowKit
open R (val row ref)
def isE (a b : Int) (e : E3) : Bool:=decide (e.1 = a) && decide (e.2.1 = b)
def wE (es : List E3) (a b : Int) : Int:=match es.find? (isE a b) with | some e=>e.2.2 | none=>-1
def wOf (m : Int) (es : List E3) (a b : Int) : Int:=if gOk m es then wE es a b else -1
theorem wE_drop {es : List E3} {k : Nat} (hk : k < es.length) (a b : Int) : wE (es.drop k) a b = if isE a b es[k] then es[k].2.2 else wE (es.drop (k + 1)) a b:=by
 rw [List.drop_eq_getElem_cons hk]
 unfold wE
 rw [List.find?_cons]
 cases isE a b es[k]<;>rfl
theorem wE_end {es : List E3} {k : Nat} (hk : es.length ≤ k) (a b : Int) : wE (es.drop k) a b = -1:=by
 rw [List.drop_of_length_le hk]; rfl
theorem f_specWeightOf (m : Int) (nil : Bool) (es : List E3) (a b : Int) (hl : es.length ≤ maxLen) : Fn Try.prog 105 [graphP m nil es,iP a,iP b] (.v (iP (wOf m es a b))):=by
 have hlen:=Zp es
 have hml : es.length ≤ 9223372036854775807:=hl
 refine Z7 (l:=[.tmp 6]) Try.func105 kRf rfl Try.ntmps105 rfl rfl ?_; simp only [argEnv,P0.d,Nat.reduceAdd,graphP,List.map_cons,List.map_nil]
 repeat' (first|refine wk ?_|(refine wkB ?_ ?_<;>intro hg_<;>try exact wkX)|fail)
 refine Z8 (fun k : Nat=>k ≤ es.length ∧ wE es a b = wE (es.drop k) a b) (fun k=>mkS 43 [(7,.one (.r true (int k))),(1,.one (.r false (int a))),(2,.one (.r false (int b))),(3,.one (.ptr 3 0 0 0))] [(3,.var 57 [.r false (int m),.r false (row nil 3 (edges es))])]) (fun k=>es.length - k) 0 ⟨Nat.zero_le _,by simp⟩ (by (refine Zi [] rfl ?_ ?_ <;>exact wkW)) ?_
 rintro k ⟨hk,HP⟩
 repeat' (first|refine wk ?_|((first|refine' w_q rfl rfl ?xa rfl ?_|refine' v_q rfl rfl ?xa rfl ?_|refine' Zn rfl rfl (Zb rfl) rfl ?xa rfl ?_|refine' Zo rfl rfl (Zb rfl) rfl ?xa rfl ?_);case xa=>first|exact Z0 tbOk rfl rfl rfl rfl oM (by exact Zbk oM)|exact Zm (Zca _ _ es hl) rfl ⟨Zq (Za rfl) ⟨Zd,Zd,trivial⟩,trivial⟩)|(refine wkB ?_ ?_<;>intro hg_<;>try exact wkX)|fail)
 all_goals first
  | exact Zab rfl (Zx (by unfold wOf; rw [HP,wE_drop oM]; unfold isE; simp_all))
  | exact Zab rfl (Zx (by unfold wOf; rw [HP,wE_end oM]; simp_all))
  | exact Zab rfl (Zx (by unfold wOf; simp_all))
  | exact ⟨k + 1,⟨by omega,by rw [HP,wE_drop oM];unfold isE;simp_all⟩,by (refine Zi [] rfl ?_ ?_ <;>exact wkW),by omega⟩
end Go.Proofs.Ytmkijbfiilpccaa.Abs
