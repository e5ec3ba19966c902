/- Graphs by states: small tests, GraphValid of the reference. No statement of the seat is proved here. -/
import Derived.Lib.Hide
import Derived.Test.YtmkijbfiilpccaaLaTy
import Derived.Test.YtmkijbfiilpccaaLaALaw0
set_option linter.unusedSimpArgs false
set_option linter.unusedVariables false
set_option maxRecDepth 100000
set_option maxHeartbeats 4000000
namespace Go.Proofs.Ytmkijbfiilpccaa.Abs
open Go.RowKit
open R (val row ref)
theorem f_l4Before (a b : E3) : Fn Try.prog 98 [edgeP a,edgeP b] (.v (.one (bool (before a b)))):=by
 refine Z8 (l:=[.tmp 4]) Try.func98 kRf rfl Try.ntmps98 rfl rfl ?_; simp only [argEnv,P0.d,Nat.reduceAdd,edgeP,List.map_cons,List.map_nil]
 repeat' (first|refine wk ?_|(refine wkB ?_ ?_<;>intro hg_<;>try exact wkX)|fail)
 all_goals exact Zab rfl (Zr (by unfold before;(first|(simp_all;done)|(rw [Bool.eq_iff_iff];simp_all;done)|(rw [Bool.eq_iff_iff];simp_all;omega)|(rw [Bool.eq_iff_iff];simp;omega))))
def inU (u v : Int) : Bool:=decide (0 ≤ v ∧ v ≤ u)
theorem Zcp (m : Int) (es : List E3) : gOk m es = (decide (0 ≤ m ∧ m ≤ 16) && decide (es.length ≤ 40) && chain (inU (IntKind.i64.wrap (m - 1))) none es):=by
 unfold gOk
 by_cases h : 0 ≤ m ∧ m ≤ 16
 ·rw [IntWalk.i64_in _ oM,chain_congr (P:=hasV m) (Q:=inU (m - 1)) (fun v=>by unfold hasV inU; rw [Bool.eq_iff_iff]; simp; omega)]
 ·simp [h]
theorem eOk_in (u : Int) (e : E3) : eOk (inU u) e = (inR 0 u e.1 && inR 0 u e.2.1 && decide (e.1 ≠ e.2.1) && inR 0 20 e.2.2):=rfl
theorem prevE_pos {es : List E3} {k : Nat} (h : 0 < k) (hk : k ≤ es.length) : prevE es k = some (es[k - 1]'oM):=by
 obtain ⟨j,rfl⟩ : ∃ j,k = j + 1:=⟨k - 1,by omega⟩
 simp [prevE,show j < es.length by omega]
theorem Zcj (m : Int) (nil : Bool) (es : List E3) (hl : es.length ≤ maxLen) : Fn Try.prog 90 [graphP m nil es] (.v (.one (bool (gOk m es)))):=by
 have hlen:=Zp es
 have hml : es.length ≤ 9223372036854775807:=hl
 refine Z8 (l:=[.tmp 2]) Try.func90 kRf rfl Try.ntmps90 rfl rfl ?_; simp only [argEnv,P0.d,Nat.reduceAdd,graphP,List.map_cons,List.map_nil]
 repeat' (first|refine wk ?_|(refine wkB ?_ ?_<;>intro hg_<;>try exact wkX)|fail)
 refine Zaa (fun k : Nat=>k ≤ es.length ∧ chain (inU (IntKind.i64.wrap (m - 1))) none es = chain (inU (IntKind.i64.wrap (m - 1))) (prevE es k) (es.drop k)) (fun k=>mkS 70 [(3,.one (.r true (int k))),(1,.one (.ptr 1 0 0 0))] [(1,.var 57 [.r false (int m),.r false (row nil 3 (edges es))])]) (fun k=>es.length - k) 0 ⟨Nat.zero_le _,rfl⟩ (by (refine Zi [] rfl ?_ ?_ <;>exact wkW)) ?_
 rintro k ⟨hk,HP⟩
 have hixp : ∀ h : 0 < k,k ≤ es.length → (edges es)[(IntKind.i64.wrap ((k : Int) - 1)).toNat]? = some (edgeP (es[k-1]'oM)):=fun h h'=>by
  rw [IntWalk.i64_in _ oM,show ((k : Int) - 1).toNat = k - 1 by omega]; exact edges_get oM
 have hw1 : 0 < k → 0 ≤ IntKind.i64.wrap ((k : Int) - 1):=fun h=>by rw [IntWalk.i64_in _ oM]; omega
 repeat' (first|refine wk ?_|((first|refine' w_q rfl rfl ?xa rfl ?_|refine' v_q rfl rfl ?xa rfl ?_|refine' Zn rfl rfl (Zb rfl) rfl ?xa rfl ?_|refine' Zo rfl rfl (Zb rfl) rfl ?xa rfl ?_);case xa=>first|exact Zx tbOk rfl rfl rfl rfl (by first|omega|exact hw1 oM) (by first|exact Zbq oM|exact hixp oM oM)|exact Zm (f_l1In _ _ _) rfl ⟨Zf (Za rfl),Zf (Za rfl),Zf (Za rfl),trivial⟩|exact Zm (f_l4Before (_,_,_) (_,_,_)) rfl ⟨Zq (Za rfl) ⟨Zd,Zd,Zd,trivial⟩,Zq (Za rfl) ⟨Zd,Zd,Zd,trivial⟩,trivial⟩)|(refine wkB ?_ ?_<;>intro hg_<;>try exact wkX)|fail)
 ·exact Zab rfl (Zr (by rw [Zcp,HP,Zcl oM,eOk_in]; simp_all))
 ·exact Zab rfl (Zr (by rw [Zcp,HP,Zcl oM,eOk_in]; simp_all))
 ·exact Zab rfl (Zr (by rw [Zcp,HP,Zcl oM,eOk_in]; simp_all))
 ·exact Zab rfl (Zr (by rw [Zcp,HP,Zcl oM,eOk_in]; simp_all))
 ·exact Zab rfl (Zr (by rw [Zcp,HP,Zcl oM,prevE_pos oM hk]; simp_all [ordOk]))
 ·exact ⟨k + 1,⟨by omega,by rw [HP,Zcl oM,eOk_in,prevE_pos oM hk];simp_all [ordOk]⟩,by (refine Zi [] rfl ?_ ?_ <;>exact wkW),by omega⟩
 ·obtain rfl : k = 0:=by omega
  exact ⟨1,⟨by omega,by rw [HP,Zcl oM,eOk_in];simp_all [ordOk,prevE]⟩,by (refine Zi [] rfl ?_ ?_ <;>exact wkW),by omega⟩
 ·exact Zab rfl (Zr (by rw [Zcp,HP,chain_end oM]; unfold inR at *; simp_all; omega))
 ·exact Zab rfl (Zr (by rw [Zcp]; unfold inR at *; simp_all; intros; omega))
end Go.Proofs.Ytmkijbfiilpccaa.Abs
