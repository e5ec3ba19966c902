/- A store to one cell of an element of a row of the call's own. No statement of the seat is proved here. -/
import Derived.Lib.Hide
import Derived.Test.YtmkijbfiilpccaaXlTy
import Derived.Test.YtmkijbfiilpccaaXlAbsX
set_option linter.unusedSimpArgs false
set_option linter.unusedVariables false
namespace Go.Proofs.Ytmkijbfiilpccaa.Abs
open Go.RowKit
open R (val row ref)
def setF (e : P0) (off : Nat) (r : R) : P0:=match e with
 | .agg rs=>.agg (rs.set off r)
 | .one _=>.one r
theorem setF_rs {e : P0} {off : Nat} {r : R} (h : off < e.n) : (setF e off r).rs = e.rs.set off r:=by
 cases e with
 | one x =>
  have : off = 0:=by simp [P0.n,P0.rs] at h; exact h
  subst this; rfl
 | agg rs=>rfl
theorem setF_n {e : P0} {off : Nat} {r : R} (h : off < e.n) : (setF e off r).n = e.n:=by unfold P0.n; rw [setF_rs h,List.length_set]
theorem eff_storeF {P : Program} {H : Nat → Option Ob} {ev : Operand → D} {o : Oper} {k sz i off : Nat} {ag : Bool} {d : D} {E : TypeId} {new m : Bool} {els : List P0} {e : P0} {r0 : R} (t : TypeId) (x y : Operand) (ho : o.op = .store t x y) (hd : o.dst = none) (hx : ev x = .one (.ptr k i sz off)) (hk : H k = some (.sl E sz new els)) (hT : tyOf P t = some (ag,1)) (hi : els[i]? = some e) (hy : ev y = d) (he : dP d = some (m,.one r0)) (hoff : off < sz) :
  Eff P H ev o .any [k] [] [(k,some (.sl E sz (new && m) (els.set i (setF e off r0))))]:=by
 intro base a w ι own hown hbase hev hH _ K Q hK
 have hil : i < els.length:=(List.getElem?_eq_some_iff.1 hi).1
 have hx1:=hev x (by rw [ho]; simp [Op.operands])
 rw [hx] at hx1
 have hx2 : a.eval x = .pointer (some ⟨(ι k).1,(ι k).2 + (i * sz + off),none⟩):=hx1
 have hv:=hev y (by rw [ho]; simp [Op.operands])
 rw [hy] at hv
 obtain ⟨g1,g2⟩:=dP_ok he hv
 obtain ⟨hko,arr,e1,e2,e3⟩:=hH k _ hk
 have hle : (ι k).2 + (i * sz + off) + 1 ≤ arr.size:=by
  have : (i + 1) * sz ≤ els.length * sz:=Nat.mul_le_mul_right _ hil
  rw [Nat.add_mul] at this
  omega
 have g1' : (a.eval y).cells.size = 1:=g1
 obtain ⟨u0,hu0,hr0⟩:=g2 0 r0 rfl
 obtain ⟨w',arr',f1,f2,f3,f4,f5,f6⟩:=storeVar_run (P:=P) (o:=(ι k).2 + (i * sz + off)) hT w arr g1' (fun j u hj=>by
  have hj0 : j = 0:=by
   rcases Nat.lt_or_ge j (a.eval y).cells.size with h | h
   ·omega
   ·rw [Array.getElem?_eq_none h] at hj; cases hj
  subst hj0
  rw [hu0] at hj; injection hj with hj; subst hj; exact R.one _ hr0) e1 hle
 have hrun : (execOp a.eval o).run P w = .ok .skip w':=by
  unfold execOp
  rw [ho]
  simp [hx2,Instr.storeAt,Instr.sureAddr,f1]
 unfold Oper.wp
 rw [hrun,Oper.upon_skip,hd]
 have hsz : Sized w w':=fun b ar T hb=>by
  by_cases hbk : b = (ι k).1
  ·subst hbk
   have e1' : w.heap[(ι k).1]? = some (.cells arr E (0,0)):=e1
   rw [e1'] at hb
   injection hb with hb
   injection hb with hb1 hb2
   subst hb1 hb2
   exact ⟨arr',f2,f3⟩
  ·exact ⟨ar,by rw [f5.block b (lt_of_heap hb) (fun e=>by injection e with e; exact hbk e)]; exact hb,rfl⟩
 have hK':=hK undef
 rw [hd] at hK'
 have hxx:=ext_write (own:=own) hko f5 f6
 refine hK' _ _ _ (Chg.write hown hko f5 f6 hsz ⟨arr',f2,by rw [f3,List.length_set]; exact e2,fun q ee hq=>?_⟩)
 rw [List.getElem?_set] at hq
 by_cases hiq : i = q
 ·subst hiq
  rw [if_pos rfl,if_pos hil] at hq
  injection hq with hq
  subst hq
  obtain ⟨p1,p2⟩:=e3 i e hi
  refine ⟨by rw [setF_n (by rw [p1]; exact hoff)]; exact p1,fun j r hj=>?_⟩
  rw [setF_rs (by rw [p1]; exact hoff),List.getElem?_set] at hj
  by_cases hjo : off = j
  ·subst hjo
   rw [if_pos rfl,if_pos (by have:=p1; unfold P0.n at this; omega)] at hj
   injection hj with hj
   subst hj
   refine ⟨u0,by rw [f4,if_pos ⟨by omega,by omega⟩,show (ι k).2 + (i * sz + off) - ((ι k).2 + (i * sz + off)) = 0 by omega]; exact hu0,?_⟩
   exact r0.mono ((Zbc (fun e=>by simp at e; exact e.2)).trans (hxx.young _ _)) hr0
  ·rw [if_neg hjo] at hj
   obtain ⟨u,hu,hr⟩:=p2 j r hj
   refine ⟨u,?_,r.mono ((Zbc (fun e=>by simp at e; exact e.1)).trans (hxx.young _ _)) hr⟩
   rw [f4,if_neg oM]
   exact hu
 ·rw [if_neg hiq] at hq
  obtain ⟨p1,p2⟩:=e3 q ee hq
  refine ⟨p1,fun j r hj=>?_⟩
  obtain ⟨u,hu,hr⟩:=p2 j r hj
  have hjs : j < sz:=by
   rw [← p1]
   rcases Nat.lt_or_ge j ee.rs.length with h | h
   ·exact h
   ·rw [List.getElem?_eq_none h] at hj; cases hj
  refine ⟨u,?_,r.mono ((Zbc (fun e=>by simp at e; exact e.1)).trans (hxx.young _ _)) hr⟩
  rw [f4,if_neg ?_]
  ·exact hu
  ·intro hh
   rcases Nat.lt_or_ge q i with h | h
   ·have : (q + 1) * sz ≤ i * sz:=Nat.mul_le_mul_right _ h
    rw [Nat.add_mul] at this
    omega
   ·have : (i + 1) * sz ≤ q * sz:=Nat.mul_le_mul_right _ oM
    rw [Nat.add_mul] at this
    omega
theorem e_storeF {P : Program} {tb : TB} {l : List (Nat × D)} {h : List (Nat × Ob)} {o : Oper} {k sz i off : Nat} {ag : Bool} {d : D} {E : TypeId} {T : TypeId} {x y : Operand} {new m : Bool} {els : List P0} {e : P0} {r0 : R} (hT : TbOk P tb) (ho : o.op = .store T x y) (hd : o.dst = none) (hx : evO l x = some (.one (.ptr k i sz off))) (hk : lookHO h k = some (.sl E sz new els)) (hty : tyL tb.tys T = some (ag,1)) (hi : els[i]? = some e) (hy : evO l y = some d) (he : dP d = some (m,.one r0)) (hoff : off < sz) :
  Eff P (lookH h) (evD (look l)) o .any [k] [] [(k,some (.sl E sz (new && m) (els.set i (setF e off r0))))]:=eff_storeF T x y ho hd (Za hx) (Zf hk) (tyL_ok hT.ty hty) hi (Za hy) he hoff
end Go.Proofs.Ytmkijbfiilpccaa.Abs
