/- FnExactLastCheckpoint by states: the law's walk. No statement of the seat is proved here. -/
import Derived.Lib.Hide
import Derived.Test.YtmkijbfiilpccaaXlTy
import Derived.Test.YtmkijbfiilpccaaXlAExX
import Derived.Test.YtmkijbfiilpccaaXlAImPL
import Derived.Test.YtmkijbfiilpccaaXlLRecX
set_option linter.unusedSimpArgs false
set_option linter.unusedVariables false
set_option maxRecDepth 100000
set_option maxHeartbeats 16000000
namespace Go.Proofs.Ytmkijbfiilpccaa.Abs
open Go.RowKit
open R (val row ref)
open Go.RowKit
theorem f_eqIntSSS (n1 n2 : Bool) (L : List (List Int)) (hl : L.length ≤ 1048576) (hb : ∀ b ∈ L,b.length ≤ 1048576) : FnS Try.prog 11 [.one (.r false (row n1 1 (rowsI L))),.one (.r false (row n2 1 (rowsI L)))] [] (.one (.r true (bool true))) []:=by
 have hlen:=Zag L
 refine Zac (l:=[.tmp 4]) Try.func11 kRf rfl Try.ntmps11 rfl rfl ?_; simp only [dEnv,Nat.reduceAdd]
 repeat' (first|refine wk ?_|(refine wkB ?_ ?_<;>intro hg_<;>try exact wkX)|fail)
 refine Z7 (fun k : Nat=>k ≤ L.length) (fun k=>mkS 27 [(5,.one (.r true (int k))),(0,.one (.r false (row n1 1 (rowsI L)))),(1,.one (.r false (row n2 1 (rowsI L))))] []) (fun k=>L.length - k) 0 (Nat.zero_le _) (by (refine Zg [] rfl ?_ ?_ <;>exact wkW)) ?_
 intro k hk
 by_cases hlt : k < L.length
 ·have hix:=Za3 hlt
  have KQ:=f_eqIntS false false L[k] (hb _ (List.getElem_mem hlt))
  have hw : IntKind.i64.wrap ((k : Int) + 1) = ((k + 1 : Nat) : Int):=by rw [IntWalk.i64_in _ oM]; omega
  generalize L[k] = b at *
  repeat' (first|refine wk ?_|((first|refine' w_q rfl rfl ?xa rfl ?_|refine' v_q rfl rfl ?xa rfl ?_|refine' Zh rfl rfl (Zb rfl) rfl ?xa rfl ?_|refine' Zi rfl rfl (Zb rfl) rfl ?xa rfl ?_);case xa=>first|exact Zn tbOk rfl rfl rfl rfl oM (by exact hix)|exact Ze KQ rfl ⟨Zd (Za rfl),Zd (Za rfl),trivial⟩)|(refine wkB ?_ ?_<;>intro hg_<;>try exact wkX)|fail)
  all_goals first
   | exact ⟨k + 1,by omega,by (refine Zg [] rfl ?_ ?_<;>repeat' (first|refine wkS ?_ ?_|exact wkE|exact Zq hw)),by omega⟩
 ·repeat' (first|refine wk ?_|(refine wkB ?_ ?_<;>intro hg_<;>try exact wkX)|fail)
  all_goals first
   | exact Zu [] rfl sbH (retD_tmp rfl (Zak rfl))
theorem exL_ZZ (nil : Bool) (LN : List (Bool × List Int)) (hl : LN.length ≤ 1048576) (hlb : ∀ z ∈ LN,z.2.length ≤ 1048576) (hsz : 0 ≤ szSS 1048576 LN) (r : Int) (b : Bool) (nv ng nm : Bool)
  (KS : Fn Try.prog 7 [.one (row false 1 (rowsI (snds LN)))] (.tup [stateP r nv [] ng [] nm [],.one (bool b)]))
  (KI : FnS Try.prog 9 [.one (.r false (row false 1 (rowsI (snds LN))))] [] (.tups [(true,[.r true (int r),ZcX,ZcX,ZcX]),(false,[.r true (bool b)])]) []) :
  Fn Try.prog 3 [.one (row nil 1 (rowsN LN))] (.v (.one (bool true))):=by
 have KZ:=f_szIntSS nil LN 1048576 (by simp only [maxLen]; omega) (fun z hz=>by have:=hlb z hz; simp only [maxLen]; omega) oM oM
 have KT:=f_toIntSS nil LN hl hlb
 have hsl : (snds LN).length = LN.length:=Zbo LN
 have hsb : ∀ x ∈ snds LN,x.length ≤ 1048576:=fun x hx=>by unfold snds at hx; rw [List.mem_map] at hx; obtain ⟨y,hy,rfl⟩:=hx; exact hlb y hy
 have KE:=f_eqIntSSS false false (snds LN) oM hsb
 have KQS:=f_eqState r true true true nv ng nm [] [] [] (by simp) (by simp) (by simp)
 have KMS:=f_markStZZ r 1 true true true
 have KH:=f_heldStZZ r true true true 1 oM oM
 generalize szSS 1048576 LN = zz at *
 refine ⟨Za1 Try.func3 kRf rfl,fun w vs_ hG hA=>?_⟩
 refine (callsIn_wide (n:=9)).1 ?_
 refine callsIn_of_wp Try.func3 rfl trivial ?_ rfl
 have hsim:=sim_start (fn:=Try.f3) Try.ntmps3 rfl hG hA
 simp only [argEnv,P0.d,Nat.reduceAdd] at hsim
 refine wpIn_seq (Zai (Q:=fun e s'=>e = .normal ∧ Weak s' (mkS 96 [(0,.one (.r false (row nil 1 (rowsN LN))))] [])) ?_ hsim ?_)
 ·repeat' (first|refine wk ?_|(refine wkB ?_ ?_<;>intro hg_<;>try exact wkX)|fail)
  all_goals first
   | exact ⟨rfl,by (refine Zg [] rfl ?_ ?_ <;>exact wkW)⟩
   | (exfalso;first|omega|(simp at hg_;done))
 rintro e s_ a_ w_ ⟨rfl,hw_⟩ hs_
 replace hsim:=hw_ _ _ _ hs_
 clear hw_ hs_ s_
 refine wpIn_seq (Zai (Q:=fun e s'=>e = .normal ∧ Weak s' (mkS 96 [(3,.one (.r true (int 1048576))),(0,.one (.r false (row nil 1 (rowsN LN))))] [])) ?_ hsim ?_)
 ·repeat' (first|refine wk ?_|(refine wkB ?_ ?_<;>intro hg_<;>try exact wkX)|fail)
  all_goals first
   | exact ⟨rfl,by (refine Zg [] rfl ?_ ?_ <;>exact wkW)⟩
   | (exfalso;first|omega|(simp at hg_;done))
 rintro e s_ a_ w_ ⟨rfl,hw_⟩ hs_
 replace hsim:=hw_ _ _ _ hs_
 clear hw_ hs_ s_
 refine wpIn_seq (Zai (Q:=fun e s'=>e = .normal ∧ Weak s' (mkS 96 [(3,.one (.r true (int zz))),(0,.one (.r false (row nil 1 (rowsN LN))))] [])) ?_ hsim ?_)
 ·repeat' (first|refine wk ?_|((first|refine' w_q rfl rfl ?xa rfl ?_|refine' v_q rfl rfl ?xa rfl ?_|refine' Zh rfl rfl (Zb rfl) rfl ?xa rfl ?_|refine' Zi rfl rfl (Zb rfl) rfl ?xa rfl ?_);case xa=>exact Ze KZ rfl ⟨Zd (Za rfl),Zd (Za rfl),trivial⟩)|(refine wkB ?_ ?_<;>intro hg_<;>try exact wkX)|fail)
  all_goals first
   | exact ⟨rfl,by (refine Zg [] rfl ?_ ?_ <;>exact wkW)⟩
   | (exfalso;first|omega|(simp at hg_;done))
 rintro e s_ a_ w_ ⟨rfl,hw_⟩ hs_
 replace hsim:=hw_ _ _ _ hs_
 clear hw_ hs_ s_
 refine wpIn_seq (Zai (Q:=fun e s'=>e = .normal ∧ Weak s' (mkS 96 [(0,.one (.r false (row nil 1 (rowsN LN))))] [])) ?_ hsim ?_)
 ·repeat' (first|refine wk ?_|(refine wkB ?_ ?_<;>intro hg_<;>try exact wkX)|fail)
  all_goals first
   | exact ⟨rfl,by (refine Zg [] rfl ?_ ?_ <;>exact wkW)⟩
   | (exfalso;first|omega|(simp at hg_;done))
 rintro e s_ a_ w_ ⟨rfl,hw_⟩ hs_
 replace hsim:=hw_ _ _ _ hs_
 clear hw_ hs_ s_
 refine wpIn_seq (Zai (Q:=fun e s'=>e = .normal ∧ Weak s' (mkS 96 [(0,.one (.r false (row nil 1 (rowsN LN)))),(4,.one (.ptr 4 0 0 0)),(5,.one (.r true (bool b)))] [(4,.var 28 [.r true (int r),.r true (row nv 1 (ints [])),.r true (row ng 1 (bools [])),.r true (row nm 3 (edges []))])])) ?_ hsim ?_)
 ·repeat' (first|refine wk ?_|((first|refine' w_q rfl rfl ?xa rfl ?_|refine' v_q rfl rfl ?xa rfl ?_|refine' Zh rfl rfl (Zb rfl) rfl ?xa rfl ?_|refine' Zi rfl rfl (Zb rfl) rfl ?xa rfl ?_);case xa=>first|exact Ze KT rfl ⟨Zd (Za rfl),trivial⟩|exact Ze KS rfl ⟨Zd (Za rfl),trivial⟩)|(refine wkB ?_ ?_<;>intro hg_<;>try exact wkX)|fail)
  all_goals first
   | exact ⟨rfl,by (refine Zg [] rfl ?_ ?_ <;>exact wkW)⟩
   | (exfalso;first|omega|(simp at hg_;done))
 rintro e s_ a_ w_ ⟨rfl,hw_⟩ hs_
 replace hsim:=hw_ _ _ _ hs_
 clear hw_ hs_ s_
 -- the copy that is handed over and marked
 refine wpIn_seq (wpIn_region_lit ?_)
 refine (show wpListIn Fence.wide 9 Try.prog _ _ ([_] ++ [_,_]) _ _ from Zaj (Z:=fun _=>true) (K:=fun s'=>Weak s' (mkS 96 [(25,.one (.r false (row nil 1 (rowsN LN)))),(0,.one (.r false (row nil 1 (rowsN LN)))),(4,.one (.ptr 4 0 0 0)),(5,.one (.r true (bool b)))] [(4,.var 28 [.r true (int r),.r true (row nv 1 (ints [])),.r true (row ng 1 (bools [])),.r true (row nm 3 (edges []))])])) [_,_] (fun s4 a4 w4 hK4 hs4=>?_) [_] _ ?_ _ _ hsim)
 rotate_left
 ·repeat' (first|refine wk ?_|(refine wkB ?_ ?_<;>intro hg_<;>try exact wkX)|fail)
  all_goals first
   | ((refine Zg [] rfl ?_ ?_ <;>exact wkW);done)
 obtain ⟨ι,own,hs⟩:=hK4 _ _ _ hs4
 clear hK4 hs4 s4 hsim
 have h25 : R.p (row nil 1 (rowsN LN)) ⟨w4,own⟩ (a4.tmps.getD 25 undef):=hs.env 25
 have h25' : R.p (row nil 1 (rowsN LN)) ⟨w4,fun _=>False⟩ (a4.tmps.getD 25 undef):=R.mono _ (c:=⟨w4,own⟩) (c':=⟨w4,fun _=>False⟩) (Cx.Ext.sub rfl (fun b h=>h.elim)) h25
 obtain ⟨ao,b0_,o0_,c0_,us,hu25,hat,hra,hus⟩:=rowsN_argV h25'
 have hz4 : w.heap.size ≤ w4.heap.size:=hs.below.size
 have hBw : Below w.heap.size w w4:=hs.below.below0
 have hlbD : ∀ j,j < LN.length → (LN.getD j default).2.length ≤ 1048576:=fun j hj=>by
  rw [List.getD_eq_getElem?_getD,List.getElem?_eq_getElem hj]
  exact hlb _ (List.getElem_mem hj)
 refine wpListIn_plain rfl fun K hK=>call_op1 rfl (show a4.eval (.tmp 25) = .slice ao LN.length c0_ from hu25) (Za1 Try.func8 kRf rfl) (lawsToIntSS ao c0_ b0_ o0_ LN us w4 hl hlb hat hra hus) ?_
 rintro e A ⟨g,cc,rfl,hX,hBA⟩
 refine ⟨_,rfl,hK _ _ ?_⟩
 have hs6:=sim_make (v6:=.slice (some ⟨w4.heap.size,0,none⟩) LN.length LN.length) rfl hs hBA
 refine (show wpListIn Fence.wide 9 Try.prog _ _ ([_] ++ []) _ _ from Zaj (Z:=fun _=>true) (K:=fun s'=>Weak s' (mkS 96 [(6,.one (.r true (R.val (.slice (some ⟨w4.heap.size,0,none⟩) LN.length LN.length)))),(0,.one (.r false (row nil 1 (rowsN LN)))),(4,.one (.r true (R.ref (.agg [int r,row nv 1 (ints []),row ng 1 (bools []),row nm 3 (edges [])])))),(5,.one (.r true (bool b)))] [])) [] (fun s_ a_ w_ hw_ hs_=>wpListIn_nil ?_) [_] _ ?_ _ _ ⟨ι,_,hs6⟩)
 rotate_left
 ·repeat' (first|refine wk ?_|(refine wkB ?_ ?_<;>intro hg_<;>try exact wkX)|fail)
  all_goals first
   | ((refine Zg [] rfl ?_ ?_ <;>exact wkW);done)
 replace hsim:=hw_ _ _ _ hs_
 clear hw_ hs_ s_ hs6 hs K hK
 -- the program's answer
 refine wpIn_seq (wpIn_region_lit ?_)
 refine (show wpListIn Fence.wide 9 Try.prog _ _ ([_] ++ [_,_,_,_,_,_,_]) _ _ from Zaj (Z:=fun _=>true) (K:=fun s'=>Weak s' (mkS 96 [(28,.one (.r true (R.val (.slice (some ⟨w4.heap.size,0,none⟩) LN.length LN.length)))),(6,.one (.r true (R.val (.slice (some ⟨w4.heap.size,0,none⟩) LN.length LN.length)))),(0,.one (.r false (row nil 1 (rowsN LN)))),(4,.one (.r true (R.ref (.agg [int r,row nv 1 (ints []),row ng 1 (bools []),row nm 3 (edges [])])))),(5,.one (.r true (bool b)))] [])) [_,_,_,_,_,_,_] (fun s7 a7 w7 hK7 hs7'=>?_) [_] _ ?_ _ _ hsim)
 rotate_left
 ·repeat' (first|refine wk ?_|(refine wkB ?_ ?_<;>intro hg_<;>try exact wkX)|fail)
  all_goals first
   | ((refine Zg [] rfl ?_ ?_ <;>exact wkW);done)
 obtain ⟨ι7,own7,hs7⟩:=hK7 _ _ _ hs7'
 clear hK7 hs7' s7 hsim
 have e28 : a7.eval (.tmp 28) = .slice (some ⟨w4.heap.size,0,none⟩) LN.length LN.length:=((Zx (c:=Cx.young ⟨w7,own7⟩ w.heap.size true)).1 (hs7.env 28)).1
 have hrow7 : ∀ (W : World),(A.grownBy W none) → R.p (row false 1 (rowsI (snds LN))) ⟨W,fun _=>False⟩ (.slice (some ⟨w4.heap.size,0,none⟩) LN.length LN.length):=fun W hg=>xok_row hX hl (fun b hb=>hg.block b hb (by simp)) hg.size
 refine wpListIn_plain rfl fun K hK=>op_wide (x_callS0 (xs:=[.tmp 28]) (ys:=[.one (row false 1 (rowsI (snds LN)))]) (base:=w.heap.size) (ι:=ι7) (own:=own7) [] KI rfl rfl rfl rfl hs7.own_ ⟨Nat.le_trans hs7.base_.1 hs7.below.size,Glob.triv _ _⟩ ⟨by rw [e28]; exact hrow7 w7 (Zam hs7),trivial⟩ ?_)
 intro v8 w8 ι8 own8 hc8
 have hs8 : Sim' (bsI A (XB w4.heap.size A.heap.size) w.heap.size) (mkS 96 [(29,.tups [(true,[.r true (int r),ZcX,ZcX,ZcX]),(false,[.r true (bool b)])]),(28,.one (.r true (R.val (.slice (some ⟨w4.heap.size,0,none⟩) LN.length LN.length)))),(6,.one (.r true (R.val (.slice (some ⟨w4.heap.size,0,none⟩) LN.length LN.length)))),(0,.one (.r false (row nil 1 (rowsN LN)))),(4,.one (.r true (R.ref (.agg [int r,row nv 1 (ints []),row ng 1 (bools []),row nm 3 (edges [])])))),(5,.one (.r true (bool b)))] []) (a7.put (some 29) v8) w8 ι8 own8:=sim_app (t:=29) hs7 hc8 rfl
 refine hK _ _ ?_
 refine (show wpListIn Fence.wide 9 Try.prog _ _ ([_,_,_,_,_,_] ++ []) _ _ from Zaj (Z:=fun _=>true) (K:=fun s'=>Weak s' (mkS 96 [(8,.one (.r true (bool b))),(7,.one (.ptr 7 0 0 0)),(6,.one (.r true (R.val (.slice (some ⟨w4.heap.size,0,none⟩) LN.length LN.length)))),(0,.one (.r false (row nil 1 (rowsN LN)))),(4,.one (.r true (R.ref (.agg [int r,row nv 1 (ints []),row ng 1 (bools []),row nm 3 (edges [])])))),(5,.one (.r true (bool b)))] [(7,.var 28 [.r true (int r),ZcX,ZcX,ZcX])])) [] (fun s_ a_ w_ hw_ hs_=>wpListIn_nil ?_) [_,_,_,_,_,_] _ ?_ _ _ ⟨ι8,own8,hs8⟩)
 rotate_left
 ·repeat' (first|refine wk ?_|(refine wkB ?_ ?_<;>intro hg_<;>try exact wkX)|fail)
  all_goals first
   | ((refine Zg [] rfl ?_ ?_ <;>exact wkW);done)
 replace hsim:=hw_ _ _ _ hs_
 clear hw_ hs_ s_ hs8 hs7 hc8 K hK e28
 refine wpIn_seq (Zai (Q:=fun e s'=>e = .normal ∧ Weak s' (mkS 96 [(8,.one (.r true (bool b))),(7,.one (.ptr 7 0 0 0)),(6,.one (.r true (R.val (.slice (some ⟨w4.heap.size,0,none⟩) LN.length LN.length)))),(0,.one (.r false (row nil 1 (rowsN LN)))),(4,.one (.r true (R.ref (.agg [int r,row nv 1 (ints []),row ng 1 (bools []),row nm 3 (edges [])])))),(5,.one (.r true (bool b)))] [(7,.var 28 [.r true (int r),ZcX,ZcX,ZcX])])) ?_ hsim ?_)
 ·repeat' (first|refine wk ?_|((first|refine' w_q rfl rfl ?xa rfl ?_|refine' v_q rfl rfl ?xa rfl ?_|refine' Zh rfl rfl (Zb rfl) rfl ?xa rfl ?_|refine' Zi rfl rfl (Zb rfl) rfl ?xa rfl ?_);case xa=>first|exact Ze KQS rfl ⟨Zw (Za rfl) ⟨Zk,Z5,Z5,Z5,trivial⟩,Zw (Za rfl) ⟨Zk,Zk,Zk,Zk,trivial⟩,trivial⟩|exact k_neB bo4 rfl rfl rfl)|(refine wkB ?_ ?_<;>intro hg_<;>try exact wkX)|fail)
  all_goals first
   | exact ⟨rfl,by (refine Zg [] rfl ?_ ?_ <;>exact wkW)⟩
   | (exfalso;first|omega|(simp at hg_;done))
 rintro e s_ a_ w_ ⟨rfl,hw_⟩ hs_
 replace hsim:=hw_ _ _ _ hs_
 clear hw_ hs_ s_
 -- the argument is as it was
 refine wpIn_seq (wpIn_seq (wpIn_region_lit ?_))
 refine (show wpListIn Fence.wide 9 Try.prog _ _ ([_,_,_] ++ [_,_]) _ _ from Zaj (Z:=fun _=>true) (K:=fun s'=>Weak s' (mkS 96 [(43,.one (.r true (row false 1 (rowsI (snds LN))))),(41,.one (.r true (R.val (.slice (some ⟨w4.heap.size,0,none⟩) LN.length LN.length)))),(8,.one (.r true (bool b))),(7,.one (.ptr 7 0 0 0)),(6,.one (.r true (R.val (.slice (some ⟨w4.heap.size,0,none⟩) LN.length LN.length)))),(0,.one (.r false (row nil 1 (rowsN LN)))),(4,.one (.r true (R.ref (.agg [int r,row nv 1 (ints []),row ng 1 (bools []),row nm 3 (edges [])])))),(5,.one (.r true (bool b)))] [(7,.var 28 [.r true (int r),ZcX,ZcX,ZcX])])) [_,_] (fun s7 a7 w7 hK7 hs7'=>?_) [_,_,_] _ ?_ _ _ hsim)
 rotate_left
 ·repeat' (first|refine wk ?_|((first|refine' w_q rfl rfl ?xa rfl ?_|refine' v_q rfl rfl ?xa rfl ?_|refine' Zh rfl rfl (Zb rfl) rfl ?xa rfl ?_|refine' Zi rfl rfl (Zb rfl) rfl ?xa rfl ?_);case xa=>exact Ze KT rfl ⟨Zd (Za rfl),trivial⟩)|(refine wkB ?_ ?_<;>intro hg_<;>try exact wkX)|fail)
  all_goals first
   | ((refine Zg [] rfl ?_ ?_ <;>exact wkW);done)
 obtain ⟨ι7,own7,hs7⟩:=hK7 _ _ _ hs7'
 clear hK7 hs7' s7 hsim
 have e41 : a7.eval (.tmp 41) = .slice (some ⟨w4.heap.size,0,none⟩) LN.length LN.length:=((Zx (c:=Cx.young ⟨w7,own7⟩ w.heap.size true)).1 (hs7.env 41)).1
 have e43 : R.p (row false 1 (rowsI (snds LN))) (Cx.young ⟨w7,own7⟩ w.heap.size true) (a7.eval (.tmp 43)):=hs7.env 43
 refine wpListIn_plain rfl fun K hK=>op_wide (x_callS0 (xs:=[.tmp 41,.tmp 43]) (ys:=[.one (row false 1 (rowsI (snds LN))),.one (row false 1 (rowsI (snds LN)))]) (base:=w.heap.size) (ι:=ι7) (own:=own7) [] KE rfl rfl rfl rfl hs7.own_ ⟨Nat.le_trans hs7.base_.1 hs7.below.size,Glob.triv _ _⟩ ⟨by rw [e41]; exact hrow7 w7 (Zam hs7),R.mono _ (c:=Cx.young ⟨w7,own7⟩ w.heap.size true) (c':=⟨w7,fun _=>False⟩) (Cx.Ext.sub rfl (fun b h=>h.elim)) e43,trivial⟩ ?_)
 intro v8 w8 ι8 own8 hc8
 have hs8 : Sim' (bsI A (XB w4.heap.size A.heap.size) w.heap.size) (mkS 96 [(44,.one (.r true (bool true))),(43,.one (.r true (row false 1 (rowsI (snds LN))))),(41,.one (.r true (R.val (.slice (some ⟨w4.heap.size,0,none⟩) LN.length LN.length)))),(8,.one (.r true (bool b))),(7,.one (.ptr 7 0 0 0)),(6,.one (.r true (R.val (.slice (some ⟨w4.heap.size,0,none⟩) LN.length LN.length)))),(0,.one (.r false (row nil 1 (rowsN LN)))),(4,.one (.r true (R.ref (.agg [int r,row nv 1 (ints []),row ng 1 (bools []),row nm 3 (edges [])])))),(5,.one (.r true (bool b)))] [(7,.var 28 [.r true (int r),ZcX,ZcX,ZcX])]) (a7.put (some 44) v8) w8 ι8 own8:=sim_app (t:=44) hs7 hc8 rfl
 refine hK _ _ ?_
 refine (show wpListIn Fence.wide 9 Try.prog _ _ ([_] ++ []) _ _ from Zaj (Z:=fun _=>true) (K:=fun s'=>Weak s' (mkS 96 [(45,.one (.r true (bool false))),(8,.one (.r true (bool b))),(7,.one (.ptr 7 0 0 0)),(6,.one (.r true (R.val (.slice (some ⟨w4.heap.size,0,none⟩) LN.length LN.length)))),(0,.one (.r false (row nil 1 (rowsN LN)))),(4,.one (.r true (R.ref (.agg [int r,row nv 1 (ints []),row ng 1 (bools []),row nm 3 (edges [])])))),(5,.one (.r true (bool b)))] [(7,.var 28 [.r true (int r),ZcX,ZcX,ZcX])])) [] (fun s_ a_ w_ hw_ hs_=>wpListIn_nil ?_) [_] _ ?_ _ _ ⟨ι8,own8,hs8⟩)
 rotate_left
 ·repeat' (first|refine wk ?_|(refine wkB ?_ ?_<;>intro hg_<;>try exact wkX)|fail)
  all_goals first
   | ((refine Zg [] rfl ?_ ?_ <;>exact wkW);done)
 replace hsim:=hw_ _ _ _ hs_
 clear hw_ hs_ s_ hs8 hs7 hc8 K hK e41 e43
 refine Zai (Q:=fun e s'=>e = .normal ∧ Weak s' (mkS 96 [(8,.one (.r true (bool b))),(7,.one (.ptr 7 0 0 0)),(6,.one (.r true (R.val (.slice (some ⟨w4.heap.size,0,none⟩) LN.length LN.length)))),(0,.one (.r false (row nil 1 (rowsN LN)))),(4,.one (.r true (R.ref (.agg [int r,row nv 1 (ints []),row ng 1 (bools []),row nm 3 (edges [])])))),(5,.one (.r true (bool b)))] [(7,.var 28 [.r true (int r),ZcX,ZcX,ZcX])])) ?_ hsim ?_
 ·repeat' (first|refine wk ?_|(refine wkB ?_ ?_<;>intro hg_<;>try exact wkX)|fail)
  all_goals first
   | exact ⟨rfl,by (refine Zg [] rfl ?_ ?_ <;>exact wkW)⟩
   | (exfalso;first|omega|(simp at hg_;done))
 rintro e s_ a_ w_ ⟨rfl,hw_⟩ hs_
 replace hsim:=hw_ _ _ _ hs_
 clear hw_ hs_ s_
 refine wpIn_seq (Zai (Q:=fun e s'=>e = .normal ∧ Weak s' (mkS 96 [(9,.one (.r true (int 1))),(8,.one (.r true (bool b))),(7,.one (.ptr 7 0 0 0)),(6,.one (.r true (R.val (.slice (some ⟨w4.heap.size,0,none⟩) LN.length LN.length)))),(0,.one (.r false (row nil 1 (rowsN LN)))),(4,.one (.r true (R.ref (.agg [int r,row nv 1 (ints []),row ng 1 (bools []),row nm 3 (edges [])])))),(5,.one (.r true (bool b)))] [(7,.var 28 [.r true (int r),ZcX,ZcX,ZcX])])) ?_ hsim ?_)
 ·repeat' (first|refine wk ?_|(refine wkB ?_ ?_<;>intro hg_<;>try exact wkX)|fail)
  all_goals first
   | exact ⟨rfl,by (refine Zg [] rfl ?_ ?_ <;>exact wkW)⟩
   | (exfalso;first|omega|(simp at hg_;done))
 rintro e s_ a_ w_ ⟨rfl,hw_⟩ hs_
 replace hsim:=hw_ _ _ _ hs_
 clear hw_ hs_ s_
 -- the marks
 refine wpIn_seq (wpIn_region_lit ?_)
 refine (show wpListIn Fence.wide 9 Try.prog _ _ ([_,_] ++ [_,_]) _ _ from Zaj (Z:=fun _=>true) (K:=fun s'=>Weak s' (mkS 96 [(47,.one (.r true (int 1))),(46,.one (.r true (R.val (.slice (some ⟨w4.heap.size,0,none⟩) LN.length LN.length)))),(8,.one (.r true (bool b))),(7,.one (.ptr 7 0 0 0)),(6,.one (.r true (R.val (.slice (some ⟨w4.heap.size,0,none⟩) LN.length LN.length)))),(0,.one (.r false (row nil 1 (rowsN LN)))),(4,.one (.r true (R.ref (.agg [int r,row nv 1 (ints []),row ng 1 (bools []),row nm 3 (edges [])])))),(5,.one (.r true (bool b)))] [(7,.var 28 [.r true (int r),ZcX,ZcX,ZcX])])) [_,_] (fun s7 a7 w7 hK7 hs7'=>?_) [_,_] _ ?_ _ _ hsim)
 rotate_left
 ·repeat' (first|refine wk ?_|(refine wkB ?_ ?_<;>intro hg_<;>try exact wkX)|fail)
  all_goals first
   | ((refine Zg [] rfl ?_ ?_ <;>exact wkW);done)
 obtain ⟨ι7,own7,hs7⟩:=hK7 _ _ _ hs7'
 clear hK7 hs7' s7 hsim
 have e46 : a7.eval (.tmp 46) = .slice (some ⟨w4.heap.size,0,none⟩) LN.length LN.length:=((Zx (c:=Cx.young ⟨w7,own7⟩ w.heap.size true)).1 (hs7.env 46)).1
 have e47 : a7.eval (.tmp 47) = .int .i64 1:=((Zx (c:=Cx.young ⟨w7,own7⟩ w.heap.size true)).1 (hs7.env 47)).1
 have hX7:=xok_keep hX (Zam hs7)
 have hBA7 : Below w.heap.size w w7:=(hBw.trans (hBA.mono hz4)).trans ⟨(Zam hs7).os,(Zam hs7).tape,(Zam hs7).output,(Zam hs7).size,fun k hk=>(Zam hs7).block k (Nat.lt_of_lt_of_le hk (Nat.le_trans hz4 hBA.size)) (by simp)⟩
 refine wpListIn_plain rfl fun K hK=>call_opN (xs:=[.tmp 46,.tmp 47]) rfl (Za1 Try.func12 kRf rfl) (by simp only [List.map_cons,List.map_nil,e46,e47]; exact lawsMarkIntSS LN g cc _ w4.heap.size A.heap.size w7 hX7 (fun j hj=>hX.inn.lt hj) hl hlbD) ?_
 rintro e B' ⟨z,rfl,hz0,hM⟩
 refine ⟨_,rfl,hK _ _ ?_⟩
 have hs9:=sim_put (t:=48) (u:=.int .i64 z) (sim_mark hs7 hM) (by decide) rfl
 have hBB : Below w.heap.size w B':=hBA7.trans ⟨hM.os,hM.tape,hM.output,hM.size,fun k hk=>hM.block k (Nat.lt_of_lt_of_le hk hBA7.size) (.inl oM)⟩
 have hown9 : ∀ b,own7 b → w.heap.size ≤ b:=fun b hb=>(hs7.own_ b hb).1
 refine (show wpListIn Fence.wide 9 Try.prog _ _ ([_] ++ []) _ _ from Zaj (Z:=fun _=>true) (K:=fun s'=>Weak s' (mkS 96 [(9,.one (.r true (int z))),(8,.one (.r true (bool b))),(7,.one (.ptr 7 0 0 0)),(0,.one (.r false (row nil 1 (rowsN LN)))),(4,.one (.r true (R.ref (.agg [int r,row nv 1 (ints []),row ng 1 (bools []),row nm 3 (edges [])])))),(5,.one (.r true (bool b)))] [(7,.var 28 [.r true (int r),ZcX,ZcX,ZcX])])) [] (fun s_ a_ w_ hw_ hs_=>wpListIn_nil ?_) [_] _ ?_ _ _ ⟨ι7,own7,hs9⟩)
 rotate_left
 ·repeat' (first|refine wk ?_|(refine wkB ?_ ?_<;>intro hg_<;>try exact wkX)|fail)
  all_goals first
   | ((refine Zg [] rfl ?_ ?_ <;>exact wkW);done)
 replace hsim:=hw_ _ _ _ hs_
 clear hw_ hs_ s_ hs9 hs7 K hK e46 e47 hX7
 -- what is left
 refine Zai (Q:=fun e s=>e = .ret ∧ RetOk Try.prog s [.tmp 2] (.v (.one (bool true)))) ?_ hsim ?_
 ·clear hrow7 hX hM hlbD hus hra hat hu25 h25 h25'
  repeat' (first|refine wk ?_|((first|refine' w_q rfl rfl ?xa rfl ?_|refine' v_q rfl rfl ?xa rfl ?_|refine' Zh rfl rfl (Zb rfl) rfl ?xa rfl ?_|refine' Zi rfl rfl (Zb rfl) rfl ?xa rfl ?_);case xa=>first|exact Ze KT rfl ⟨Zd (Za rfl),trivial⟩|exact Ze KQS rfl ⟨Zw (Za rfl) ⟨Zk,Z5,Z5,Z5,trivial⟩,Zw (Za rfl) ⟨Zk,Zk,Zk,Zk,trivial⟩,trivial⟩|exact k_neB bo4 rfl rfl rfl|exact Ze KMS rfl ⟨Zw (Za rfl) ⟨Zk,Z5,Z5,Z5,trivial⟩,Zd (Za rfl),trivial⟩|exact Ze KH rfl ⟨Zw (Za rfl) ⟨Zk,Z5,Z5,Z5,trivial⟩,Zd (Za rfl),trivial⟩)|((first|refine' w_e rfl ?xa ?xb ?xc ?xe ?_|refine' v_e rfl ?xa ?xb ?xc ?xe ?_);(case xa=>exact Zj 76 rfl (Zbf (ys:=[.one (row false 1 (rowsI (snds LN)))]) [] KI rfl rfl ⟨Zd (Za rfl),trivial⟩ rfl rfl));(case xb|xc|xe=>rfl);try refine wkD ?_)|(refine wkB ?_ ?_<;>intro hg_<;>try exact wkX)|fail)
  all_goals first
   | exact ⟨rfl,(Zt rfl (Zo rfl)).2⟩
   | (exfalso;first|omega|(simp at hg_;done)|(simp at hg_;omega))
 rintro e s_ a_ w_ ⟨rfl,hret⟩ hs_
 obtain ⟨v,g1,g2⟩:=ret_run hs_ (fn:=Try.f3) rfl hret
 obtain ⟨ι9,own9,hs9⟩:=hs_
 refine ⟨hs9.defers,v,g1,v,rfl,g2,?_⟩
 exact hBB.trans ⟨hs9.below.os,hs9.below.tape,hs9.below.output,hs9.below.size,fun k hk=>hs9.below.block k (Nat.lt_of_lt_of_le hk hBB.size) (fun h=>by have:=hown9 k h; omega)⟩
theorem exL_OZ (nil : Bool) (LN : List (Bool × List Int)) (hl : LN.length ≤ 1048576) (hlb : ∀ z ∈ LN,z.2.length ≤ 1048576) (hsz : 0 ≤ szSS 1048576 LN) (r : Int) (b : Bool) (vs : List Int) (gs : List Bool) (b1 : vs.length ≤ 16) (b2 : gs.length ≤ 16) (nv ng nm : Bool)
  (KS : Fn Try.prog 7 [.one (row false 1 (rowsI (snds LN)))] (.tup [stateP r nv vs ng gs nm [],.one (bool b)]))
  (KI : FnS Try.prog 9 [.one (.r false (row false 1 (rowsI (snds LN))))] [] (.tups [(true,[.r true (int r),.own 2000001 0 vs.length 1,.own 2000002 0 gs.length 1,ZcX]),(false,[.r true (bool b)])]) [(2000001,.sl 3 1 true (ints vs)),(2000002,.sl 4 1 true (bools gs))]) :
  Fn Try.prog 3 [.one (row nil 1 (rowsN LN))] (.v (.one (bool true))):=by
 have KZ:=f_szIntSS nil LN 1048576 (by simp only [maxLen]; omega) (fun z hz=>by have:=hlb z hz; simp only [maxLen]; omega) oM oM
 have KT:=f_toIntSS nil LN hl hlb
 have hsl : (snds LN).length = LN.length:=Zbo LN
 have hsb : ∀ x ∈ snds LN,x.length ≤ 1048576:=fun x hx=>by unfold snds at hx; rw [List.mem_map] at hx; obtain ⟨y,hy,rfl⟩:=hx; exact hlb y hy
 have KE:=f_eqIntSSS false false (snds LN) oM hsb
 have KQS:=f_eqState r false false true nv ng nm vs gs [] oM oM (by simp)
 have KMS:=f_markStOZ true r vs gs 1 oM oM oM oM
 have KH:=f_heldStOZ r false false true 1 vs.length gs.length oM oM oM oM
 have hlv:=Zp vs
 have hlg:=Zab gs
 have hlV : vs.length = (ints (upF 1 vs.length)).length:=by rw [Zp,upF_len]
 have hlG : gs.length = (bools (upB (1 + vs.length) gs.length)).length:=by rw [Zab,upB_len]
 generalize szSS 1048576 LN = zz at *
 refine ⟨Za1 Try.func3 kRf rfl,fun w vs_ hG hA=>?_⟩
 refine (callsIn_wide (n:=9)).1 ?_
 refine callsIn_of_wp Try.func3 rfl trivial ?_ rfl
 have hsim:=sim_start (fn:=Try.f3) Try.ntmps3 rfl hG hA
 simp only [argEnv,P0.d,Nat.reduceAdd] at hsim
 refine wpIn_seq (Zai (Q:=fun e s'=>e = .normal ∧ Weak s' (mkS 96 [(0,.one (.r false (row nil 1 (rowsN LN))))] [])) ?_ hsim ?_)
 ·repeat' (first|refine wk ?_|(refine wkB ?_ ?_<;>intro hg_<;>try exact wkX)|fail)
  all_goals first
   | exact ⟨rfl,by (refine Zg [] rfl ?_ ?_ <;>exact wkW)⟩
   | (exfalso;first|omega|(simp at hg_;done))
 rintro e s_ a_ w_ ⟨rfl,hw_⟩ hs_
 replace hsim:=hw_ _ _ _ hs_
 clear hw_ hs_ s_
 refine wpIn_seq (Zai (Q:=fun e s'=>e = .normal ∧ Weak s' (mkS 96 [(3,.one (.r true (int 1048576))),(0,.one (.r false (row nil 1 (rowsN LN))))] [])) ?_ hsim ?_)
 ·repeat' (first|refine wk ?_|(refine wkB ?_ ?_<;>intro hg_<;>try exact wkX)|fail)
  all_goals first
   | exact ⟨rfl,by (refine Zg [] rfl ?_ ?_ <;>exact wkW)⟩
   | (exfalso;first|omega|(simp at hg_;done))
 rintro e s_ a_ w_ ⟨rfl,hw_⟩ hs_
 replace hsim:=hw_ _ _ _ hs_
 clear hw_ hs_ s_
 refine wpIn_seq (Zai (Q:=fun e s'=>e = .normal ∧ Weak s' (mkS 96 [(3,.one (.r true (int zz))),(0,.one (.r false (row nil 1 (rowsN LN))))] [])) ?_ hsim ?_)
 ·repeat' (first|refine wk ?_|((first|refine' w_q rfl rfl ?xa rfl ?_|refine' v_q rfl rfl ?xa rfl ?_|refine' Zh rfl rfl (Zb rfl) rfl ?xa rfl ?_|refine' Zi rfl rfl (Zb rfl) rfl ?xa rfl ?_);case xa=>exact Ze KZ rfl ⟨Zd (Za rfl),Zd (Za rfl),trivial⟩)|(refine wkB ?_ ?_<;>intro hg_<;>try exact wkX)|fail)
  all_goals first
   | exact ⟨rfl,by (refine Zg [] rfl ?_ ?_ <;>exact wkW)⟩
   | (exfalso;first|omega|(simp at hg_;done))
 rintro e s_ a_ w_ ⟨rfl,hw_⟩ hs_
 replace hsim:=hw_ _ _ _ hs_
 clear hw_ hs_ s_
 refine wpIn_seq (Zai (Q:=fun e s'=>e = .normal ∧ Weak s' (mkS 96 [(0,.one (.r false (row nil 1 (rowsN LN))))] [])) ?_ hsim ?_)
 ·repeat' (first|refine wk ?_|(refine wkB ?_ ?_<;>intro hg_<;>try exact wkX)|fail)
  all_goals first
   | exact ⟨rfl,by (refine Zg [] rfl ?_ ?_ <;>exact wkW)⟩
   | (exfalso;first|omega|(simp at hg_;done))
 rintro e s_ a_ w_ ⟨rfl,hw_⟩ hs_
 replace hsim:=hw_ _ _ _ hs_
 clear hw_ hs_ s_
 refine wpIn_seq (Zai (Q:=fun e s'=>e = .normal ∧ Weak s' (mkS 96 [(0,.one (.r false (row nil 1 (rowsN LN)))),(4,.one (.ptr 4 0 0 0)),(5,.one (.r true (bool b)))] [(4,.var 28 [.r true (int r),.r true (row nv 1 (ints vs)),.r true (row ng 1 (bools gs)),.r true (row nm 3 (edges []))])])) ?_ hsim ?_)
 ·repeat' (first|refine wk ?_|((first|refine' w_q rfl rfl ?xa rfl ?_|refine' v_q rfl rfl ?xa rfl ?_|refine' Zh rfl rfl (Zb rfl) rfl ?xa rfl ?_|refine' Zi rfl rfl (Zb rfl) rfl ?xa rfl ?_);case xa=>first|exact Ze KT rfl ⟨Zd (Za rfl),trivial⟩|exact Ze KS rfl ⟨Zd (Za rfl),trivial⟩)|(refine wkB ?_ ?_<;>intro hg_<;>try exact wkX)|fail)
  all_goals first
   | exact ⟨rfl,by (refine Zg [] rfl ?_ ?_ <;>exact wkW)⟩
   | (exfalso;first|omega|(simp at hg_;done))
 rintro e s_ a_ w_ ⟨rfl,hw_⟩ hs_
 replace hsim:=hw_ _ _ _ hs_
 clear hw_ hs_ s_
 -- the copy that is handed over and marked
 refine wpIn_seq (wpIn_region_lit ?_)
 refine (show wpListIn Fence.wide 9 Try.prog _ _ ([_] ++ [_,_]) _ _ from Zaj (Z:=fun _=>true) (K:=fun s'=>Weak s' (mkS 96 [(25,.one (.r false (row nil 1 (rowsN LN)))),(0,.one (.r false (row nil 1 (rowsN LN)))),(4,.one (.ptr 4 0 0 0)),(5,.one (.r true (bool b)))] [(4,.var 28 [.r true (int r),.r true (row nv 1 (ints vs)),.r true (row ng 1 (bools gs)),.r true (row nm 3 (edges []))])])) [_,_] (fun s4 a4 w4 hK4 hs4=>?_) [_] _ ?_ _ _ hsim)
 rotate_left
 ·repeat' (first|refine wk ?_|(refine wkB ?_ ?_<;>intro hg_<;>try exact wkX)|fail)
  all_goals first
   | ((refine Zg [] rfl ?_ ?_ <;>exact wkW);done)
 obtain ⟨ι,own,hs⟩:=hK4 _ _ _ hs4
 clear hK4 hs4 s4 hsim
 have h25 : R.p (row nil 1 (rowsN LN)) ⟨w4,own⟩ (a4.tmps.getD 25 undef):=hs.env 25
 have h25' : R.p (row nil 1 (rowsN LN)) ⟨w4,fun _=>False⟩ (a4.tmps.getD 25 undef):=R.mono _ (c:=⟨w4,own⟩) (c':=⟨w4,fun _=>False⟩) (Cx.Ext.sub rfl (fun b h=>h.elim)) h25
 obtain ⟨ao,b0_,o0_,c0_,us,hu25,hat,hra,hus⟩:=rowsN_argV h25'
 have hz4 : w.heap.size ≤ w4.heap.size:=hs.below.size
 have hBw : Below w.heap.size w w4:=hs.below.below0
 have hlbD : ∀ j,j < LN.length → (LN.getD j default).2.length ≤ 1048576:=fun j hj=>by
  rw [List.getD_eq_getElem?_getD,List.getElem?_eq_getElem hj]
  exact hlb _ (List.getElem_mem hj)
 refine wpListIn_plain rfl fun K hK=>call_op1 rfl (show a4.eval (.tmp 25) = .slice ao LN.length c0_ from hu25) (Za1 Try.func8 kRf rfl) (lawsToIntSS ao c0_ b0_ o0_ LN us w4 hl hlb hat hra hus) ?_
 rintro e A ⟨g,cc,rfl,hX,hBA⟩
 refine ⟨_,rfl,hK _ _ ?_⟩
 have hs6:=sim_make (v6:=.slice (some ⟨w4.heap.size,0,none⟩) LN.length LN.length) rfl hs hBA
 refine (show wpListIn Fence.wide 9 Try.prog _ _ ([_] ++ []) _ _ from Zaj (Z:=fun _=>true) (K:=fun s'=>Weak s' (mkS 96 [(6,.one (.r true (R.val (.slice (some ⟨w4.heap.size,0,none⟩) LN.length LN.length)))),(0,.one (.r false (row nil 1 (rowsN LN)))),(4,.one (.r true (R.ref (.agg [int r,row nv 1 (ints vs),row ng 1 (bools gs),row nm 3 (edges [])])))),(5,.one (.r true (bool b)))] [])) [] (fun s_ a_ w_ hw_ hs_=>wpListIn_nil ?_) [_] _ ?_ _ _ ⟨ι,_,hs6⟩)
 rotate_left
 ·repeat' (first|refine wk ?_|(refine wkB ?_ ?_<;>intro hg_<;>try exact wkX)|fail)
  all_goals first
   | ((refine Zg [] rfl ?_ ?_ <;>exact wkW);done)
 replace hsim:=hw_ _ _ _ hs_
 clear hw_ hs_ s_ hs6 hs K hK
 -- the program's answer
 refine wpIn_seq (wpIn_region_lit ?_)
 refine (show wpListIn Fence.wide 9 Try.prog _ _ ([_] ++ [_,_,_,_,_,_,_]) _ _ from Zaj (Z:=fun _=>true) (K:=fun s'=>Weak s' (mkS 96 [(28,.one (.r true (R.val (.slice (some ⟨w4.heap.size,0,none⟩) LN.length LN.length)))),(6,.one (.r true (R.val (.slice (some ⟨w4.heap.size,0,none⟩) LN.length LN.length)))),(0,.one (.r false (row nil 1 (rowsN LN)))),(4,.one (.r true (R.ref (.agg [int r,row nv 1 (ints vs),row ng 1 (bools gs),row nm 3 (edges [])])))),(5,.one (.r true (bool b)))] [])) [_,_,_,_,_,_,_] (fun s7 a7 w7 hK7 hs7'=>?_) [_] _ ?_ _ _ hsim)
 rotate_left
 ·repeat' (first|refine wk ?_|(refine wkB ?_ ?_<;>intro hg_<;>try exact wkX)|fail)
  all_goals first
   | ((refine Zg [] rfl ?_ ?_ <;>exact wkW);done)
 obtain ⟨ι7,own7,hs7⟩:=hK7 _ _ _ hs7'
 clear hK7 hs7' s7 hsim
 have e28 : a7.eval (.tmp 28) = .slice (some ⟨w4.heap.size,0,none⟩) LN.length LN.length:=((Zx (c:=Cx.young ⟨w7,own7⟩ w.heap.size true)).1 (hs7.env 28)).1
 have hrow7 : ∀ (W : World),(A.grownBy W none) → R.p (row false 1 (rowsI (snds LN))) ⟨W,fun _=>False⟩ (.slice (some ⟨w4.heap.size,0,none⟩) LN.length LN.length):=fun W hg=>xok_row hX hl (fun b hb=>hg.block b hb (by simp)) hg.size
 refine wpListIn_plain rfl fun K hK=>op_wide (x_callS0 (xs:=[.tmp 28]) (ys:=[.one (row false 1 (rowsI (snds LN)))]) (base:=w.heap.size) (ι:=ι7) (own:=own7) [(2000001,601),(2000002,602)] KI rfl rfl rfl rfl hs7.own_ ⟨Nat.le_trans hs7.base_.1 hs7.below.size,Glob.triv _ _⟩ ⟨by rw [e28]; exact hrow7 w7 (Zam hs7),trivial⟩ ?_)
 intro v8 w8 ι8 own8 hc8
 have hs8 : Sim' (bsI A (XB w4.heap.size A.heap.size) w.heap.size) (mkS 96 [(29,.tups [(true,[.r true (int r),.own 601 0 vs.length 1,.own 602 0 gs.length 1,ZcX]),(false,[.r true (bool b)])]),(28,.one (.r true (R.val (.slice (some ⟨w4.heap.size,0,none⟩) LN.length LN.length)))),(6,.one (.r true (R.val (.slice (some ⟨w4.heap.size,0,none⟩) LN.length LN.length)))),(0,.one (.r false (row nil 1 (rowsN LN)))),(4,.one (.r true (R.ref (.agg [int r,row nv 1 (ints vs),row ng 1 (bools gs),row nm 3 (edges [])])))),(5,.one (.r true (bool b)))] [(601,.sl 3 1 true (ints vs)),(602,.sl 4 1 true (bools gs))]) (a7.put (some 29) v8) w8 ι8 own8:=sim_app (t:=29) hs7 hc8 rfl
 refine hK _ _ ?_
 refine (show wpListIn Fence.wide 9 Try.prog _ _ ([_,_,_,_,_,_] ++ []) _ _ from Zaj (Z:=fun _=>true) (K:=fun s'=>Weak s' (mkS 96 [(8,.one (.r true (bool b))),(7,.one (.ptr 7 0 0 0)),(6,.one (.r true (R.val (.slice (some ⟨w4.heap.size,0,none⟩) LN.length LN.length)))),(0,.one (.r false (row nil 1 (rowsN LN)))),(4,.one (.r true (R.ref (.agg [int r,row nv 1 (ints vs),row ng 1 (bools gs),row nm 3 (edges [])])))),(5,.one (.r true (bool b)))] [(7,.var 28 [.r true (int r),.own 601 0 vs.length 1,.own 602 0 gs.length 1,ZcX]),(601,.sl 3 1 true (ints vs)),(602,.sl 4 1 true (bools gs))])) [] (fun s_ a_ w_ hw_ hs_=>wpListIn_nil ?_) [_,_,_,_,_,_] _ ?_ _ _ ⟨ι8,own8,hs8⟩)
 rotate_left
 ·repeat' (first|refine wk ?_|(refine wkB ?_ ?_<;>intro hg_<;>try exact wkX)|fail)
  all_goals first
   | ((refine Zg [] rfl ?_ ?_ <;>exact wkW);done)
 replace hsim:=hw_ _ _ _ hs_
 clear hw_ hs_ s_ hs8 hs7 hc8 K hK e28
 refine wpIn_seq (Zai (Q:=fun e s'=>e = .normal ∧ Weak s' (mkS 96 [(8,.one (.r true (bool b))),(7,.one (.ptr 7 0 0 0)),(6,.one (.r true (R.val (.slice (some ⟨w4.heap.size,0,none⟩) LN.length LN.length)))),(0,.one (.r false (row nil 1 (rowsN LN)))),(4,.one (.r true (R.ref (.agg [int r,row nv 1 (ints vs),row ng 1 (bools gs),row nm 3 (edges [])])))),(5,.one (.r true (bool b)))] [(7,.var 28 [.r true (int r),.own 601 0 vs.length 1,.own 602 0 gs.length 1,ZcX]),(601,.sl 3 1 true (ints vs)),(602,.sl 4 1 true (bools gs))])) ?_ hsim ?_)
 ·repeat' (first|refine wk ?_|((first|refine' w_q rfl rfl ?xa rfl ?_|refine' v_q rfl rfl ?xa rfl ?_|refine' Zh rfl rfl (Zb rfl) rfl ?xa rfl ?_|refine' Zi rfl rfl (Zb rfl) rfl ?xa rfl ?_);case xa=>first|exact Ze KQS rfl ⟨Zw (Za rfl) ⟨Zk,Z6 (Zf rfl) hlv.symm,Z6 (Zf rfl) hlg.symm,Z5,trivial⟩,Zw (Za rfl) ⟨Zk,Zk,Zk,Zk,trivial⟩,trivial⟩|exact k_neB bo4 rfl rfl rfl)|(refine wkB ?_ ?_<;>intro hg_<;>try exact wkX)|fail)
  all_goals first
   | exact ⟨rfl,by (refine Zg [] rfl ?_ ?_ <;>exact wkW)⟩
   | (exfalso;first|omega|(simp at hg_;done))
 rintro e s_ a_ w_ ⟨rfl,hw_⟩ hs_
 replace hsim:=hw_ _ _ _ hs_
 clear hw_ hs_ s_
 -- the argument is as it was
 refine wpIn_seq (wpIn_seq (wpIn_region_lit ?_))
 refine (show wpListIn Fence.wide 9 Try.prog _ _ ([_,_,_] ++ [_,_]) _ _ from Zaj (Z:=fun _=>true) (K:=fun s'=>Weak s' (mkS 96 [(43,.one (.r true (row false 1 (rowsI (snds LN))))),(41,.one (.r true (R.val (.slice (some ⟨w4.heap.size,0,none⟩) LN.length LN.length)))),(8,.one (.r true (bool b))),(7,.one (.ptr 7 0 0 0)),(6,.one (.r true (R.val (.slice (some ⟨w4.heap.size,0,none⟩) LN.length LN.length)))),(0,.one (.r false (row nil 1 (rowsN LN)))),(4,.one (.r true (R.ref (.agg [int r,row nv 1 (ints vs),row ng 1 (bools gs),row nm 3 (edges [])])))),(5,.one (.r true (bool b)))] [(7,.var 28 [.r true (int r),.own 601 0 vs.length 1,.own 602 0 gs.length 1,ZcX]),(601,.sl 3 1 true (ints vs)),(602,.sl 4 1 true (bools gs))])) [_,_] (fun s7 a7 w7 hK7 hs7'=>?_) [_,_,_] _ ?_ _ _ hsim)
 rotate_left
 ·repeat' (first|refine wk ?_|((first|refine' w_q rfl rfl ?xa rfl ?_|refine' v_q rfl rfl ?xa rfl ?_|refine' Zh rfl rfl (Zb rfl) rfl ?xa rfl ?_|refine' Zi rfl rfl (Zb rfl) rfl ?xa rfl ?_);case xa=>exact Ze KT rfl ⟨Zd (Za rfl),trivial⟩)|(refine wkB ?_ ?_<;>intro hg_<;>try exact wkX)|fail)
  all_goals first
   | ((refine Zg [] rfl ?_ ?_ <;>exact wkW);done)
 obtain ⟨ι7,own7,hs7⟩:=hK7 _ _ _ hs7'
 clear hK7 hs7' s7 hsim
 have e41 : a7.eval (.tmp 41) = .slice (some ⟨w4.heap.size,0,none⟩) LN.length LN.length:=((Zx (c:=Cx.young ⟨w7,own7⟩ w.heap.size true)).1 (hs7.env 41)).1
 have e43 : R.p (row false 1 (rowsI (snds LN))) (Cx.young ⟨w7,own7⟩ w.heap.size true) (a7.eval (.tmp 43)):=hs7.env 43
 refine wpListIn_plain rfl fun K hK=>op_wide (x_callS0 (xs:=[.tmp 41,.tmp 43]) (ys:=[.one (row false 1 (rowsI (snds LN))),.one (row false 1 (rowsI (snds LN)))]) (base:=w.heap.size) (ι:=ι7) (own:=own7) [] KE rfl rfl rfl rfl hs7.own_ ⟨Nat.le_trans hs7.base_.1 hs7.below.size,Glob.triv _ _⟩ ⟨by rw [e41]; exact hrow7 w7 (Zam hs7),R.mono _ (c:=Cx.young ⟨w7,own7⟩ w.heap.size true) (c':=⟨w7,fun _=>False⟩) (Cx.Ext.sub rfl (fun b h=>h.elim)) e43,trivial⟩ ?_)
 intro v8 w8 ι8 own8 hc8
 have hs8 : Sim' (bsI A (XB w4.heap.size A.heap.size) w.heap.size) (mkS 96 [(44,.one (.r true (bool true))),(43,.one (.r true (row false 1 (rowsI (snds LN))))),(41,.one (.r true (R.val (.slice (some ⟨w4.heap.size,0,none⟩) LN.length LN.length)))),(8,.one (.r true (bool b))),(7,.one (.ptr 7 0 0 0)),(6,.one (.r true (R.val (.slice (some ⟨w4.heap.size,0,none⟩) LN.length LN.length)))),(0,.one (.r false (row nil 1 (rowsN LN)))),(4,.one (.r true (R.ref (.agg [int r,row nv 1 (ints vs),row ng 1 (bools gs),row nm 3 (edges [])])))),(5,.one (.r true (bool b)))] [(7,.var 28 [.r true (int r),.own 601 0 vs.length 1,.own 602 0 gs.length 1,ZcX]),(601,.sl 3 1 true (ints vs)),(602,.sl 4 1 true (bools gs))]) (a7.put (some 44) v8) w8 ι8 own8:=sim_app (t:=44) hs7 hc8 rfl
 refine hK _ _ ?_
 refine (show wpListIn Fence.wide 9 Try.prog _ _ ([_] ++ []) _ _ from Zaj (Z:=fun _=>true) (K:=fun s'=>Weak s' (mkS 96 [(45,.one (.r true (bool false))),(8,.one (.r true (bool b))),(7,.one (.ptr 7 0 0 0)),(6,.one (.r true (R.val (.slice (some ⟨w4.heap.size,0,none⟩) LN.length LN.length)))),(0,.one (.r false (row nil 1 (rowsN LN)))),(4,.one (.r true (R.ref (.agg [int r,row nv 1 (ints vs),row ng 1 (bools gs),row nm 3 (edges [])])))),(5,.one (.r true (bool b)))] [(7,.var 28 [.r true (int r),.own 601 0 vs.length 1,.own 602 0 gs.length 1,ZcX]),(601,.sl 3 1 true (ints vs)),(602,.sl 4 1 true (bools gs))])) [] (fun s_ a_ w_ hw_ hs_=>wpListIn_nil ?_) [_] _ ?_ _ _ ⟨ι8,own8,hs8⟩)
 rotate_left
 ·repeat' (first|refine wk ?_|(refine wkB ?_ ?_<;>intro hg_<;>try exact wkX)|fail)
  all_goals first
   | ((refine Zg [] rfl ?_ ?_ <;>exact wkW);done)
 replace hsim:=hw_ _ _ _ hs_
 clear hw_ hs_ s_ hs8 hs7 hc8 K hK e41 e43
 refine Zai (Q:=fun e s'=>e = .normal ∧ Weak s' (mkS 96 [(8,.one (.r true (bool b))),(7,.one (.ptr 7 0 0 0)),(6,.one (.r true (R.val (.slice (some ⟨w4.heap.size,0,none⟩) LN.length LN.length)))),(0,.one (.r false (row nil 1 (rowsN LN)))),(4,.one (.r true (R.ref (.agg [int r,row nv 1 (ints vs),row ng 1 (bools gs),row nm 3 (edges [])])))),(5,.one (.r true (bool b)))] [(7,.var 28 [.r true (int r),.own 601 0 vs.length 1,.own 602 0 gs.length 1,ZcX]),(601,.sl 3 1 true (ints vs)),(602,.sl 4 1 true (bools gs))])) ?_ hsim ?_
 ·repeat' (first|refine wk ?_|(refine wkB ?_ ?_<;>intro hg_<;>try exact wkX)|fail)
  all_goals first
   | exact ⟨rfl,by (refine Zg [] rfl ?_ ?_ <;>exact wkW)⟩
   | (exfalso;first|omega|(simp at hg_;done))
 rintro e s_ a_ w_ ⟨rfl,hw_⟩ hs_
 replace hsim:=hw_ _ _ _ hs_
 clear hw_ hs_ s_
 refine wpIn_seq (Zai (Q:=fun e s'=>e = .normal ∧ Weak s' (mkS 96 [(9,.one (.r true (int 1))),(8,.one (.r true (bool b))),(7,.one (.ptr 7 0 0 0)),(6,.one (.r true (R.val (.slice (some ⟨w4.heap.size,0,none⟩) LN.length LN.length)))),(0,.one (.r false (row nil 1 (rowsN LN)))),(4,.one (.r true (R.ref (.agg [int r,row nv 1 (ints vs),row ng 1 (bools gs),row nm 3 (edges [])])))),(5,.one (.r true (bool b)))] [(7,.var 28 [.r true (int r),.own 601 0 vs.length 1,.own 602 0 gs.length 1,ZcX]),(601,.sl 3 1 true (ints vs)),(602,.sl 4 1 true (bools gs))])) ?_ hsim ?_)
 ·repeat' (first|refine wk ?_|(refine wkB ?_ ?_<;>intro hg_<;>try exact wkX)|fail)
  all_goals first
   | exact ⟨rfl,by (refine Zg [] rfl ?_ ?_ <;>exact wkW)⟩
   | (exfalso;first|omega|(simp at hg_;done))
 rintro e s_ a_ w_ ⟨rfl,hw_⟩ hs_
 replace hsim:=hw_ _ _ _ hs_
 clear hw_ hs_ s_
 -- the marks
 refine wpIn_seq (wpIn_region_lit ?_)
 refine (show wpListIn Fence.wide 9 Try.prog _ _ ([_,_] ++ [_,_]) _ _ from Zaj (Z:=fun _=>true) (K:=fun s'=>Weak s' (mkS 96 [(47,.one (.r true (int 1))),(46,.one (.r true (R.val (.slice (some ⟨w4.heap.size,0,none⟩) LN.length LN.length)))),(8,.one (.r true (bool b))),(7,.one (.ptr 7 0 0 0)),(6,.one (.r true (R.val (.slice (some ⟨w4.heap.size,0,none⟩) LN.length LN.length)))),(0,.one (.r false (row nil 1 (rowsN LN)))),(4,.one (.r true (R.ref (.agg [int r,row nv 1 (ints vs),row ng 1 (bools gs),row nm 3 (edges [])])))),(5,.one (.r true (bool b)))] [(7,.var 28 [.r true (int r),.own 601 0 vs.length 1,.own 602 0 gs.length 1,ZcX]),(601,.sl 3 1 true (ints vs)),(602,.sl 4 1 true (bools gs))])) [_,_] (fun s7 a7 w7 hK7 hs7'=>?_) [_,_] _ ?_ _ _ hsim)
 rotate_left
 ·repeat' (first|refine wk ?_|(refine wkB ?_ ?_<;>intro hg_<;>try exact wkX)|fail)
  all_goals first
   | ((refine Zg [] rfl ?_ ?_ <;>exact wkW);done)
 obtain ⟨ι7,own7,hs7⟩:=hK7 _ _ _ hs7'
 clear hK7 hs7' s7 hsim
 have e46 : a7.eval (.tmp 46) = .slice (some ⟨w4.heap.size,0,none⟩) LN.length LN.length:=((Zx (c:=Cx.young ⟨w7,own7⟩ w.heap.size true)).1 (hs7.env 46)).1
 have e47 : a7.eval (.tmp 47) = .int .i64 1:=((Zx (c:=Cx.young ⟨w7,own7⟩ w.heap.size true)).1 (hs7.env 47)).1
 have hX7:=xok_keep hX (Zam hs7)
 have hBA7 : Below w.heap.size w w7:=(hBw.trans (hBA.mono hz4)).trans ⟨(Zam hs7).os,(Zam hs7).tape,(Zam hs7).output,(Zam hs7).size,fun k hk=>(Zam hs7).block k (Nat.lt_of_lt_of_le hk (Nat.le_trans hz4 hBA.size)) (by simp)⟩
 refine wpListIn_plain rfl fun K hK=>call_opN (xs:=[.tmp 46,.tmp 47]) rfl (Za1 Try.func12 kRf rfl) (by simp only [List.map_cons,List.map_nil,e46,e47]; exact lawsMarkIntSS LN g cc _ w4.heap.size A.heap.size w7 hX7 (fun j hj=>hX.inn.lt hj) hl hlbD) ?_
 rintro e B' ⟨z,rfl,hz0,hM⟩
 refine ⟨_,rfl,hK _ _ ?_⟩
 have hs9:=sim_put (t:=48) (u:=.int .i64 z) (sim_mark hs7 hM) (by decide) rfl
 have hBB : Below w.heap.size w B':=hBA7.trans ⟨hM.os,hM.tape,hM.output,hM.size,fun k hk=>hM.block k (Nat.lt_of_lt_of_le hk hBA7.size) (.inl oM)⟩
 have hown9 : ∀ b,own7 b → w.heap.size ≤ b:=fun b hb=>(hs7.own_ b hb).1
 refine (show wpListIn Fence.wide 9 Try.prog _ _ ([_] ++ []) _ _ from Zaj (Z:=fun _=>true) (K:=fun s'=>Weak s' (mkS 96 [(9,.one (.r true (int z))),(8,.one (.r true (bool b))),(7,.one (.ptr 7 0 0 0)),(0,.one (.r false (row nil 1 (rowsN LN)))),(4,.one (.r true (R.ref (.agg [int r,row nv 1 (ints vs),row ng 1 (bools gs),row nm 3 (edges [])])))),(5,.one (.r true (bool b)))] [(7,.var 28 [.r true (int r),.own 601 0 vs.length 1,.own 602 0 gs.length 1,ZcX]),(601,.sl 3 1 true (ints vs)),(602,.sl 4 1 true (bools gs))])) [] (fun s_ a_ w_ hw_ hs_=>wpListIn_nil ?_) [_] _ ?_ _ _ ⟨ι7,own7,hs9⟩)
 rotate_left
 ·repeat' (first|refine wk ?_|(refine wkB ?_ ?_<;>intro hg_<;>try exact wkX)|fail)
  all_goals first
   | ((refine Zg [] rfl ?_ ?_ <;>exact wkW);done)
 replace hsim:=hw_ _ _ _ hs_
 clear hw_ hs_ s_ hs9 hs7 K hK e46 e47 hX7
 -- what is left
 refine Zai (Q:=fun e s=>e = .ret ∧ RetOk Try.prog s [.tmp 2] (.v (.one (bool true)))) ?_ hsim ?_
 ·clear hrow7 hX hM hlbD hus hra hat hu25 h25 h25'
  repeat' (first|refine wk ?_|((first|refine' w_q rfl rfl ?xa rfl ?_|refine' v_q rfl rfl ?xa rfl ?_|refine' Zh rfl rfl (Zb rfl) rfl ?xa rfl ?_|refine' Zi rfl rfl (Zb rfl) rfl ?xa rfl ?_);case xa=>first|exact Ze KT rfl ⟨Zd (Za rfl),trivial⟩|exact Ze KQS rfl ⟨Zw (Za rfl) ⟨Zk,Z6 (Zf rfl) hlv.symm,Z6 (Zf rfl) hlg.symm,Z5,trivial⟩,Zw (Za rfl) ⟨Zk,Zk,Zk,Zk,trivial⟩,trivial⟩|exact k_neB bo4 rfl rfl rfl|exact Ze KH rfl ⟨Zw (Za rfl) ⟨Zk,Z6 (Zf rfl) hlV,Z6 (Zf rfl) hlG,Z5,trivial⟩,Zd (Za rfl),trivial⟩)|((first|refine' w_e rfl ?xa ?xb ?xc ?xe ?_|refine' v_e rfl ?xa ?xb ?xc ?xe ?_);(case xa=>first|exact Zj 64 rfl (Zm [(1000000000,601),(1000000001,602)] KMS rfl ⟨Zl (Za rfl),asE,trivial⟩ sbH rfl)|exact Zj 76 rfl (Zbf (ys:=[.one (row false 1 (rowsI (snds LN)))]) [(2000001,611),(2000002,612)] KI rfl rfl ⟨Zd (Za rfl),trivial⟩ rfl rfl));(case xb|xc|xe=>rfl);try refine wkD ?_)|(refine wkB ?_ ?_<;>intro hg_<;>try exact wkX)|fail)
  all_goals first
   | exact ⟨rfl,(Zt rfl (Zo rfl)).2⟩
   | (exfalso;first|omega|(simp at hg_;done)|(simp at hg_;omega))
 rintro e s_ a_ w_ ⟨rfl,hret⟩ hs_
 obtain ⟨v,g1,g2⟩:=ret_run hs_ (fn:=Try.f3) rfl hret
 obtain ⟨ι9,own9,hs9⟩:=hs_
 refine ⟨hs9.defers,v,g1,v,rfl,g2,?_⟩
 exact hBB.trans ⟨hs9.below.os,hs9.below.tape,hs9.below.output,hs9.below.size,fun k hk=>hs9.below.block k (Nat.lt_of_lt_of_le hk hBB.size) (fun h=>by have:=hown9 k h; omega)⟩
theorem exL_OO (nil : Bool) (LN : List (Bool × List Int)) (hl : LN.length ≤ 1048576) (hlb : ∀ z ∈ LN,z.2.length ≤ 1048576) (hsz : 0 ≤ szSS 1048576 LN) (r : Int) (b : Bool) (vs : List Int) (gs : List Bool) (b1 : vs.length ≤ 16) (b2 : gs.length ≤ 16) (ms : List E3) (b3 : ms.length ≤ 2000) (nv ng nm : Bool)
  (KS : Fn Try.prog 7 [.one (row false 1 (rowsI (snds LN)))] (.tup [stateP r nv vs ng gs nm ms,.one (bool b)]))
  (KI : FnS Try.prog 9 [.one (.r false (row false 1 (rowsI (snds LN))))] [] (.tups [(true,[.r true (int r),.own 2000001 0 vs.length 1,.own 2000002 0 gs.length 1,.own 2000003 0 ms.length 3]),(false,[.r true (bool b)])]) [(2000001,.sl 3 1 true (ints vs)),(2000002,.sl 4 1 true (bools gs)),(2000003,.sl 70 3 true (edges ms))]) :
  Fn Try.prog 3 [.one (row nil 1 (rowsN LN))] (.v (.one (bool true))):=by
 have KZ:=f_szIntSS nil LN 1048576 (by simp only [maxLen]; omega) (fun z hz=>by have:=hlb z hz; simp only [maxLen]; omega) oM oM
 have KT:=f_toIntSS nil LN hl hlb
 have hsl : (snds LN).length = LN.length:=Zbo LN
 have hsb : ∀ x ∈ snds LN,x.length ≤ 1048576:=fun x hx=>by unfold snds at hx; rw [List.mem_map] at hx; obtain ⟨y,hy,rfl⟩:=hx; exact hlb y hy
 have KE:=f_eqIntSSS false false (snds LN) oM hsb
 have KQS:=f_eqState r false false false nv ng nm vs gs ms oM oM oM
 have KMS:=f_markStOO true r vs gs ms 1 oM oM oM oM oM
 have KH:=f_heldState r false false false 1 vs.length gs.length ms.length oM oM oM oM oM
 have hlv:=Zp vs
 have hlg:=Zab gs
 have hlV : vs.length = (ints (upF 1 vs.length)).length:=by rw [Zp,upF_len]
 have hlG : gs.length = (bools (upB (1 + vs.length) gs.length)).length:=by rw [Zab,upB_len]
 have hlm:=Zv ms
 have hlM : ms.length = (edges (upE (1 + vs.length + gs.length) ms.length)).length:=by rw [Zv,upE_len]
 generalize szSS 1048576 LN = zz at *
 refine ⟨Za1 Try.func3 kRf rfl,fun w vs_ hG hA=>?_⟩
 refine (callsIn_wide (n:=9)).1 ?_
 refine callsIn_of_wp Try.func3 rfl trivial ?_ rfl
 have hsim:=sim_start (fn:=Try.f3) Try.ntmps3 rfl hG hA
 simp only [argEnv,P0.d,Nat.reduceAdd] at hsim
 refine wpIn_seq (Zai (Q:=fun e s'=>e = .normal ∧ Weak s' (mkS 96 [(0,.one (.r false (row nil 1 (rowsN LN))))] [])) ?_ hsim ?_)
 ·repeat' (first|refine wk ?_|(refine wkB ?_ ?_<;>intro hg_<;>try exact wkX)|fail)
  all_goals first
   | exact ⟨rfl,by (refine Zg [] rfl ?_ ?_ <;>exact wkW)⟩
   | (exfalso;first|omega|(simp at hg_;done))
 rintro e s_ a_ w_ ⟨rfl,hw_⟩ hs_
 replace hsim:=hw_ _ _ _ hs_
 clear hw_ hs_ s_
 refine wpIn_seq (Zai (Q:=fun e s'=>e = .normal ∧ Weak s' (mkS 96 [(3,.one (.r true (int 1048576))),(0,.one (.r false (row nil 1 (rowsN LN))))] [])) ?_ hsim ?_)
 ·repeat' (first|refine wk ?_|(refine wkB ?_ ?_<;>intro hg_<;>try exact wkX)|fail)
  all_goals first
   | exact ⟨rfl,by (refine Zg [] rfl ?_ ?_ <;>exact wkW)⟩
   | (exfalso;first|omega|(simp at hg_;done))
 rintro e s_ a_ w_ ⟨rfl,hw_⟩ hs_
 replace hsim:=hw_ _ _ _ hs_
 clear hw_ hs_ s_
 refine wpIn_seq (Zai (Q:=fun e s'=>e = .normal ∧ Weak s' (mkS 96 [(3,.one (.r true (int zz))),(0,.one (.r false (row nil 1 (rowsN LN))))] [])) ?_ hsim ?_)
 ·repeat' (first|refine wk ?_|((first|refine' w_q rfl rfl ?xa rfl ?_|refine' v_q rfl rfl ?xa rfl ?_|refine' Zh rfl rfl (Zb rfl) rfl ?xa rfl ?_|refine' Zi rfl rfl (Zb rfl) rfl ?xa rfl ?_);case xa=>exact Ze KZ rfl ⟨Zd (Za rfl),Zd (Za rfl),trivial⟩)|(refine wkB ?_ ?_<;>intro hg_<;>try exact wkX)|fail)
  all_goals first
   | exact ⟨rfl,by (refine Zg [] rfl ?_ ?_ <;>exact wkW)⟩
   | (exfalso;first|omega|(simp at hg_;done))
 rintro e s_ a_ w_ ⟨rfl,hw_⟩ hs_
 replace hsim:=hw_ _ _ _ hs_
 clear hw_ hs_ s_
 refine wpIn_seq (Zai (Q:=fun e s'=>e = .normal ∧ Weak s' (mkS 96 [(0,.one (.r false (row nil 1 (rowsN LN))))] [])) ?_ hsim ?_)
 ·repeat' (first|refine wk ?_|(refine wkB ?_ ?_<;>intro hg_<;>try exact wkX)|fail)
  all_goals first
   | exact ⟨rfl,by (refine Zg [] rfl ?_ ?_ <;>exact wkW)⟩
   | (exfalso;first|omega|(simp at hg_;done))
 rintro e s_ a_ w_ ⟨rfl,hw_⟩ hs_
 replace hsim:=hw_ _ _ _ hs_
 clear hw_ hs_ s_
 refine wpIn_seq (Zai (Q:=fun e s'=>e = .normal ∧ Weak s' (mkS 96 [(0,.one (.r false (row nil 1 (rowsN LN)))),(4,.one (.ptr 4 0 0 0)),(5,.one (.r true (bool b)))] [(4,.var 28 [.r true (int r),.r true (row nv 1 (ints vs)),.r true (row ng 1 (bools gs)),.r true (row nm 3 (edges ms))])])) ?_ hsim ?_)
 ·repeat' (first|refine wk ?_|((first|refine' w_q rfl rfl ?xa rfl ?_|refine' v_q rfl rfl ?xa rfl ?_|refine' Zh rfl rfl (Zb rfl) rfl ?xa rfl ?_|refine' Zi rfl rfl (Zb rfl) rfl ?xa rfl ?_);case xa=>first|exact Ze KT rfl ⟨Zd (Za rfl),trivial⟩|exact Ze KS rfl ⟨Zd (Za rfl),trivial⟩)|(refine wkB ?_ ?_<;>intro hg_<;>try exact wkX)|fail)
  all_goals first
   | exact ⟨rfl,by (refine Zg [] rfl ?_ ?_ <;>exact wkW)⟩
   | (exfalso;first|omega|(simp at hg_;done))
 rintro e s_ a_ w_ ⟨rfl,hw_⟩ hs_
 replace hsim:=hw_ _ _ _ hs_
 clear hw_ hs_ s_
 -- the copy that is handed over and marked
 refine wpIn_seq (wpIn_region_lit ?_)
 refine (show wpListIn Fence.wide 9 Try.prog _ _ ([_] ++ [_,_]) _ _ from Zaj (Z:=fun _=>true) (K:=fun s'=>Weak s' (mkS 96 [(25,.one (.r false (row nil 1 (rowsN LN)))),(0,.one (.r false (row nil 1 (rowsN LN)))),(4,.one (.ptr 4 0 0 0)),(5,.one (.r true (bool b)))] [(4,.var 28 [.r true (int r),.r true (row nv 1 (ints vs)),.r true (row ng 1 (bools gs)),.r true (row nm 3 (edges ms))])])) [_,_] (fun s4 a4 w4 hK4 hs4=>?_) [_] _ ?_ _ _ hsim)
 rotate_left
 ·repeat' (first|refine wk ?_|(refine wkB ?_ ?_<;>intro hg_<;>try exact wkX)|fail)
  all_goals first
   | ((refine Zg [] rfl ?_ ?_ <;>exact wkW);done)
 obtain ⟨ι,own,hs⟩:=hK4 _ _ _ hs4
 clear hK4 hs4 s4 hsim
 have h25 : R.p (row nil 1 (rowsN LN)) ⟨w4,own⟩ (a4.tmps.getD 25 undef):=hs.env 25
 have h25' : R.p (row nil 1 (rowsN LN)) ⟨w4,fun _=>False⟩ (a4.tmps.getD 25 undef):=R.mono _ (c:=⟨w4,own⟩) (c':=⟨w4,fun _=>False⟩) (Cx.Ext.sub rfl (fun b h=>h.elim)) h25
 obtain ⟨ao,b0_,o0_,c0_,us,hu25,hat,hra,hus⟩:=rowsN_argV h25'
 have hz4 : w.heap.size ≤ w4.heap.size:=hs.below.size
 have hBw : Below w.heap.size w w4:=hs.below.below0
 have hlbD : ∀ j,j < LN.length → (LN.getD j default).2.length ≤ 1048576:=fun j hj=>by
  rw [List.getD_eq_getElem?_getD,List.getElem?_eq_getElem hj]
  exact hlb _ (List.getElem_mem hj)
 refine wpListIn_plain rfl fun K hK=>call_op1 rfl (show a4.eval (.tmp 25) = .slice ao LN.length c0_ from hu25) (Za1 Try.func8 kRf rfl) (lawsToIntSS ao c0_ b0_ o0_ LN us w4 hl hlb hat hra hus) ?_
 rintro e A ⟨g,cc,rfl,hX,hBA⟩
 refine ⟨_,rfl,hK _ _ ?_⟩
 have hs6:=sim_make (v6:=.slice (some ⟨w4.heap.size,0,none⟩) LN.length LN.length) rfl hs hBA
 refine (show wpListIn Fence.wide 9 Try.prog _ _ ([_] ++ []) _ _ from Zaj (Z:=fun _=>true) (K:=fun s'=>Weak s' (mkS 96 [(6,.one (.r true (R.val (.slice (some ⟨w4.heap.size,0,none⟩) LN.length LN.length)))),(0,.one (.r false (row nil 1 (rowsN LN)))),(4,.one (.r true (R.ref (.agg [int r,row nv 1 (ints vs),row ng 1 (bools gs),row nm 3 (edges ms)])))),(5,.one (.r true (bool b)))] [])) [] (fun s_ a_ w_ hw_ hs_=>wpListIn_nil ?_) [_] _ ?_ _ _ ⟨ι,_,hs6⟩)
 rotate_left
 ·repeat' (first|refine wk ?_|(refine wkB ?_ ?_<;>intro hg_<;>try exact wkX)|fail)
  all_goals first
   | ((refine Zg [] rfl ?_ ?_ <;>exact wkW);done)
 replace hsim:=hw_ _ _ _ hs_
 clear hw_ hs_ s_ hs6 hs K hK
 -- the program's answer
 refine wpIn_seq (wpIn_region_lit ?_)
 refine (show wpListIn Fence.wide 9 Try.prog _ _ ([_] ++ [_,_,_,_,_,_,_]) _ _ from Zaj (Z:=fun _=>true) (K:=fun s'=>Weak s' (mkS 96 [(28,.one (.r true (R.val (.slice (some ⟨w4.heap.size,0,none⟩) LN.length LN.length)))),(6,.one (.r true (R.val (.slice (some ⟨w4.heap.size,0,none⟩) LN.length LN.length)))),(0,.one (.r false (row nil 1 (rowsN LN)))),(4,.one (.r true (R.ref (.agg [int r,row nv 1 (ints vs),row ng 1 (bools gs),row nm 3 (edges ms)])))),(5,.one (.r true (bool b)))] [])) [_,_,_,_,_,_,_] (fun s7 a7 w7 hK7 hs7'=>?_) [_] _ ?_ _ _ hsim)
 rotate_left
 ·repeat' (first|refine wk ?_|(refine wkB ?_ ?_<;>intro hg_<;>try exact wkX)|fail)
  all_goals first
   | ((refine Zg [] rfl ?_ ?_ <;>exact wkW);done)
 obtain ⟨ι7,own7,hs7⟩:=hK7 _ _ _ hs7'
 clear hK7 hs7' s7 hsim
 have e28 : a7.eval (.tmp 28) = .slice (some ⟨w4.heap.size,0,none⟩) LN.length LN.length:=((Zx (c:=Cx.young ⟨w7,own7⟩ w.heap.size true)).1 (hs7.env 28)).1
 have hrow7 : ∀ (W : World),(A.grownBy W none) → R.p (row false 1 (rowsI (snds LN))) ⟨W,fun _=>False⟩ (.slice (some ⟨w4.heap.size,0,none⟩) LN.length LN.length):=fun W hg=>xok_row hX hl (fun b hb=>hg.block b hb (by simp)) hg.size
 refine wpListIn_plain rfl fun K hK=>op_wide (x_callS0 (xs:=[.tmp 28]) (ys:=[.one (row false 1 (rowsI (snds LN)))]) (base:=w.heap.size) (ι:=ι7) (own:=own7) [(2000001,601),(2000002,602),(2000003,603)] KI rfl rfl rfl rfl hs7.own_ ⟨Nat.le_trans hs7.base_.1 hs7.below.size,Glob.triv _ _⟩ ⟨by rw [e28]; exact hrow7 w7 (Zam hs7),trivial⟩ ?_)
 intro v8 w8 ι8 own8 hc8
 have hs8 : Sim' (bsI A (XB w4.heap.size A.heap.size) w.heap.size) (mkS 96 [(29,.tups [(true,[.r true (int r),.own 601 0 vs.length 1,.own 602 0 gs.length 1,.own 603 0 ms.length 3]),(false,[.r true (bool b)])]),(28,.one (.r true (R.val (.slice (some ⟨w4.heap.size,0,none⟩) LN.length LN.length)))),(6,.one (.r true (R.val (.slice (some ⟨w4.heap.size,0,none⟩) LN.length LN.length)))),(0,.one (.r false (row nil 1 (rowsN LN)))),(4,.one (.r true (R.ref (.agg [int r,row nv 1 (ints vs),row ng 1 (bools gs),row nm 3 (edges ms)])))),(5,.one (.r true (bool b)))] [(601,.sl 3 1 true (ints vs)),(602,.sl 4 1 true (bools gs)),(603,.sl 70 3 true (edges ms))]) (a7.put (some 29) v8) w8 ι8 own8:=sim_app (t:=29) hs7 hc8 rfl
 refine hK _ _ ?_
 refine (show wpListIn Fence.wide 9 Try.prog _ _ ([_,_,_,_,_,_] ++ []) _ _ from Zaj (Z:=fun _=>true) (K:=fun s'=>Weak s' (mkS 96 [(8,.one (.r true (bool b))),(7,.one (.ptr 7 0 0 0)),(6,.one (.r true (R.val (.slice (some ⟨w4.heap.size,0,none⟩) LN.length LN.length)))),(0,.one (.r false (row nil 1 (rowsN LN)))),(4,.one (.r true (R.ref (.agg [int r,row nv 1 (ints vs),row ng 1 (bools gs),row nm 3 (edges ms)])))),(5,.one (.r true (bool b)))] [(7,.var 28 [.r true (int r),.own 601 0 vs.length 1,.own 602 0 gs.length 1,.own 603 0 ms.length 3]),(601,.sl 3 1 true (ints vs)),(602,.sl 4 1 true (bools gs)),(603,.sl 70 3 true (edges ms))])) [] (fun s_ a_ w_ hw_ hs_=>wpListIn_nil ?_) [_,_,_,_,_,_] _ ?_ _ _ ⟨ι8,own8,hs8⟩)
 rotate_left
 ·repeat' (first|refine wk ?_|(refine wkB ?_ ?_<;>intro hg_<;>try exact wkX)|fail)
  all_goals first
   | ((refine Zg [] rfl ?_ ?_ <;>exact wkW);done)
 replace hsim:=hw_ _ _ _ hs_
 clear hw_ hs_ s_ hs8 hs7 hc8 K hK e28
 refine wpIn_seq (Zai (Q:=fun e s'=>e = .normal ∧ Weak s' (mkS 96 [(8,.one (.r true (bool b))),(7,.one (.ptr 7 0 0 0)),(6,.one (.r true (R.val (.slice (some ⟨w4.heap.size,0,none⟩) LN.length LN.length)))),(0,.one (.r false (row nil 1 (rowsN LN)))),(4,.one (.r true (R.ref (.agg [int r,row nv 1 (ints vs),row ng 1 (bools gs),row nm 3 (edges ms)])))),(5,.one (.r true (bool b)))] [(7,.var 28 [.r true (int r),.own 601 0 vs.length 1,.own 602 0 gs.length 1,.own 603 0 ms.length 3]),(601,.sl 3 1 true (ints vs)),(602,.sl 4 1 true (bools gs)),(603,.sl 70 3 true (edges ms))])) ?_ hsim ?_)
 ·repeat' (first|refine wk ?_|((first|refine' w_q rfl rfl ?xa rfl ?_|refine' v_q rfl rfl ?xa rfl ?_|refine' Zh rfl rfl (Zb rfl) rfl ?xa rfl ?_|refine' Zi rfl rfl (Zb rfl) rfl ?xa rfl ?_);case xa=>first|exact Ze KQS rfl ⟨Zw (Za rfl) ⟨Zk,Z6 (Zf rfl) hlv.symm,Z6 (Zf rfl) hlg.symm,Z6 (Zf rfl) hlm.symm,trivial⟩,Zw (Za rfl) ⟨Zk,Zk,Zk,Zk,trivial⟩,trivial⟩|exact k_neB bo4 rfl rfl rfl)|(refine wkB ?_ ?_<;>intro hg_<;>try exact wkX)|fail)
  all_goals first
   | exact ⟨rfl,by (refine Zg [] rfl ?_ ?_ <;>exact wkW)⟩
   | (exfalso;first|omega|(simp at hg_;done))
 rintro e s_ a_ w_ ⟨rfl,hw_⟩ hs_
 replace hsim:=hw_ _ _ _ hs_
 clear hw_ hs_ s_
 -- the argument is as it was
 refine wpIn_seq (wpIn_seq (wpIn_region_lit ?_))
 refine (show wpListIn Fence.wide 9 Try.prog _ _ ([_,_,_] ++ [_,_]) _ _ from Zaj (Z:=fun _=>true) (K:=fun s'=>Weak s' (mkS 96 [(43,.one (.r true (row false 1 (rowsI (snds LN))))),(41,.one (.r true (R.val (.slice (some ⟨w4.heap.size,0,none⟩) LN.length LN.length)))),(8,.one (.r true (bool b))),(7,.one (.ptr 7 0 0 0)),(6,.one (.r true (R.val (.slice (some ⟨w4.heap.size,0,none⟩) LN.length LN.length)))),(0,.one (.r false (row nil 1 (rowsN LN)))),(4,.one (.r true (R.ref (.agg [int r,row nv 1 (ints vs),row ng 1 (bools gs),row nm 3 (edges ms)])))),(5,.one (.r true (bool b)))] [(7,.var 28 [.r true (int r),.own 601 0 vs.length 1,.own 602 0 gs.length 1,.own 603 0 ms.length 3]),(601,.sl 3 1 true (ints vs)),(602,.sl 4 1 true (bools gs)),(603,.sl 70 3 true (edges ms))])) [_,_] (fun s7 a7 w7 hK7 hs7'=>?_) [_,_,_] _ ?_ _ _ hsim)
 rotate_left
 ·repeat' (first|refine wk ?_|((first|refine' w_q rfl rfl ?xa rfl ?_|refine' v_q rfl rfl ?xa rfl ?_|refine' Zh rfl rfl (Zb rfl) rfl ?xa rfl ?_|refine' Zi rfl rfl (Zb rfl) rfl ?xa rfl ?_);case xa=>exact Ze KT rfl ⟨Zd (Za rfl),trivial⟩)|(refine wkB ?_ ?_<;>intro hg_<;>try exact wkX)|fail)
  all_goals first
   | ((refine Zg [] rfl ?_ ?_ <;>exact wkW);done)
 obtain ⟨ι7,own7,hs7⟩:=hK7 _ _ _ hs7'
 clear hK7 hs7' s7 hsim
 have e41 : a7.eval (.tmp 41) = .slice (some ⟨w4.heap.size,0,none⟩) LN.length LN.length:=((Zx (c:=Cx.young ⟨w7,own7⟩ w.heap.size true)).1 (hs7.env 41)).1
 have e43 : R.p (row false 1 (rowsI (snds LN))) (Cx.young ⟨w7,own7⟩ w.heap.size true) (a7.eval (.tmp 43)):=hs7.env 43
 refine wpListIn_plain rfl fun K hK=>op_wide (x_callS0 (xs:=[.tmp 41,.tmp 43]) (ys:=[.one (row false 1 (rowsI (snds LN))),.one (row false 1 (rowsI (snds LN)))]) (base:=w.heap.size) (ι:=ι7) (own:=own7) [] KE rfl rfl rfl rfl hs7.own_ ⟨Nat.le_trans hs7.base_.1 hs7.below.size,Glob.triv _ _⟩ ⟨by rw [e41]; exact hrow7 w7 (Zam hs7),R.mono _ (c:=Cx.young ⟨w7,own7⟩ w.heap.size true) (c':=⟨w7,fun _=>False⟩) (Cx.Ext.sub rfl (fun b h=>h.elim)) e43,trivial⟩ ?_)
 intro v8 w8 ι8 own8 hc8
 have hs8 : Sim' (bsI A (XB w4.heap.size A.heap.size) w.heap.size) (mkS 96 [(44,.one (.r true (bool true))),(43,.one (.r true (row false 1 (rowsI (snds LN))))),(41,.one (.r true (R.val (.slice (some ⟨w4.heap.size,0,none⟩) LN.length LN.length)))),(8,.one (.r true (bool b))),(7,.one (.ptr 7 0 0 0)),(6,.one (.r true (R.val (.slice (some ⟨w4.heap.size,0,none⟩) LN.length LN.length)))),(0,.one (.r false (row nil 1 (rowsN LN)))),(4,.one (.r true (R.ref (.agg [int r,row nv 1 (ints vs),row ng 1 (bools gs),row nm 3 (edges ms)])))),(5,.one (.r true (bool b)))] [(7,.var 28 [.r true (int r),.own 601 0 vs.length 1,.own 602 0 gs.length 1,.own 603 0 ms.length 3]),(601,.sl 3 1 true (ints vs)),(602,.sl 4 1 true (bools gs)),(603,.sl 70 3 true (edges ms))]) (a7.put (some 44) v8) w8 ι8 own8:=sim_app (t:=44) hs7 hc8 rfl
 refine hK _ _ ?_
 refine (show wpListIn Fence.wide 9 Try.prog _ _ ([_] ++ []) _ _ from Zaj (Z:=fun _=>true) (K:=fun s'=>Weak s' (mkS 96 [(45,.one (.r true (bool false))),(8,.one (.r true (bool b))),(7,.one (.ptr 7 0 0 0)),(6,.one (.r true (R.val (.slice (some ⟨w4.heap.size,0,none⟩) LN.length LN.length)))),(0,.one (.r false (row nil 1 (rowsN LN)))),(4,.one (.r true (R.ref (.agg [int r,row nv 1 (ints vs),row ng 1 (bools gs),row nm 3 (edges ms)])))),(5,.one (.r true (bool b)))] [(7,.var 28 [.r true (int r),.own 601 0 vs.length 1,.own 602 0 gs.length 1,.own 603 0 ms.length 3]),(601,.sl 3 1 true (ints vs)),(602,.sl 4 1 true (bools gs)),(603,.sl 70 3 true (edges ms))])) [] (fun s_ a_ w_ hw_ hs_=>wpListIn_nil ?_) [_] _ ?_ _ _ ⟨ι8,own8,hs8⟩)
 rotate_left
 ·repeat' (first|refine wk ?_|(refine wkB ?_ ?_<;>intro hg_<;>try exact wkX)|fail)
  all_goals first
   | ((refine Zg [] rfl ?_ ?_ <;>exact wkW);done)
 replace hsim:=hw_ _ _ _ hs_
 clear hw_ hs_ s_ hs8 hs7 hc8 K hK e41 e43
 refine Zai (Q:=fun e s'=>e = .normal ∧ Weak s' (mkS 96 [(8,.one (.r true (bool b))),(7,.one (.ptr 7 0 0 0)),(6,.one (.r true (R.val (.slice (some ⟨w4.heap.size,0,none⟩) LN.length LN.length)))),(0,.one (.r false (row nil 1 (rowsN LN)))),(4,.one (.r true (R.ref (.agg [int r,row nv 1 (ints vs),row ng 1 (bools gs),row nm 3 (edges ms)])))),(5,.one (.r true (bool b)))] [(7,.var 28 [.r true (int r),.own 601 0 vs.length 1,.own 602 0 gs.length 1,.own 603 0 ms.length 3]),(601,.sl 3 1 true (ints vs)),(602,.sl 4 1 true (bools gs)),(603,.sl 70 3 true (edges ms))])) ?_ hsim ?_
 ·repeat' (first|refine wk ?_|(refine wkB ?_ ?_<;>intro hg_<;>try exact wkX)|fail)
  all_goals first
   | exact ⟨rfl,by (refine Zg [] rfl ?_ ?_ <;>exact wkW)⟩
   | (exfalso;first|omega|(simp at hg_;done))
 rintro e s_ a_ w_ ⟨rfl,hw_⟩ hs_
 replace hsim:=hw_ _ _ _ hs_
 clear hw_ hs_ s_
 refine wpIn_seq (Zai (Q:=fun e s'=>e = .normal ∧ Weak s' (mkS 96 [(9,.one (.r true (int 1))),(8,.one (.r true (bool b))),(7,.one (.ptr 7 0 0 0)),(6,.one (.r true (R.val (.slice (some ⟨w4.heap.size,0,none⟩) LN.length LN.length)))),(0,.one (.r false (row nil 1 (rowsN LN)))),(4,.one (.r true (R.ref (.agg [int r,row nv 1 (ints vs),row ng 1 (bools gs),row nm 3 (edges ms)])))),(5,.one (.r true (bool b)))] [(7,.var 28 [.r true (int r),.own 601 0 vs.length 1,.own 602 0 gs.length 1,.own 603 0 ms.length 3]),(601,.sl 3 1 true (ints vs)),(602,.sl 4 1 true (bools gs)),(603,.sl 70 3 true (edges ms))])) ?_ hsim ?_)
 ·repeat' (first|refine wk ?_|(refine wkB ?_ ?_<;>intro hg_<;>try exact wkX)|fail)
  all_goals first
   | exact ⟨rfl,by (refine Zg [] rfl ?_ ?_ <;>exact wkW)⟩
   | (exfalso;first|omega|(simp at hg_;done))
 rintro e s_ a_ w_ ⟨rfl,hw_⟩ hs_
 replace hsim:=hw_ _ _ _ hs_
 clear hw_ hs_ s_
 -- the marks
 refine wpIn_seq (wpIn_region_lit ?_)
 refine (show wpListIn Fence.wide 9 Try.prog _ _ ([_,_] ++ [_,_]) _ _ from Zaj (Z:=fun _=>true) (K:=fun s'=>Weak s' (mkS 96 [(47,.one (.r true (int 1))),(46,.one (.r true (R.val (.slice (some ⟨w4.heap.size,0,none⟩) LN.length LN.length)))),(8,.one (.r true (bool b))),(7,.one (.ptr 7 0 0 0)),(6,.one (.r true (R.val (.slice (some ⟨w4.heap.size,0,none⟩) LN.length LN.length)))),(0,.one (.r false (row nil 1 (rowsN LN)))),(4,.one (.r true (R.ref (.agg [int r,row nv 1 (ints vs),row ng 1 (bools gs),row nm 3 (edges ms)])))),(5,.one (.r true (bool b)))] [(7,.var 28 [.r true (int r),.own 601 0 vs.length 1,.own 602 0 gs.length 1,.own 603 0 ms.length 3]),(601,.sl 3 1 true (ints vs)),(602,.sl 4 1 true (bools gs)),(603,.sl 70 3 true (edges ms))])) [_,_] (fun s7 a7 w7 hK7 hs7'=>?_) [_,_] _ ?_ _ _ hsim)
 rotate_left
 ·repeat' (first|refine wk ?_|(refine wkB ?_ ?_<;>intro hg_<;>try exact wkX)|fail)
  all_goals first
   | ((refine Zg [] rfl ?_ ?_ <;>exact wkW);done)
 obtain ⟨ι7,own7,hs7⟩:=hK7 _ _ _ hs7'
 clear hK7 hs7' s7 hsim
 have e46 : a7.eval (.tmp 46) = .slice (some ⟨w4.heap.size,0,none⟩) LN.length LN.length:=((Zx (c:=Cx.young ⟨w7,own7⟩ w.heap.size true)).1 (hs7.env 46)).1
 have e47 : a7.eval (.tmp 47) = .int .i64 1:=((Zx (c:=Cx.young ⟨w7,own7⟩ w.heap.size true)).1 (hs7.env 47)).1
 have hX7:=xok_keep hX (Zam hs7)
 have hBA7 : Below w.heap.size w w7:=(hBw.trans (hBA.mono hz4)).trans ⟨(Zam hs7).os,(Zam hs7).tape,(Zam hs7).output,(Zam hs7).size,fun k hk=>(Zam hs7).block k (Nat.lt_of_lt_of_le hk (Nat.le_trans hz4 hBA.size)) (by simp)⟩
 refine wpListIn_plain rfl fun K hK=>call_opN (xs:=[.tmp 46,.tmp 47]) rfl (Za1 Try.func12 kRf rfl) (by simp only [List.map_cons,List.map_nil,e46,e47]; exact lawsMarkIntSS LN g cc _ w4.heap.size A.heap.size w7 hX7 (fun j hj=>hX.inn.lt hj) hl hlbD) ?_
 rintro e B' ⟨z,rfl,hz0,hM⟩
 refine ⟨_,rfl,hK _ _ ?_⟩
 have hs9:=sim_put (t:=48) (u:=.int .i64 z) (sim_mark hs7 hM) (by decide) rfl
 have hBB : Below w.heap.size w B':=hBA7.trans ⟨hM.os,hM.tape,hM.output,hM.size,fun k hk=>hM.block k (Nat.lt_of_lt_of_le hk hBA7.size) (.inl oM)⟩
 have hown9 : ∀ b,own7 b → w.heap.size ≤ b:=fun b hb=>(hs7.own_ b hb).1
 refine (show wpListIn Fence.wide 9 Try.prog _ _ ([_] ++ []) _ _ from Zaj (Z:=fun _=>true) (K:=fun s'=>Weak s' (mkS 96 [(9,.one (.r true (int z))),(8,.one (.r true (bool b))),(7,.one (.ptr 7 0 0 0)),(0,.one (.r false (row nil 1 (rowsN LN)))),(4,.one (.r true (R.ref (.agg [int r,row nv 1 (ints vs),row ng 1 (bools gs),row nm 3 (edges ms)])))),(5,.one (.r true (bool b)))] [(7,.var 28 [.r true (int r),.own 601 0 vs.length 1,.own 602 0 gs.length 1,.own 603 0 ms.length 3]),(601,.sl 3 1 true (ints vs)),(602,.sl 4 1 true (bools gs)),(603,.sl 70 3 true (edges ms))])) [] (fun s_ a_ w_ hw_ hs_=>wpListIn_nil ?_) [_] _ ?_ _ _ ⟨ι7,own7,hs9⟩)
 rotate_left
 ·repeat' (first|refine wk ?_|(refine wkB ?_ ?_<;>intro hg_<;>try exact wkX)|fail)
  all_goals first
   | ((refine Zg [] rfl ?_ ?_ <;>exact wkW);done)
 replace hsim:=hw_ _ _ _ hs_
 clear hw_ hs_ s_ hs9 hs7 K hK e46 e47 hX7
 -- what is left
 refine Zai (Q:=fun e s=>e = .ret ∧ RetOk Try.prog s [.tmp 2] (.v (.one (bool true)))) ?_ hsim ?_
 ·clear hrow7 hX hM hlbD hus hra hat hu25 h25 h25'
  repeat' (first|refine wk ?_|((first|refine' w_q rfl rfl ?xa rfl ?_|refine' v_q rfl rfl ?xa rfl ?_|refine' Zh rfl rfl (Zb rfl) rfl ?xa rfl ?_|refine' Zi rfl rfl (Zb rfl) rfl ?xa rfl ?_);case xa=>first|exact Ze KT rfl ⟨Zd (Za rfl),trivial⟩|exact Ze KQS rfl ⟨Zw (Za rfl) ⟨Zk,Z6 (Zf rfl) hlv.symm,Z6 (Zf rfl) hlg.symm,Z6 (Zf rfl) hlm.symm,trivial⟩,Zw (Za rfl) ⟨Zk,Zk,Zk,Zk,trivial⟩,trivial⟩|exact k_neB bo4 rfl rfl rfl|exact Ze KH rfl ⟨Zw (Za rfl) ⟨Zk,Z6 (Zf rfl) hlV,Z6 (Zf rfl) hlG,Z6 (Zf rfl) hlM,trivial⟩,Zd (Za rfl),trivial⟩)|((first|refine' w_e rfl ?xa ?xb ?xc ?xe ?_|refine' v_e rfl ?xa ?xb ?xc ?xe ?_);(case xa=>first|exact Zj 64 rfl (Zm [(1000000000,601),(1000000001,602),(1000000002,603)] KMS rfl ⟨Zl (Za rfl),asE,trivial⟩ sbH rfl)|exact Zj 76 rfl (Zbf (ys:=[.one (row false 1 (rowsI (snds LN)))]) [(2000001,611),(2000002,612),(2000003,613)] KI rfl rfl ⟨Zd (Za rfl),trivial⟩ rfl rfl));(case xb|xc|xe=>rfl);try refine wkD ?_)|(refine wkB ?_ ?_<;>intro hg_<;>try exact wkX)|fail)
  all_goals first
   | exact ⟨rfl,(Zt rfl (Zo rfl)).2⟩
   | (exfalso;first|omega|(simp at hg_;done)|(simp at hg_;omega))
 rintro e s_ a_ w_ ⟨rfl,hret⟩ hs_
 obtain ⟨v,g1,g2⟩:=ret_run hs_ (fn:=Try.f3) rfl hret
 obtain ⟨ι9,own9,hs9⟩:=hs_
 refine ⟨hs9.defers,v,g1,v,rfl,g2,?_⟩
 exact hBB.trans ⟨hs9.below.os,hs9.below.tape,hs9.below.output,hs9.below.size,fun k hk=>hs9.below.block k (Nat.lt_of_lt_of_le hk hBB.size) (fun h=>by have:=hown9 k h; omega)⟩
end Go.Proofs.Ytmkijbfiilpccaa.Abs
