/- Exact laws over states by states: copies, comparisons, marks. No statement of the seat is proved here. -/
import Derived.Lib.Hide
import Derived.Test.YtmkijbfiilpccaaXlTy
import Derived.Test.YtmkijbfiilpccaaXlAExGH
import Derived.Test.YtmkijbfiilpccaaXlGStaCk
import Derived.Test.YtmkijbfiilpccaaXlASvc
set_option linter.unusedSimpArgs false
set_option linter.unusedVariables false
set_option maxRecDepth 100000
set_option maxHeartbeats 4000000
namespace Go.Proofs.Ytmkijbfiilpccaa.Abs
open Go.RowKit
open R (val row ref)
abbrev ZcX : Cell:=.r true (row true 0 [])
theorem f_markMsgS (es : List E3) (k : Int) (h0 : 0 ≤ k) (hk : k ≤ 100000000) (hl : es.length ≤ 1048576) :
  FnS Try.prog 35 [.one (.own 1000000000 0 es.length 3),.one (.r false (int k))] [(1000000000,.sl 70 3 true (edges es))] (.one (.r true (int (k + 3 * es.length)))) [(1000000000,.sl 70 3 true (edges (mixE k es es.length)))]:=by
 refine Zac (l:=[.tmp 4]) Try.func35 kRf rfl Try.ntmps35 rfl rfl ?_; simp only [dEnv,Nat.reduceAdd]
 repeat' (first|refine wk ?_|(refine wkB ?_ ?_<;>intro hg_<;>try exact wkX)|fail)
 refine Z7 (fun j : Nat=>j ≤ es.length) (fun j=>mkS 34 [(5,.one (.r true (int j))),(1,.one (.r (decide (0 < j)) (int (k + 3 * j)))),(0,.one (.own 1000000000 0 es.length 3))] [(1000000000,.sl 70 3 true (edges (mixE k es j)))]) (fun j=>es.length - j) 0 (Nat.zero_le _) (by (refine Zg [] rfl ?_ ?_<;>repeat' (first|refine wkS ?_ ?_|exact wkE|exact Zq oM))) ?_
 intro j hj
 have hlen : (edges (mixE k es j)).length = es.length:=by rw [Zv,mixE_len hj]
 by_cases hlt : j < es.length
 ·have hw : IntKind.i64.wrap ((j : Int) + 1) = ((j + 1 : Nat) : Int):=by rw [IntWalk.i64_in _ oM]; omega
  have hw1 : IntKind.i64.wrap (k + 3 * (j : Int) + 1) = k + 3 * (j : Int) + 1:=IntWalk.i64_in _ oM
  have hw2 : IntKind.i64.wrap (IntKind.i64.wrap (k + 3 * (j : Int) + 1) + 1) = k + 3 * (j : Int) + 2:=by rw [hw1,IntWalk.i64_in _ oM]; omega
  have hw3 : IntKind.i64.wrap (IntKind.i64.wrap (IntKind.i64.wrap (k + 3 * (j : Int) + 1) + 1) + 1) = k + 3 * ((j + 1 : Nat) : Int):=by rw [hw2,IntWalk.i64_in _ oM]; omega
  have hj0 : 0 + ((j : Nat) : Int).toNat = j:=by rw [Nat.zero_add,Int.toNat_natCast]
  have hg0 : (edges (mixE k es j))[0 + ((j : Nat) : Int).toNat]? = some (edgeP es[j]):=by
   rw [hj0]; unfold edges; rw [List.getElem?_map,mixE_get hlt]; rfl
  generalize es[j] = e at *
  have hg1 : ((edges (mixE k es j)).set (0 + ((j : Nat) : Int).toNat) (setF (edgeP e) 0 (int (k + 3 * j))))[0 + ((j : Nat) : Int).toNat]? = some (setF (edgeP e) 0 (int (k + 3 * j))):=by
   rw [List.getElem?_set_self oM]
  have hg2 : (((edges (mixE k es j)).set (0 + ((j : Nat) : Int).toNat) (setF (edgeP e) 0 (int (k + 3 * j)))).set (0 + ((j : Nat) : Int).toNat) (setF (setF (edgeP e) 0 (int (k + 3 * j))) 1 (int (IntKind.i64.wrap (k + 3 * j + 1)))))[0 + ((j : Nat) : Int).toNat]? = some (setF (setF (edgeP e) 0 (int (k + 3 * j))) 1 (int (IntKind.i64.wrap (k + 3 * j + 1)))):=by
   rw [List.getElem?_set_self (by rw [List.length_set]; omega)]
  have hS : (((edges (mixE k es j)).set (0 + ((j : Nat) : Int).toNat) (setF (edgeP e) 0 (int (k + 3 * j)))).set (0 + ((j : Nat) : Int).toNat) (setF (setF (edgeP e) 0 (int (k + 3 * j))) 1 (int (IntKind.i64.wrap (k + 3 * j + 1))))).set (0 + ((j : Nat) : Int).toNat) (setF (setF (setF (edgeP e) 0 (int (k + 3 * j))) 1 (int (IntKind.i64.wrap (k + 3 * j + 1)))) 2 (int (IntKind.i64.wrap (IntKind.i64.wrap (k + 3 * j + 1) + 1)))) = edges (mixE k es (j + 1)):=by
   rw [List.set_set,List.set_set,hj0,hw2,hw1,← mixE_set hlt,← edges_setN]; rfl
  repeat' (first|refine wk ?_|((first|refine' w_q rfl rfl ?xa rfl ?_|refine' v_q rfl rfl ?xa rfl ?_|refine' Zh rfl rfl (Zb rfl) rfl ?xa rfl ?_|refine' Zi rfl rfl (Zb rfl) rfl ?xa rfl ?_);case xa=>exact k_indexO tbOk rfl rfl rfl rfl oM oM)|((first|refine' w_e rfl ?xa ?xb ?xc ?xe ?_|refine' v_e rfl ?xa ?xb ?xc ?xe ?_);(case xa=>first|exact e_storeF tbOk rfl rfl rfl rfl rfl hg0 rfl rfl oM|exact e_storeF tbOk rfl rfl rfl rfl rfl hg1 rfl rfl oM|exact e_storeF tbOk rfl rfl rfl rfl rfl hg2 rfl rfl oM);(case xb|xc|xe=>rfl);try refine wkD ?_)|(refine wkB ?_ ?_<;>intro hg_<;>try exact wkX)|fail)
  all_goals first
   | exact ⟨j + 1,by omega,by (refine Zg [] rfl ?_ ?_<;>repeat' (first|refine wkS ?_ ?_|exact wkE|exact Zq hw|exact Zq hw3|exact Zaf rfl hS)),by omega⟩
 ·obtain rfl : j = es.length:=by omega
  repeat' (first|refine wk ?_|(refine wkB ?_ ?_<;>intro hg_<;>try exact wkX)|fail)
  all_goals first
   | exact Zu [] rfl sbH (retD_tmp rfl imp_plain)
theorem f_heldMsgS (nil : Bool) (k : Int) (n : Nat) (h0 : 0 ≤ k) (hk : k ≤ 100000000) (hl : n ≤ 1048576) :
  Fn Try.prog 38 [.one (row nil 3 (edges (upE k n))),iP k] (.v (iP (k + 3 * n))):=by
 have hlen : (edges (upE k n)).length = n:=by rw [Zv,upE_len]
 refine Zy (l:=[.tmp 4]) Try.func38 kRf rfl Try.ntmps38 rfl rfl ?_; simp only [argEnv,P0.d,Nat.reduceAdd]
 repeat' (first|refine wk ?_|(refine wkB ?_ ?_<;>intro hg_<;>try exact wkX)|fail)
 refine Z7 (fun j : Nat=>j ≤ n) (fun j=>mkS 40 [(5,.one (.r true (int j))),(1,.one (.r (decide (0 < j)) (int (k + 3 * j)))),(0,.one (.r false (row nil 3 (edges (upE k n)))))] []) (fun j=>n - j) 0 (Nat.zero_le _) (by (refine Zg [] rfl ?_ ?_<;>repeat' (first|refine wkS ?_ ?_|exact wkE|exact Zq oM))) ?_
 intro j hj
 by_cases hlt : j < n
 ·have hix : (edges (upE k n))[((j : Nat) : Int).toNat]? = some (edgeP (mkE3 k j)):=by
   unfold edges
   rw [Int.toNat_natCast,List.getElem?_map,upE_get hlt]; rfl
  have hw : IntKind.i64.wrap ((j : Int) + 1) = ((j + 1 : Nat) : Int):=by rw [IntWalk.i64_in _ oM]; omega
  have hw1 : IntKind.i64.wrap (k + 3 * (j : Int) + 1) = k + 3 * (j : Int) + 1:=IntWalk.i64_in _ oM
  have hw2 : IntKind.i64.wrap (IntKind.i64.wrap (k + 3 * (j : Int) + 1) + 1) = k + 3 * (j : Int) + 2:=by rw [hw1,IntWalk.i64_in _ oM]; omega
  have hw3 : IntKind.i64.wrap (IntKind.i64.wrap (IntKind.i64.wrap (k + 3 * (j : Int) + 1) + 1) + 1) = k + 3 * ((j + 1 : Nat) : Int):=by rw [hw2,IntWalk.i64_in _ oM]; omega
  unfold mkE3 at hix
  repeat' (first|refine wk ?_|((first|refine' w_q rfl rfl ?xa rfl ?_|refine' v_q rfl rfl ?xa rfl ?_|refine' Zh rfl rfl (Zb rfl) rfl ?xa rfl ?_|refine' Zi rfl rfl (Zb rfl) rfl ?xa rfl ?_);case xa=>exact Zn tbOk rfl rfl rfl rfl oM (by exact hix))|(refine wkB ?_ ?_<;>intro hg_<;>try exact wkX)|fail)
  all_goals first
   | (exfalso; omega)
   | (exfalso; rw [hw2,hw1] at *; omega)
   | (exfalso; rw [hw2] at *; omega)
   | (exfalso; rw [hw1] at *; omega)
   | exact ⟨j + 1,by omega,by (refine Zg [] rfl ?_ ?_<;>repeat' (first|refine wkS ?_ ?_|exact wkE|exact Zq hw|exact Zq hw3)),by omega⟩
 ·obtain rfl : j = n:=by omega
  repeat' (first|refine wk ?_|(refine wkB ?_ ?_<;>intro hg_<;>try exact wkX)|fail)
  all_goals first
   | exact Zt rfl (Z4 rfl)
theorem f_eqMsg (e : E3) : Fn Try.prog 65 [edgeP e,edgeP e] (.v (.one (bool true))):=by
 refine Zy (l:=[.tmp 4]) Try.func65 kRf rfl Try.ntmps65 rfl rfl ?_; simp only [argEnv,P0.d,Nat.reduceAdd,edgeP,List.map_cons,List.map_nil]
 repeat' (first|refine wk ?_|(refine wkB ?_ ?_<;>intro hg_<;>try exact wkX)|fail)
 all_goals first
  | exact Zt rfl (Zo rfl)
  | (exfalso; simp at *; done)
theorem f_eqMsgS (nil nil' : Bool) (es : List E3) (hl : es.length ≤ 1048576) : Fn Try.prog 32 [.one (row nil 3 (edges es)),.one (row nil' 3 (edges es))] (.v (.one (bool true))):=by
 have hlen:=Zv es
 refine Zy (l:=[.tmp 4]) Try.func32 kRf rfl Try.ntmps32 rfl rfl ?_; simp only [argEnv,P0.d,Nat.reduceAdd,List.map_cons,List.map_nil]
 repeat' (first|refine wk ?_|(refine wkB ?_ ?_<;>intro hg_<;>try exact wkX)|fail)
 refine Z7 (fun k : Nat=>k ≤ es.length) (fun k=>mkS 27 [(5,.one (.r true (int k))),(0,.one (.r false (row nil 3 (edges es)))),(1,.one (.r false (row nil' 3 (edges es))))] []) (fun k=>es.length - k) 0 (Nat.zero_le _) (by (refine Zg [] rfl ?_ ?_ <;>exact wkW)) ?_
 intro k hk
 repeat' (first|refine wk ?_|((first|refine' w_q rfl rfl ?xa rfl ?_|refine' v_q rfl rfl ?xa rfl ?_|refine' Zh rfl rfl (Zb rfl) rfl ?xa rfl ?_|refine' Zi rfl rfl (Zb rfl) rfl ?xa rfl ?_);case xa=>first|exact Zn tbOk rfl rfl rfl rfl oM (edges_at oM)|exact Ze (f_eqMsg (_,_,_)) rfl ⟨Zw (Za rfl) ⟨Zk,Zk,Zk,trivial⟩,Zw (Za rfl) ⟨Zk,Zk,Zk,trivial⟩,trivial⟩)|(refine wkB ?_ ?_<;>intro hg_<;>try exact wkX)|fail)
 ·exact ⟨k + 1,by omega,by (refine Zg [] rfl ?_ ?_ <;>exact wkW),by omega⟩
 ·exact Zt rfl (Zo rfl)
theorem f_eqBoolS (nil nil' : Bool) (xs : List Bool) (hl : xs.length ≤ 1048576) : Fn Try.prog 31 [.one (row nil 1 (bools xs)),.one (row nil' 1 (bools xs))] (.v (.one (bool true))):=by
 have hlen:=Zab xs
 refine Zy (l:=[.tmp 4]) Try.func31 kRf rfl Try.ntmps31 rfl rfl ?_; simp only [argEnv,P0.d,Nat.reduceAdd,List.map_cons,List.map_nil]
 repeat' (first|refine wk ?_|(refine wkB ?_ ?_<;>intro hg_<;>try exact wkX)|fail)
 refine Z7 (fun k : Nat=>k ≤ xs.length) (fun k=>mkS 26 [(5,.one (.r true (int k))),(0,.one (.r false (row nil 1 (bools xs)))),(1,.one (.r false (row nil' 1 (bools xs))))] []) (fun k=>xs.length - k) 0 (Nat.zero_le _) (by (refine Zg [] rfl ?_ ?_ <;>exact wkW)) ?_
 intro k hk
 by_cases hlt : k < xs.length
 ·have hix:=bools_at hlt
  generalize xs[k] = b at *
  cases b
  all_goals
   repeat' (first|refine wk ?_|((first|refine' w_q rfl rfl ?xa rfl ?_|refine' v_q rfl rfl ?xa rfl ?_|refine' Zh rfl rfl (Zb rfl) rfl ?xa rfl ?_|refine' Zi rfl rfl (Zb rfl) rfl ?xa rfl ?_);case xa=>first|exact Zn tbOk rfl rfl rfl rfl oM hix|exact k_neB bo4 rfl rfl rfl)|(refine wkB ?_ ?_<;>intro hg_<;>try exact wkX)|fail)
   all_goals first
    | exact ⟨k + 1,by omega,by (refine Zg [] rfl ?_ ?_ <;>exact wkW),by omega⟩
    | (exfalso; simp at hg_; done)
 ·repeat' (first|refine wk ?_|(refine wkB ?_ ?_<;>intro hg_<;>try exact wkX)|fail)
  all_goals first
   | exact Zt rfl (Zo rfl)
def mB (k : Int) (i : Nat) : Bool:=decide ((k + (i : Int)).tmod 3 = 0)
def upB (k : Int) (n : Nat) : List Bool:=(List.range n).map (mB k)
theorem upB_len (k : Int) (n : Nat) : (upB k n).length = n:=by unfold upB; simp
theorem upB_get {k : Int} {n i : Nat} (h : i < n) : (upB k n)[i]? = some (mB k i):=by unfold upB; simp [h]
def mixB (k : Int) (xs : List Bool) (j : Nat) : List Bool:=upB k j ++ xs.drop j
theorem mixB_len {k : Int} {xs : List Bool} {j : Nat} (h : j ≤ xs.length) : (mixB k xs j).length = xs.length:=by unfold mixB; rw [List.length_append,upB_len,List.length_drop]; omega
theorem mixB_set {k : Int} {xs : List Bool} {j : Nat} (h : j < xs.length) : (mixB k xs j).set j (mB k j) = mixB k xs (j + 1):=by
 unfold mixB
 rw [List.set_append_right _ _ (by rw [upB_len]; omega),upB_len,Nat.sub_self,List.drop_eq_getElem_cons h,List.set_cons_zero]
 unfold upB
 rw [List.range_succ,List.map_append,List.append_assoc]; rfl
theorem mixB_all {k : Int} {xs : List Bool} : mixB k xs xs.length = upB k xs.length:=by unfold mixB; rw [List.drop_length,List.append_nil]
theorem bools_setN (xs : List Bool) (i : Nat) (x : Bool) : (bools xs).set i (.one (bool x)) = bools (xs.set i x):=by unfold bools; rw [List.map_set]
theorem f_markBoolS (xs : List Bool) (k : Int) (h0 : 0 ≤ k) (hk : k ≤ 100000000) (hl : xs.length ≤ 1048576) :
  FnS Try.prog 34 [.one (.own 1000000000 0 xs.length 1),.one (.r false (int k))] [(1000000000,.sl 4 1 true (bools xs))] (.one (.r true (int (k + xs.length)))) [(1000000000,.sl 4 1 true (bools (upB k xs.length)))]:=by
 refine Zac (l:=[.tmp 4]) Try.func34 kRf rfl Try.ntmps34 rfl rfl ?_; simp only [dEnv,Nat.reduceAdd]
 repeat' (first|refine wk ?_|(refine wkB ?_ ?_<;>intro hg_<;>try exact wkX)|fail)
 refine Z7 (fun j : Nat=>j ≤ xs.length) (fun j=>mkS 21 [(5,.one (.r true (int j))),(1,.one (.r (decide (0 < j)) (int (k + j)))),(0,.one (.own 1000000000 0 xs.length 1))] [(1000000000,.sl 4 1 true (bools (mixB k xs j)))]) (fun j=>xs.length - j) 0 (Nat.zero_le _) (by (refine Zg [] rfl ?_ ?_<;>repeat' (first|refine wkS ?_ ?_|exact wkE|exact Zq oM))) ?_
 intro j hj
 have hlen : (bools (mixB k xs j)).length = xs.length:=by rw [Zab,mixB_len hj]
 by_cases hlt : j < xs.length
 ·have hS : (bools (mixB k xs j)).set (0 + ((j : Nat) : Int).toNat) (.one (bool (decide ((k + (j : Int)).tmod 3 = 0)))) = bools (mixB k xs (j + 1)):=by rw [Nat.zero_add,Int.toNat_natCast,← mixB_set hlt,← bools_setN]; rfl
  have hw : IntKind.i64.wrap ((j : Int) + 1) = ((j + 1 : Nat) : Int):=by rw [IntWalk.i64_in _ oM]; omega
  have hw2 : IntKind.i64.wrap (k + (j : Int) + 1) = k + ((j + 1 : Nat) : Int):=by rw [IntWalk.i64_in _ oM]; omega
  repeat' (first|refine wk ?_|((first|refine' w_q rfl rfl ?xa rfl ?_|refine' v_q rfl rfl ?xa rfl ?_|refine' Zh rfl rfl (Zb rfl) rfl ?xa rfl ?_|refine' Zi rfl rfl (Zb rfl) rfl ?xa rfl ?_);case xa=>first|exact k_rem rfl rfl rfl oM|exact k_indexO tbOk rfl rfl rfl rfl oM oM)|((first|refine' w_e rfl ?xa ?xb ?xc ?xe ?_|refine' v_e rfl ?xa ?xb ?xc ?xe ?_);(case xa=>exact e_storeS tbOk rfl rfl rfl rfl rfl rfl rfl rfl oM);(case xb|xc|xe=>rfl);try refine wkD ?_)|(refine wkB ?_ ?_<;>intro hg_<;>try exact wkX)|fail)
  all_goals first
   | exact ⟨j + 1,by omega,by (refine Zg [] rfl ?_ ?_<;>repeat' (first|refine wkS ?_ ?_|exact wkE|exact Zq hw|exact Zq hw2|exact Zaf rfl hS)),by omega⟩
 ·obtain rfl : j = xs.length:=by omega
  rw [mixB_all]
  repeat' (first|refine wk ?_|(refine wkB ?_ ?_<;>intro hg_<;>try exact wkX)|fail)
  all_goals first
   | exact Zu [] rfl sbH (retD_tmp rfl imp_plain)
theorem f_heldBoolS (nil : Bool) (k : Int) (n : Nat) (h0 : 0 ≤ k) (hk : k ≤ 100000000) (hl : n ≤ 1048576) :
  Fn Try.prog 37 [.one (row nil 1 (bools (upB k n))),iP k] (.v (iP (k + n))):=by
 have hlen : (bools (upB k n)).length = n:=by rw [Zab,upB_len]
 refine Zy (l:=[.tmp 4]) Try.func37 kRf rfl Try.ntmps37 rfl rfl ?_; simp only [argEnv,P0.d,Nat.reduceAdd]
 repeat' (first|refine wk ?_|(refine wkB ?_ ?_<;>intro hg_<;>try exact wkX)|fail)
 refine Z7 (fun j : Nat=>j ≤ n) (fun j=>mkS 23 [(5,.one (.r true (int j))),(1,.one (.r (decide (0 < j)) (int (k + j)))),(0,.one (.r false (row nil 1 (bools (upB k n)))))] []) (fun j=>n - j) 0 (Nat.zero_le _) (by (refine Zg [] rfl ?_ ?_<;>repeat' (first|refine wkS ?_ ?_|exact wkE|exact Zq oM))) ?_
 intro j hj
 by_cases hlt : j < n
 ·have hix : (bools (upB k n))[((j : Nat) : Int).toNat]? = some (.one (bool (decide ((k + (j : Int)).tmod 3 = 0)))):=by
   unfold bools
   rw [Int.toNat_natCast,List.getElem?_map,upB_get hlt]; rfl
  have hw : IntKind.i64.wrap ((j : Int) + 1) = ((j + 1 : Nat) : Int):=by rw [IntWalk.i64_in _ oM]; omega
  have hw2 : IntKind.i64.wrap (k + (j : Int) + 1) = k + ((j + 1 : Nat) : Int):=by rw [IntWalk.i64_in _ oM]; omega
  repeat' (first|refine wk ?_|((first|refine' w_q rfl rfl ?xa rfl ?_|refine' v_q rfl rfl ?xa rfl ?_|refine' Zh rfl rfl (Zb rfl) rfl ?xa rfl ?_|refine' Zi rfl rfl (Zb rfl) rfl ?xa rfl ?_);case xa=>first|exact Zn tbOk rfl rfl rfl rfl oM (by exact hix)|exact k_rem rfl rfl rfl oM|exact k_neB bo4 rfl rfl rfl)|(refine wkB ?_ ?_<;>intro hg_<;>try exact wkX)|fail)
  all_goals first
   | exact ⟨j + 1,by omega,by (refine Zg [] rfl ?_ ?_<;>repeat' (first|refine wkS ?_ ?_|exact wkE|exact Zq hw|exact Zq hw2)),by omega⟩
   | (exfalso; revert hg_; by_cases hq : (k + (j : Int)).tmod 3 = 0<;>simp [hq]; done)
 ·obtain rfl : j = n:=by omega
  repeat' (first|refine wk ?_|(refine wkB ?_ ?_<;>intro hg_<;>try exact wkX)|fail)
  all_goals first
   | exact Zt rfl (Z4 rfl)
theorem f_markMsg0 (nil : Bool) (k : Int) : Fn Try.prog 35 [.one (row nil 3 []),iP k] (.v (iP k)):=by
 refine Zy (l:=[.tmp 4]) Try.func35 kRf rfl Try.ntmps35 rfl rfl ?_; simp only [argEnv,P0.d,Nat.reduceAdd]
 repeat' (first|refine wk ?_|(refine wkB ?_ ?_<;>intro hg_<;>try exact wkX)|fail)
 refine Z7 (fun _ : Nat=>True) (fun _=>mkS 34 [(5,.one (.r true (int 0))),(1,.one (.r false (int k))),(0,.one (.r false (row nil 3 [])))] []) (fun _=>0) 0 trivial (by (refine Zg [] rfl ?_ ?_ <;>exact wkW)) ?_
 rintro _ _
 repeat' (first|refine wk ?_|(refine wkB ?_ ?_<;>intro hg_<;>try exact wkX)|fail)
 all_goals first
  | exact Zt rfl (Z4 rfl)
  | (exfalso; simp at *; done)
theorem f_markBool0 (nil : Bool) (k : Int) : Fn Try.prog 34 [.one (row nil 1 []),iP k] (.v (iP k)):=by
 refine Zy (l:=[.tmp 4]) Try.func34 kRf rfl Try.ntmps34 rfl rfl ?_; simp only [argEnv,P0.d,Nat.reduceAdd]
 repeat' (first|refine wk ?_|(refine wkB ?_ ?_<;>intro hg_<;>try exact wkX)|fail)
 refine Z7 (fun _ : Nat=>True) (fun _=>mkS 21 [(5,.one (.r true (int 0))),(1,.one (.r false (int k))),(0,.one (.r false (row nil 1 [])))] []) (fun _=>0) 0 trivial (by (refine Zg [] rfl ?_ ?_ <;>exact wkW)) ?_
 rintro _ _
 repeat' (first|refine wk ?_|(refine wkB ?_ ?_<;>intro hg_<;>try exact wkX)|fail)
 all_goals first
  | exact Zt rfl (Z4 rfl)
  | (exfalso; simp at *; done)
theorem f_eqState (r : Int) (nv ng nm nv' ng' nm' : Bool) (vs : List Int) (gs : List Bool) (ms : List E3) (h1 : vs.length ≤ 1048576) (h2 : gs.length ≤ 1048576) (h3 : ms.length ≤ 1048576) :
  Fn Try.prog 10 [stateP r nv vs ng gs nm ms,stateP r nv' vs ng' gs nm' ms] (.v (.one (bool true))):=by
 have K1:=f_eqIntS nv nv' vs h1
 have K2:=f_eqBoolS ng ng' gs h2
 have K3:=f_eqMsgS nm nm' ms h3
 refine Zy (l:=[.tmp 4]) Try.func10 kRf rfl Try.ntmps10 rfl rfl ?_; simp only [argEnv,P0.d,Nat.reduceAdd,stateP,List.map_cons,List.map_nil]
 repeat' (first|refine wk ?_|((first|refine' w_q rfl rfl ?xa rfl ?_|refine' v_q rfl rfl ?xa rfl ?_|refine' Zh rfl rfl (Zb rfl) rfl ?xa rfl ?_|refine' Zi rfl rfl (Zb rfl) rfl ?xa rfl ?_);case xa=>first|exact Ze K1 rfl ⟨Zd (Za rfl),Zd (Za rfl),trivial⟩|exact Ze K2 rfl ⟨Zd (Za rfl),Zd (Za rfl),trivial⟩|exact Ze K3 rfl ⟨Zd (Za rfl),Zd (Za rfl),trivial⟩)|(refine wkB ?_ ?_<;>intro hg_<;>try exact wkX)|fail)
 all_goals first
  | exact Zt rfl (Zo rfl)
  | (exfalso; simp at *; done)
theorem f_heldState (r : Int) (nv ng nm : Bool) (k : Int) (a b c : Nat) (h0 : 0 ≤ k) (hk : k ≤ 10000000) (h1 : a ≤ 1048576) (h2 : b ≤ 1048576) (h3 : c ≤ 1048576) :
  Fn Try.prog 14 [stateP r nv (upF k a) ng (upB (k + a) b) nm (upE (k + a + b) c),iP k] (.v (iP (k + a + b + 3 * c))):=by
 have K1:=f_heldIntS nv k a h0 oM h1
 have K2:=f_heldBoolS ng (k + a) b oM oM h2
 have K3:=f_heldMsgS nm (k + a + b) c oM oM h3
 refine Zy (l:=[.tmp 4]) Try.func14 kRf rfl Try.ntmps14 rfl rfl ?_; simp only [argEnv,P0.d,Nat.reduceAdd,stateP,List.map_cons,List.map_nil]
 repeat' (first|refine wk ?_|((first|refine' w_q rfl rfl ?xa rfl ?_|refine' v_q rfl rfl ?xa rfl ?_|refine' Zh rfl rfl (Zb rfl) rfl ?xa rfl ?_|refine' Zi rfl rfl (Zb rfl) rfl ?xa rfl ?_);case xa=>first|exact Ze K1 rfl ⟨Zd (Za rfl),Zd (Za rfl),trivial⟩|exact Ze K2 rfl ⟨Zd (Za rfl),Zd (Za rfl),trivial⟩|exact Ze K3 rfl ⟨Zd (Za rfl),Zd (Za rfl),trivial⟩)|(refine wkB ?_ ?_<;>intro hg_<;>try exact wkX)|fail)
 all_goals first
  | exact Zt rfl (Z4 rfl)
  | (exfalso; omega)
theorem f_markStZZ (r k : Int) (nv ng nm : Bool) : Fn Try.prog 13 [stateP r nv [] ng [] nm [],iP k] (.v (iP k)):=by
 have K1:=f_markInt0 nv k
 have K2:=f_markBool0 ng k
 have K3:=f_markMsg0 nm k
 refine Zy (l:=[.tmp 4]) Try.func13 kRf rfl Try.ntmps13 rfl rfl ?_; simp only [argEnv,P0.d,Nat.reduceAdd,stateP,List.map_cons,List.map_nil]
 repeat' (first|refine wk ?_|((first|refine' w_q rfl rfl ?xa rfl ?_|refine' v_q rfl rfl ?xa rfl ?_|refine' Zh rfl rfl (Zb rfl) rfl ?xa rfl ?_|refine' Zi rfl rfl (Zb rfl) rfl ?xa rfl ?_);case xa=>first|exact Ze K1 rfl ⟨Zd (Za rfl),Zd (Za rfl),trivial⟩|exact Ze K2 rfl ⟨Zd (Za rfl),Zd (Za rfl),trivial⟩|exact Ze K3 rfl ⟨Zd (Za rfl),Zd (Za rfl),trivial⟩)|(refine wkB ?_ ?_<;>intro hg_<;>try exact wkX)|fail)
 all_goals first
  | exact Zt rfl (Z4 rfl)
  | (exfalso; omega)
theorem f_markStOZ (mk : Bool) (r : Int) (vs : List Int) (gs : List Bool) (k : Int) (h0 : 0 ≤ k) (hk : k ≤ 10000000) (h1 : vs.length ≤ 1048576) (h2 : gs.length ≤ 1048576) :
  FnS Try.prog 13 [.agg [.r mk (int r),.own 1000000000 0 vs.length 1,.own 1000000001 0 gs.length 1,ZcX],.one (.r false (int k))] [(1000000000,.sl 3 1 true (ints vs)),(1000000001,.sl 4 1 true (bools gs))] (.one (.r true (int (k + vs.length + gs.length)))) [(1000000000,.sl 3 1 true (ints (upF k vs.length))),(1000000001,.sl 4 1 true (bools (upB (k + vs.length) gs.length)))]:=by
 have K1:=f_markIntS vs k h0 oM h1
 have K2:=f_markBoolS gs (k + vs.length) oM oM h2
 have K3:=f_markMsg0 true (k + vs.length + gs.length)
 refine Zac (l:=[.tmp 4]) Try.func13 kRf rfl Try.ntmps13 rfl rfl ?_; simp only [dEnv,Nat.reduceAdd]
 repeat' (first|refine wk ?_|((first|refine' w_q rfl rfl ?xa rfl ?_|refine' v_q rfl rfl ?xa rfl ?_|refine' Zh rfl rfl (Zb rfl) rfl ?xa rfl ?_|refine' Zi rfl rfl (Zb rfl) rfl ?xa rfl ?_);case xa=>exact Ze K3 rfl ⟨asA_nil (Za rfl),Zd (Za rfl),trivial⟩)|((first|refine' w_e rfl ?xa ?xb ?xc ?xe ?_|refine' v_e rfl ?xa ?xb ?xc ?xe ?_);(case xa=>first|exact Zj 8 rfl (Zm [] K1 rfl ⟨Zl (Za rfl),asE,trivial⟩ sbH rfl)|exact Zj 12 rfl (Zm [(1000000000,1000000001)] K2 rfl ⟨Zl (Za rfl),asE,trivial⟩ sbH rfl));(case xb|xc|xe=>rfl);try refine wkD ?_)|(refine wkB ?_ ?_<;>intro hg_<;>try exact wkX)|fail)
 all_goals first
  | exact Zu [] rfl sbH (retD_tmp rfl imp_plain)
theorem f_markStOO (mk : Bool) (r : Int) (vs : List Int) (gs : List Bool) (ms : List E3) (k : Int) (h0 : 0 ≤ k) (hk : k ≤ 10000000) (h1 : vs.length ≤ 1048576) (h2 : gs.length ≤ 1048576) (h3 : ms.length ≤ 1048576) :
  FnS Try.prog 13 [.agg [.r mk (int r),.own 1000000000 0 vs.length 1,.own 1000000001 0 gs.length 1,.own 1000000002 0 ms.length 3],.one (.r false (int k))] [(1000000000,.sl 3 1 true (ints vs)),(1000000001,.sl 4 1 true (bools gs)),(1000000002,.sl 70 3 true (edges ms))] (.one (.r true (int (k + vs.length + gs.length + 3 * ms.length)))) [(1000000000,.sl 3 1 true (ints (upF k vs.length))),(1000000001,.sl 4 1 true (bools (upB (k + vs.length) gs.length))),(1000000002,.sl 70 3 true (edges (upE (k + vs.length + gs.length) ms.length)))]:=by
 have K1:=f_markIntS vs k h0 oM h1
 have K2:=f_markBoolS gs (k + vs.length) oM oM h2
 have K3:=f_markMsgS ms (k + vs.length + gs.length) oM oM h3
 rw [mixE_all] at K3
 refine Zac (l:=[.tmp 4]) Try.func13 kRf rfl Try.ntmps13 rfl rfl ?_; simp only [dEnv,Nat.reduceAdd]
 repeat' (first|refine wk ?_|((first|refine' w_e rfl ?xa ?xb ?xc ?xe ?_|refine' v_e rfl ?xa ?xb ?xc ?xe ?_);(case xa=>first|exact Zj 8 rfl (Zm [] K1 rfl ⟨Zl (Za rfl),asE,trivial⟩ sbH rfl)|exact Zj 12 rfl (Zm [(1000000000,1000000001)] K2 rfl ⟨Zl (Za rfl),asE,trivial⟩ sbH rfl)|exact Zj 16 rfl (Zm [(1000000000,1000000002)] K3 rfl ⟨Zl (Za rfl),asE,trivial⟩ sbH rfl));(case xb|xc|xe=>rfl);try refine wkD ?_)|(refine wkB ?_ ?_<;>intro hg_<;>try exact wkX)|fail)
 all_goals first
  | exact Zu [] rfl sbH (retD_tmp rfl imp_plain)
end Go.Proofs.Ytmkijbfiilpccaa.Abs
