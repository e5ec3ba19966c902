/- Exact laws over graphs by states: copies that may be marked, marks. No statement of the seat is proved here. -/
import Derived.Lib.Hide
import Derived.Test.YtmkijbfiilpccaaXlTy
import Derived.Test.YtmkijbfiilpccaaXlAbsY
import Derived.Test.YtmkijbfiilpccaaXlALaw0
import Derived.Test.YtmkijbfiilpccaaXlAGraph
import Derived.Test.YtmkijbfiilpccaaXlADrwI
set_option linter.unusedSimpArgs false
set_option linter.unusedVariables false
set_option maxRecDepth 100000
set_option maxHeartbeats 4000000
namespace Go.Proofs.Ytmkijbfiilpccaa.Abs
open Go.RowKit
open R (val row ref)
def upF (k : Int) (n : Nat) : List Int:=(List.range n).map (fun i : Nat=>k + (i : Int))
theorem upF_len (k : Int) (n : Nat) : (upF k n).length = n:=by unfold upF; simp
theorem upF_get {k : Int} {n i : Nat} (h : i < n) : (upF k n)[i]? = some (k + (i : Int)):=by unfold upF; simp [h]
def mixF (k : Int) (xs : List Int) (j : Nat) : List Int:=upF k j ++ xs.drop j
theorem mixF_len {k : Int} {xs : List Int} {j : Nat} (h : j ≤ xs.length) : (mixF k xs j).length = xs.length:=by unfold mixF; rw [List.length_append,upF_len,List.length_drop]; omega
theorem mixF_set {k : Int} {xs : List Int} {j : Nat} (h : j < xs.length) : (mixF k xs j).set j (k + (j : Int)) = mixF k xs (j + 1):=by
 unfold mixF
 rw [List.set_append_right _ _ (by rw [upF_len]; omega),upF_len,Nat.sub_self,List.drop_eq_getElem_cons h,List.set_cons_zero]
 unfold upF
 rw [List.range_succ,List.map_append,List.append_assoc]; rfl
theorem mixF_all {k : Int} {xs : List Int} : mixF k xs xs.length = upF k xs.length:=by unfold mixF; rw [List.drop_length,List.append_nil]
theorem ints_setN (xs : List Int) (i : Nat) (x : Int) : (ints xs).set i (iP x) = ints (xs.set i x):=by unfold ints; rw [List.map_set]
theorem imp_plain {m m' : Bool} {u : Value} : DImp (.one (.r m (val u))) (.one (.r m' (val u))):=fun ι base c v h=>(Zx (c:=Cx.young c base m')).2 ((Zx (c:=Cx.young c base m)).1 h)
theorem f_markIntS (xs : List Int) (k : Int) (h0 : 0 ≤ k) (hk : k ≤ 100000000) (hl : xs.length ≤ 1048576) :
  FnS Try.prog 33 [.one (.own 1000000000 0 xs.length 1),.one (.r false (int k))] [(1000000000,.sl 3 1 true (ints xs))] (.one (.r true (int (k + xs.length)))) [(1000000000,.sl 3 1 true (ints (upF k xs.length)))]:=by
 refine Zac (l:=[.tmp 4]) Try.func33 kRf rfl Try.ntmps33 rfl rfl ?_; simp only [dEnv,Nat.reduceAdd]
 repeat' (first|refine wk ?_|(refine wkB ?_ ?_<;>intro hg_<;>try exact wkX)|fail)
 refine Z7 (fun j : Nat=>j ≤ xs.length) (fun j=>mkS 19 [(5,.one (.r true (int j))),(1,.one (.r (decide (0 < j)) (int (k + j)))),(0,.one (.own 1000000000 0 xs.length 1))] [(1000000000,.sl 3 1 true (ints (mixF k xs j)))]) (fun j=>xs.length - j) 0 (Nat.zero_le _) (by (refine Zg [] rfl ?_ ?_<;>repeat' (first|refine wkS ?_ ?_|exact wkE|exact Zq oM))) ?_
 intro j hj
 have hlen : (ints (mixF k xs j)).length = xs.length:=by rw [Zp,mixF_len hj]
 by_cases hlt : j < xs.length
 ·have hS : (ints (mixF k xs j)).set (0 + ((j : Nat) : Int).toNat) (iP (k + j)) = ints (mixF k xs (j + 1)):=by rw [Nat.zero_add,Int.toNat_natCast,ints_setN,mixF_set hlt]
  have hw : IntKind.i64.wrap ((j : Int) + 1) = ((j + 1 : Nat) : Int):=by rw [IntWalk.i64_in _ oM]; omega
  have hw2 : IntKind.i64.wrap (k + (j : Int) + 1) = k + ((j + 1 : Nat) : Int):=by rw [IntWalk.i64_in _ oM]; omega
  repeat' (first|refine wk ?_|((first|refine' w_q rfl rfl ?xa rfl ?_|refine' v_q rfl rfl ?xa rfl ?_|refine' Zh rfl rfl (Zb rfl) rfl ?xa rfl ?_|refine' Zi rfl rfl (Zb rfl) rfl ?xa rfl ?_);case xa=>exact k_indexO tbOk rfl rfl rfl rfl oM oM)|((first|refine' w_e rfl ?xa ?xb ?xc ?xe ?_|refine' v_e rfl ?xa ?xb ?xc ?xe ?_);(case xa=>exact e_storeS tbOk rfl rfl rfl rfl rfl rfl rfl rfl oM);(case xb|xc|xe=>rfl);try refine wkD ?_)|(refine wkB ?_ ?_<;>intro hg_<;>try exact wkX)|fail)
  all_goals first
   | exact ⟨j + 1,by omega,by (refine Zg [] rfl ?_ ?_<;>repeat' (first|refine wkS ?_ ?_|exact wkE|exact Zq hw|exact Zq hw2|exact Zaf rfl hS)),by omega⟩
 ·obtain rfl : j = xs.length:=by omega
  rw [mixF_all]
  repeat' (first|refine wk ?_|(refine wkB ?_ ?_<;>intro hg_<;>try exact wkX)|fail)
  all_goals first
   | exact Zu [] rfl sbH (retD_tmp rfl imp_plain)
theorem f_heldIntS (nil : Bool) (k : Int) (n : Nat) (h0 : 0 ≤ k) (hk : k ≤ 100000000) (hl : n ≤ 1048576) :
  Fn Try.prog 36 [.one (row nil 1 (ints (upF k n))),iP k] (.v (iP (k + n))):=by
 have hlen : (ints (upF k n)).length = n:=by rw [Zp,upF_len]
 refine Zy (l:=[.tmp 4]) Try.func36 kRf rfl Try.ntmps36 rfl rfl ?_; simp only [argEnv,P0.d,Nat.reduceAdd]
 repeat' (first|refine wk ?_|(refine wkB ?_ ?_<;>intro hg_<;>try exact wkX)|fail)
 refine Z7 (fun j : Nat=>j ≤ n) (fun j=>mkS 21 [(5,.one (.r true (int j))),(1,.one (.r (decide (0 < j)) (int (k + j)))),(0,.one (.r false (row nil 1 (ints (upF k n)))))] []) (fun j=>n - j) 0 (Nat.zero_le _) (by (refine Zg [] rfl ?_ ?_<;>repeat' (first|refine wkS ?_ ?_|exact wkE|exact Zq oM))) ?_
 intro j hj
 by_cases hlt : j < n
 ·have hix : (ints (upF k n))[((j : Nat) : Int).toNat]? = some (iP (k + j)):=by
   unfold ints
   rw [Int.toNat_natCast,List.getElem?_map,upF_get hlt]; rfl
  have hw : IntKind.i64.wrap ((j : Int) + 1) = ((j + 1 : Nat) : Int):=by rw [IntWalk.i64_in _ oM]; omega
  have hw2 : IntKind.i64.wrap (k + (j : Int) + 1) = k + ((j + 1 : Nat) : Int):=by rw [IntWalk.i64_in _ oM]; omega
  repeat' (first|refine wk ?_|((first|refine' w_q rfl rfl ?xa rfl ?_|refine' v_q rfl rfl ?xa rfl ?_|refine' Zh rfl rfl (Zb rfl) rfl ?xa rfl ?_|refine' Zi rfl rfl (Zb rfl) rfl ?xa rfl ?_);case xa=>exact Zn tbOk rfl rfl rfl rfl oM (by exact hix))|(refine wkB ?_ ?_<;>intro hg_<;>try exact wkX)|fail)
  all_goals first
   | (exfalso; omega)
   | exact ⟨j + 1,by omega,by (refine Zg [] rfl ?_ ?_<;>repeat' (first|refine wkS ?_ ?_|exact wkE|exact Zq hw|exact Zq hw2)),by omega⟩
 ·obtain rfl : j = n:=by omega
  repeat' (first|refine wk ?_|(refine wkB ?_ ?_<;>intro hg_<;>try exact wkX)|fail)
  all_goals first
   | exact Zt rfl (Z4 rfl)
def mkE3 (k : Int) (i : Nat) : E3:=(k + 3 * (i : Int),k + 3 * (i : Int) + 1,k + 3 * (i : Int) + 2)
def mixE (k : Int) (es : List E3) (j : Nat) : List E3:=(List.range j).map (mkE3 k) ++ es.drop j
theorem mixE_len {k : Int} {es : List E3} {j : Nat} (h : j ≤ es.length) : (mixE k es j).length = es.length:=by unfold mixE; rw [List.length_append,List.length_map,List.length_range,List.length_drop]; omega
theorem mixE_get {k : Int} {es : List E3} {j : Nat} (h : j < es.length) : (mixE k es j)[j]? = some es[j]:=by
 unfold mixE
 rw [List.getElem?_append_right (by simp),List.length_map,List.length_range,Nat.sub_self,List.getElem?_drop,Nat.add_zero,List.getElem?_eq_getElem h]
theorem mixE_set {k : Int} {es : List E3} {j : Nat} (h : j < es.length) : (mixE k es j).set j (mkE3 k j) = mixE k es (j + 1):=by
 unfold mixE
 rw [List.set_append_right _ _ (by simp),List.length_map,List.length_range,Nat.sub_self,List.drop_eq_getElem_cons h,List.set_cons_zero,List.range_succ,List.map_append,List.append_assoc]; rfl
theorem edges_setN (es : List E3) (i : Nat) (e : E3) : (edges es).set i (edgeP e) = edges (es.set i e):=by unfold edges; rw [List.map_set]
theorem f_markInt0 (nil : Bool) (k : Int) : Fn Try.prog 33 [.one (row nil 1 []),iP k] (.v (iP k)):=by
 refine Zy (l:=[.tmp 4]) Try.func33 kRf rfl Try.ntmps33 rfl rfl ?_; simp only [argEnv,P0.d,Nat.reduceAdd]
 repeat' (first|refine wk ?_|(refine wkB ?_ ?_<;>intro hg_<;>try exact wkX)|fail)
 refine Z7 (fun _ : Nat=>True) (fun _=>mkS 19 [(5,.one (.r true (int 0))),(1,.one (.r false (int k))),(0,.one (.r false (row nil 1 [])))] []) (fun _=>0) 0 trivial (by (refine Zg [] rfl ?_ ?_ <;>exact wkW)) ?_
 rintro _ _
 repeat' (first|refine wk ?_|(refine wkB ?_ ?_<;>intro hg_<;>try exact wkX)|fail)
 all_goals first
  | exact Zt rfl (Z4 rfl)
  | (exfalso; simp at *; done)
def upE (k : Int) (n : Nat) : List E3:=(List.range n).map (mkE3 k)
theorem upE_len (k : Int) (n : Nat) : (upE k n).length = n:=by unfold upE; simp
theorem upE_get {k : Int} {n i : Nat} (h : i < n) : (upE k n)[i]? = some (mkE3 k i):=by unfold upE; simp [h]
theorem mixE_all {k : Int} {es : List E3} : mixE k es es.length = upE k es.length:=by unfold mixE upE; rw [List.drop_length,List.append_nil]
end Go.Proofs.Ytmkijbfiilpccaa.Abs
