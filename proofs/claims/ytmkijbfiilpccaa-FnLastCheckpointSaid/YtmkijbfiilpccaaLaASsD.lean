/- A round of the reference by states: lists of numbers and messages. No statement of the seat is proved here. -/
import Derived.Lib.Hide
import Derived.Test.YtmkijbfiilpccaaLaTy
import Derived.Test.YtmkijbfiilpccaaLaASta
import Derived.Test.YtmkijbfiilpccaaLaAProg
import Derived.Test.YtmkijbfiilpccaaLaGStp
import Derived.Test.YtmkijbfiilpccaaLaADrF
set_option linter.unusedSimpArgs false
set_option linter.unusedVariables false
set_option maxRecDepth 100000
set_option maxHeartbeats 16000000
namespace Go.Proofs.Ytmkijbfiilpccaa.Abs
open Go.RowKit
open R (val row ref)
theorem foldl_take_succ {f : Int → Int → Int} {a : Int} {xs : List Int} {k : Nat} (h : k < xs.length) : (xs.take (k + 1)).foldl f a = f ((xs.take k).foldl f a) xs[k]:=by
 rw [List.take_succ_eq_append_getElem h,List.foldl_append]; rfl
theorem f_l10Least (nil : Bool) (xs : List Int) (hl : xs.length ≤ 1048576) (hne : xs ≠ []) : Fn Try.prog 103 [.one (row nil 1 (ints xs))] (.v (iP (leastI xs))):=by
 match xs,hne with
 | x :: ys,_ =>
  have hlen:=Zu (x :: ys)
  rw [List.length_cons] at hlen hl
  have h0 : (ints (x :: ys))[(0 : Int).toNat]? = some (iP x):=rfl
  unfold leastI
  refine Z8 (l:=[.tmp 2]) Try.func103 kRf rfl Try.ntmps103 rfl rfl ?_; simp only [argEnv,P0.d,Nat.reduceAdd]
  repeat' (first|refine wk ?_|((first|refine' w_q rfl rfl ?xa rfl ?_|refine' v_q rfl rfl ?xa rfl ?_|refine' Zn rfl rfl (Zb rfl) rfl ?xa rfl ?_|refine' Zo rfl rfl (Zb rfl) rfl ?xa rfl ?_);case xa=>exact Zx tbOk rfl rfl rfl rfl oM h0)|(refine wkB ?_ ?_<;>intro hg_<;>try exact wkX)|fail)
  refine Zaa (fun k : Nat=>k ≤ ys.length) (fun k=>mkS 21 [(4,.one (.r true (int ((k : Int) + 1)))),(3,.one (.r (decide (0 < k)) (int ((ys.take k).foldl min x)))),(0,.one (.r false (row nil 1 (ints (x :: ys)))))] []) (fun k=>ys.length - k) 0 (Nat.zero_le _) (by (refine Zi [] rfl ?_ ?_ <;>exact wkW)) ?_
  intro k hk
  by_cases hlt : k < ys.length
  ·have hix : (ints (x :: ys))[((k : Int) + 1).toNat]? = some (iP ys[k]):=by
    rw [show ((k : Int) + 1).toNat = k + 1 by omega,ints_get (by simp; omega)]; rfl
   have hs:=foldl_take_succ (f:=min) (a:=x) hlt
   have hw : IntKind.i64.wrap ((k : Int) + 1 + 1) = ((k + 1 : Nat) : Int) + 1:=by rw [IntWalk.i64_in _ oM]; omega
   generalize ys[k] = y at *
   repeat' (first|refine wk ?_|((first|refine' w_q rfl rfl ?xa rfl ?_|refine' v_q rfl rfl ?xa rfl ?_|refine' Zn rfl rfl (Zb rfl) rfl ?xa rfl ?_|refine' Zo rfl rfl (Zb rfl) rfl ?xa rfl ?_);case xa=>exact Zx tbOk rfl rfl rfl rfl oM hix)|(refine wkB ?_ ?_<;>intro hg_<;>try exact wkX)|fail)
   all_goals first
    | exact ⟨k + 1,by omega,by (refine Zi [] rfl ?_ ?_<;>repeat' (first|refine wkS ?_ ?_|exact wkE|exact Zt hw|exact Zt hs.symm|exact Zt (by rw [hs]))),by omega⟩
  ·obtain rfl : k = ys.length:=by omega
   rw [List.take_length]
   repeat' (first|refine wk ?_|(refine wkB ?_ ?_<;>intro hg_<;>try exact wkX)|fail)
   all_goals first
    | exact Zab rfl (Zv rfl)
theorem Zca (nil : Bool) (ws : List Int) (value frm : Int) (hl : ws.length ≤ 1048576) : Fn Try.prog 106 [.one (row nil 1 (ints ws)),iP value,iP frm] (.v (.one (row false 3 (edges (sendTo ws value frm))))):=by
 have hlen:=Zu ws
 refine Z8 (l:=[.tmp 6]) Try.func106 kRf rfl Try.ntmps106 rfl rfl ?_; simp only [argEnv,P0.d,Nat.reduceAdd]
 repeat' (first|refine wk ?_|((first|refine' w_e rfl ?xa ?xb ?xc ?xe ?_|refine' v_e rfl ?xa ?xb ?xc ?xe ?_);(case xa=>exact Zl [] tlOk rfl rfl rfl rfl rfl rfl (by simp [AllN]) (by simp));(case xb|xc|xe=>rfl);try refine wkD ?_)|(refine wkB ?_ ?_<;>intro hg_<;>try exact wkX)|fail)
 have hsn : ∀ k (h : k < ws.length),sendTo (ws.take (k + 1)) value frm = sendTo (ws.take k) value frm ++ [(ws[k],value,frm)]:=fun k h=>by
  unfold sendTo; rw [List.take_succ_eq_append_getElem h,List.map_append]; rfl
 refine Zaa (fun k : Nat=>k ≤ ws.length) (fun k=>mkS 27 [(8,.one (.r true (int k))),(7,.one (.own 100 0 k 3)),(2,.one (.r false (int frm))),(1,.one (.r false (int value))),(0,.one (.r false (row nil 1 (ints ws))))] [(100,.sl 70 3 true (edges (sendTo (ws.take k) value frm)))]) (fun k=>ws.length - k) 0 (Nat.zero_le _) (by (refine Zi [(100,9)] rfl ?_ ?_ <;>exact wkW)) ?_
 intro k hk
 have hX : (edges (sendTo (ws.take k) value frm)).length = k:=by rw [Zp,Zbu,List.length_take]; omega
 by_cases hlt : k < ws.length
 ·have hix:=ints_at hlt
  have hs:=hsn k hlt
  clear hsn
  have hobj : edges (sendTo (ws.take (k + 1)) value frm) = edges (sendTo (ws.take k) value frm) ++ [edgeP (ws[k],value,frm)]:=by rw [hs,Zag]
  clear hs
  generalize ws[k] = w at *
  generalize edges (sendTo (ws.take k) value frm) = X at *
  repeat' (first|refine wk ?_|((first|refine' w_q rfl rfl ?xa rfl ?_|refine' v_q rfl rfl ?xa rfl ?_|refine' Zn rfl rfl (Zb rfl) rfl ?xa rfl ?_|refine' Zo rfl rfl (Zb rfl) rfl ?xa rfl ?_);case xa=>exact Zx tbOk rfl rfl rfl rfl oM hix)|((first|refine' w_e rfl ?xa ?xb ?xc ?xe ?_|refine' v_e rfl ?xa ?xb ?xc ?xe ?_);(case xa=>first|exact Zl [.tmp 23] tlOk rfl rfl rfl rfl rfl rfl (Zy rfl) (by simp)|exact Zw tlOk rfl rfl rfl rfl rfl rfl (Z6 (Z0 (Zj rfl) rfl) (by simp [plain1])) hX.symm (by simp only [maxLen,List.length_cons,List.length_nil];omega) (by simp only [List.length_cons,List.length_nil];omega));(case xb|xc|xe=>rfl);try refine wkD ?_)|(refine wkB ?_ ?_<;>intro hg_<;>try exact wkX)|fail)
  all_goals first
   | exact ⟨k + 1,by omega,by (refine Zi [(100,25)] rfl ?_ ?_<;>repeat' (first|refine wkS ?_ ?_|exact wkE|exact Zba (by simp only [List.length_cons,List.length_nil];omega)|exact Zz rfl hobj.symm|exact Zz rfl (by rw [hobj]<;>rfl))),by omega⟩
 ·obtain rfl : k = ws.length:=by omega
  rw [List.take_length] at *
  repeat' (first|refine wk ?_|(refine wkB ?_ ?_<;>intro hg_<;>try exact wkX)|fail)
  all_goals first
   | exact Zab rfl (Z7 (Z5 (Zj rfl) (by rw [Zp,Zbu])))
theorem filter_take_succ {α : Type} {f : α → Bool} {xs : List α} {k : Nat} (h : k < xs.length) : (xs.take (k + 1)).filter f = (xs.take k).filter f ++ (if f xs[k] then [xs[k]] else []):=by
 rw [List.take_succ_eq_append_getElem h,List.filter_append]
 cases hf : f xs[k]<;>simp [hf]
theorem f_l10Greater (m : Int) (nil : Bool) (es : List E3) (v : Int) (hg : gOk m es = true) : Fn Try.prog 110 [graphP m nil es, iP v] (.v (.one (row false 1 (ints (grL m es v))))) := by
  have hl40 := Za1 hg
  have KN := Zbn m nil es v (by simp only [maxLen]; omega) hg
  have hNL := Zbj m es v
  unfold grL
  generalize nearL m es v = N at *
  have hlen := Zu N
  refine Z8 (l := [.tmp 4]) Try.func110 kRf rfl Try.ntmps110 rfl rfl ?_; simp only [argEnv, P0.d, Nat.reduceAdd, graphP, List.map_cons, List.map_nil]
  repeat' (first|refine wk ?_|((first|refine' w_q rfl rfl ?xa rfl ?_|refine' v_q rfl rfl ?xa rfl ?_|refine' Zn rfl rfl (Zb rfl) rfl ?xa rfl ?_|refine' Zo rfl rfl (Zb rfl) rfl ?xa rfl ?_);case xa => exact Zm KN rfl ⟨Zq (Za rfl) ⟨Zd, Zd, trivial⟩, Zf (Za rfl), trivial⟩)|((first|refine' w_e rfl ?xa ?xb ?xc ?xe ?_|refine' v_e rfl ?xa ?xb ?xc ?xe ?_);(case xa => exact Zl [] tlOk rfl rfl rfl rfl rfl rfl (by simp [AllN]) (by simp));(case xb|xc|xe=>rfl);try refine wkD ?_)|(refine wkB ?_ ?_<;>intro hg_<;>try exact wkX)|fail)
  refine Zaa (fun k : Nat => k ≤ N.length) (fun k => mkS 32 [(7, .one (.r true (int k))), (6, .one (.r true (row false 1 (ints N)))), (5, .one (.own 100 0 (ints ((N.take k).filter fun w => decide (v < w))).length 1)), (1, .one (.r false (int v)))] [(100, .sl 3 1 true (ints ((N.take k).filter fun w => decide (v < w))))]) (fun k => N.length - k) 0 (Nat.zero_le _) (by (refine Zi [(100, 8)] rfl ?_ ?_ <;>exact wkW)) ?_
  intro k hk
  by_cases hlt : k < N.length
  · have hix := ints_at hlt
    have hs := filter_take_succ (f := fun w => decide (v < w)) hlt
    have hle := List.length_filter_le (fun w => decide (v < w)) (N.take k)
    rw [List.length_take] at hle
    generalize N[k] = w at *
    generalize (N.take k).filter (fun w => decide (v < w)) = X at *
    have hXl := Zu X
    repeat' (first|refine wk ?_|((first|refine' w_q rfl rfl ?xa rfl ?_|refine' v_q rfl rfl ?xa rfl ?_|refine' Zn rfl rfl (Zb rfl) rfl ?xa rfl ?_|refine' Zo rfl rfl (Zb rfl) rfl ?xa rfl ?_);case xa => exact Zx tbOk rfl rfl rfl rfl oM hix)|((first|refine' w_e rfl ?xa ?xb ?xc ?xe ?_|refine' v_e rfl ?xa ?xb ?xc ?xe ?_);(case xa => first|exact Zl [.tmp 28] tlOk rfl rfl rfl rfl rfl rfl (Zy rfl) (by simp)|exact Zw tlOk rfl rfl rfl rfl rfl rfl (Z6 (Z0 (Zj rfl) rfl) (by simp [plain1, iP])) rfl (by simp only [maxLen, List.length_cons, List.length_nil];omega) (by simp only [List.length_cons, List.length_nil];omega));(case xb|xc|xe=>rfl);try refine wkD ?_)|(refine wkB ?_ ?_<;>intro hg_<;>try exact wkX)|fail)
    all_goals first
      | (rw [if_pos (by simpa using hg_)] at hs
         refine ⟨k + 1, by omega, ?_, by omega⟩
         simp only [hs, Zcb, List.length_append]
         (refine Zi [(100, 30)] rfl ?_ ?_ <;>exact wkW);done)
      | (rw [if_neg (by simpa using hg_), List.append_nil] at hs
         refine ⟨k + 1, by omega, ?_, by omega⟩
         simp only [hs]
         (refine Zi [] rfl ?_ ?_ <;>exact wkW);done)
  · obtain rfl : k = N.length := by omega
    rw [List.take_length]
    repeat' (first|refine wk ?_|(refine wkB ?_ ?_<;>intro hg_<;>try exact wkX)|fail)
    all_goals first
      | exact Zab rfl (Z7 (Z5 (Zj rfl) rfl))
theorem f_nextOf (m : Int) (nil : Bool) (es : List E3) (v : Int) (hg : gOk m es = true) : Fn Try.prog 104 [graphP m nil es, iP v] (.v (.one (row false 1 (ints (nextL es v))))) := by
  have hl40 := Za1 hg
  have hlen := Zp es
  have KG := Zcj m nil es (by simp only [maxLen]; omega)
  rw [hg] at KG
  clear hg
  have hsn : ∀ k (h : k < es.length), nextL (es.take (k + 1)) v = nextL (es.take k) v ++ (if es[k].1 = v then [es[k].2.1] else []) := fun k h => by
    unfold nextL
    rw [filter_take_succ h, List.map_append]
    congr 1
    by_cases hv : es[k].1 = v <;> simp [hv]
  refine Z8 (l := [.tmp 4]) Try.func104 kRf rfl Try.ntmps104 rfl rfl ?_; simp only [argEnv, P0.d, Nat.reduceAdd, graphP, List.map_cons, List.map_nil]
  repeat' (first|refine wk ?_|((first|refine' w_e rfl ?xa ?xb ?xc ?xe ?_|refine' v_e rfl ?xa ?xb ?xc ?xe ?_);(case xa => exact Zl [] tlOk rfl rfl rfl rfl rfl rfl (by simp [AllN]) (by simp));(case xb|xc|xe=>rfl);try refine wkD ?_)|(refine wkB ?_ ?_<;>intro hg_<;>try exact wkX)|fail)
  refine Zaa (fun k : Nat => k ≤ es.length) (fun k => mkS 37 [(6, .one (.r true (int k))), (5, .one (.own 100 0 (ints (nextL (es.take k) v)).length 1)), (2, .one (.ptr 2 0 0 0)), (1, .one (.r false (int v)))] [(100, .sl 3 1 true (ints (nextL (es.take k) v))), (2, .var 57 [.r false (int m), .r false (row nil 3 (edges es))])]) (fun k => es.length - k) 0 (Nat.zero_le _) (by (refine Zi [(100, 7)] rfl ?_ ?_ <;>exact wkW)) ?_
  intro k hk
  by_cases hlt : k < es.length
  · have hix := Zbq hlt
    have hs := hsn k hlt
    have hle := nextL_len (es.take k) v
    rw [List.length_take] at hle
    clear hsn
    generalize es[k] = e at *
    generalize nextL (es.take k) v = X at *
    have hXl := Zu X
    obtain ⟨ea, eb, ec⟩ := e
    dsimp only at hs
    repeat' (first|refine wk ?_|((first|refine' w_q rfl rfl ?xa rfl ?_|refine' v_q rfl rfl ?xa rfl ?_|refine' Zn rfl rfl (Zb rfl) rfl ?xa rfl ?_|refine' Zo rfl rfl (Zb rfl) rfl ?xa rfl ?_);case xa => first|exact Zm KG rfl ⟨Zq (Za rfl) ⟨Zd, Zd, trivial⟩, trivial⟩|exact Zx tbOk rfl rfl rfl rfl oM hix)|((first|refine' w_e rfl ?xa ?xb ?xc ?xe ?_|refine' v_e rfl ?xa ?xb ?xc ?xe ?_);(case xa => first|exact Zl [.tmp 33] tlOk rfl rfl rfl rfl rfl rfl (Zy rfl) (by simp)|exact Zw tlOk rfl rfl rfl rfl rfl rfl (Z6 (Z0 (Zj rfl) rfl) (by simp [plain1, iP])) rfl (by simp only [maxLen, List.length_cons, List.length_nil];omega) (by simp only [List.length_cons, List.length_nil];omega));(case xb|xc|xe=>rfl);try refine wkD ?_)|(refine wkB ?_ ?_<;>intro hg_<;>try exact wkX)|fail)
    all_goals first
      | (rw [if_pos hg_] at hs
         refine ⟨k + 1, by omega, ?_, by omega⟩
         simp only [hs, Zcb, List.length_append]
         (refine Zi [(100, 35)] rfl ?_ ?_ <;>exact wkW);done)
      | (rw [if_neg hg_, List.append_nil] at hs
         refine ⟨k + 1, by omega, ?_, by omega⟩
         simp only [hs]
         (refine Zi [] rfl ?_ ?_ <;>exact wkW);done)
  · obtain rfl : k = es.length := by omega
    rw [List.take_length]
    clear hsn
    repeat' (first|refine wk ?_|((first|refine' w_q rfl rfl ?xa rfl ?_|refine' v_q rfl rfl ?xa rfl ?_|refine' Zn rfl rfl (Zb rfl) rfl ?xa rfl ?_|refine' Zo rfl rfl (Zb rfl) rfl ?xa rfl ?_);case xa => exact Zm KG rfl ⟨Zq (Za rfl) ⟨Zd, Zd, trivial⟩, trivial⟩)|(refine wkB ?_ ?_<;>intro hg_<;>try exact wkX)|fail)
    all_goals first
      | exact Zab rfl (Z7 (Z5 (Zj rfl) rfl))
theorem f_valuesFor (nil : Bool) (ms : List E3) (v : Int) (hl : ms.length ≤ 2000) : Fn Try.prog 99 [.one (row nil 3 (edges ms)), iP v] (.v (.one (row false 1 (ints (valsT v ms))))) := by
  have hlen := Zp ms
  refine Z8 (l := [.tmp 4]) Try.func99 kRf rfl Try.ntmps99 rfl rfl ?_; simp only [argEnv, P0.d, Nat.reduceAdd]
  repeat' (first|refine wk ?_|((first|refine' w_e rfl ?xa ?xb ?xc ?xe ?_|refine' v_e rfl ?xa ?xb ?xc ?xe ?_);(case xa => exact Zl [] tlOk rfl rfl rfl rfl rfl rfl (by simp [AllN]) (by simp));(case xb|xc|xe=>rfl);try refine wkD ?_)|(refine wkB ?_ ?_<;>intro hg_<;>try exact wkX)|fail)
  refine Zaa (fun k : Nat => k ≤ ms.length) (fun k => mkS 35 [(6, .one (.r true (int k))), (5, .one (.own 100 0 (ints (valsT v (ms.take k))).length 1)), (1, .one (.r false (int v))), (0, .one (.r false (row nil 3 (edges ms))))] [(100, .sl 3 1 true (ints (valsT v (ms.take k))))]) (fun k => ms.length - k) 0 (Nat.zero_le _) (by (refine Zi [(100, 7)] rfl ?_ ?_ <;>exact wkW)) ?_
  intro k hk
  by_cases hlt : k < ms.length
  · have hix := Zbq hlt
    have hs := valsT_snoc v ms hlt
    have hle := valsT_len v (ms.take k)
    rw [List.length_take] at hle
    generalize ms[k] = e at *
    generalize valsT v (ms.take k) = X at *
    have hXl := Zu X
    obtain ⟨ea, eb, ec⟩ := e
    dsimp only at hs
    repeat' (first|refine wk ?_|((first|refine' w_q rfl rfl ?xa rfl ?_|refine' v_q rfl rfl ?xa rfl ?_|refine' Zn rfl rfl (Zb rfl) rfl ?xa rfl ?_|refine' Zo rfl rfl (Zb rfl) rfl ?xa rfl ?_);case xa => exact Zx tbOk rfl rfl rfl rfl oM hix)|((first|refine' w_e rfl ?xa ?xb ?xc ?xe ?_|refine' v_e rfl ?xa ?xb ?xc ?xe ?_);(case xa => first|exact Zl [.tmp 31] tlOk rfl rfl rfl rfl rfl rfl (Zy rfl) (by simp)|exact Zw tlOk rfl rfl rfl rfl rfl rfl (Z6 (Z0 (Zj rfl) rfl) (by simp [plain1, iP])) rfl (by simp only [maxLen, List.length_cons, List.length_nil];omega) (by simp only [List.length_cons, List.length_nil];omega));(case xb|xc|xe=>rfl);try refine wkD ?_)|(refine wkB ?_ ?_<;>intro hg_<;>try exact wkX)|fail)
    all_goals first
      | (exfalso; omega)
      | (rw [if_pos hg_] at hs
         refine ⟨k + 1, by omega, ?_, by omega⟩
         simp only [hs, Zcb, List.length_append]
         (refine Zi [(100, 33)] rfl ?_ ?_ <;>exact wkW);done)
      | (rw [if_neg hg_, List.append_nil] at hs
         refine ⟨k + 1, by omega, ?_, by omega⟩
         simp only [hs]
         (refine Zi [] rfl ?_ ?_ <;>exact wkW);done)
  · obtain rfl : k = ms.length := by omega
    rw [List.take_length]
    repeat' (first|refine wk ?_|(refine wkB ?_ ?_<;>intro hg_<;>try exact wkX)|fail)
    all_goals first
      | exact Zab rfl (Z7 (Z5 (Zj rfl) rfl))
      | (exfalso; omega)
theorem f_l11All (m : Int) (hm : m ≤ 1000) : Fn Try.prog 93 [iP m] (.v (.one (row false 1 (ints (allV m))))):=by
 have hN : ∀ k : Nat,(List.range (k + 1)).map (fun i : Nat=>(i : Int)) = (List.range k).map (fun i : Nat=>(i : Int)) ++ [(k : Int)]:=fun k=>by rw [List.range_succ,List.map_append]; rfl
 refine Z8 (l:=[.tmp 2]) Try.func93 kRf rfl Try.ntmps93 rfl rfl ?_; simp only [argEnv,P0.d,Nat.reduceAdd]
 repeat' (first|refine wk ?_|((first|refine' w_e rfl ?xa ?xb ?xc ?xe ?_|refine' v_e rfl ?xa ?xb ?xc ?xe ?_);(case xa=>exact Zl [] tlOk rfl rfl rfl rfl rfl rfl (by simp [AllN]) (by simp));(case xb|xc|xe=>rfl);try refine wkD ?_)|(refine wkB ?_ ?_<;>intro hg_<;>try exact wkX)|fail)
 refine Zaa (fun k : Nat=>k ≤ m.toNat) (fun k=>mkS 16 [(4,.one (.r true (int k))),(3,.one (.own 100 0 k 1)),(0,.one (.r false (int m)))] [(100,.sl 3 1 true (ints ((List.range k).map (fun i : Nat=>(i : Int)))))]) (fun k=>m.toNat - k) 0 (Nat.zero_le _) (by (refine Zi [(100,5)] rfl ?_ ?_ <;>exact wkW)) ?_
 intro k hk
 have hX : (ints ((List.range k).map (fun i : Nat=>(i : Int)))).length = k:=by rw [Zu,List.length_map,List.length_range]
 by_cases hlt : k < m.toNat
 ·have hobj : ints ((List.range (k + 1)).map (fun i : Nat=>(i : Int))) = ints ((List.range k).map (fun i : Nat=>(i : Int))) ++ [iP (k : Int)]:=by rw [hN k,Zcb]
  generalize ints ((List.range k).map (fun i : Nat=>(i : Int))) = X at *
  repeat' (first|refine wk ?_|((first|refine' w_e rfl ?xa ?xb ?xc ?xe ?_|refine' v_e rfl ?xa ?xb ?xc ?xe ?_);(case xa=>first|exact Zl [.tmp 12] tlOk rfl rfl rfl rfl rfl rfl (Zy rfl) (by simp)|exact Zw tlOk rfl rfl rfl rfl rfl rfl (Z6 (Z0 (Zj rfl) rfl) (by simp [plain1,iP])) hX.symm (by simp only [maxLen,List.length_cons,List.length_nil];omega) (by simp only [List.length_cons,List.length_nil];omega));(case xb|xc|xe=>rfl);try refine wkD ?_)|(refine wkB ?_ ?_<;>intro hg_<;>try exact wkX)|fail)
  all_goals first
   | (exfalso; omega)
   | exact ⟨k + 1,by omega,by (refine Zi [(100,14)] rfl ?_ ?_<;>repeat' (first|refine wkS ?_ ?_|exact wkE|exact Zba (by simp only [List.length_cons,List.length_nil];omega)|exact Zz rfl hobj.symm|exact Zz rfl (by rw [hobj]<;>rfl))),by omega⟩
 ·have e : allV m = (List.range k).map (fun i : Nat=>(i : Int)):=by unfold allV; rw [show m.toNat = k by omega]
  rw [e]
  repeat' (first|refine wk ?_|(refine wkB ?_ ?_<;>intro hg_<;>try exact wkX)|fail)
  all_goals first
   | exact Zab rfl (Z7 (Z5 (Zj rfl) hX.symm))
   | (exfalso; omega)
end Go.Proofs.Ytmkijbfiilpccaa.Abs
set_option linter.unusedSimpArgs false
set_option linter.unusedVariables false
namespace Go.Proofs.Ytmkijbfiilpccaa.Abs
open Go.RowKit
open R (val row ref)
def mfF (l : List Int) (k : Nat) : Int × Int:=(l.take k).foldl (mfStep l) (0,0)
theorem mfF_succ {l : List Int} {k : Nat} (h : k < l.length) : mfF l (k + 1) = mfStep l (mfF l k) l[k]:=by
 unfold mfF; rw [List.take_succ_eq_append_getElem h,List.foldl_append]; rfl
theorem cntI_succ {l : List Int} {j : Nat} (h : j < l.length) (x : Int) : cntI (l.take (j + 1)) x = cntI (l.take j) x + (if l[j] = x then 1 else 0):=by
 unfold cntI; rw [List.take_succ_eq_append_getElem h,List.countP_append]
 by_cases hx : l[j] = x<;>simp [hx]
theorem cntI_le (l : List Int) (x : Int) : cntI l x ≤ l.length:=List.countP_le_length
theorem cntGe_succ {l : List Int} {j : Nat} (h : j < l.length) (x : Int) : cntGe (l.take (j + 1)) x = cntGe (l.take j) x + (if x ≤ l[j] then 1 else 0):=by
 unfold cntGe; rw [List.take_succ_eq_append_getElem h,List.countP_append]
 by_cases hx : x ≤ l[j]<;>simp [hx]
theorem cntGe_le (l : List Int) (x : Int) : cntGe l x ≤ l.length:=List.countP_le_length
theorem f_mostFreq (nil : Bool) (xs : List Int) (hl : xs.length ≤ 1048576) : Fn Try.prog 108 [.one (row nil 1 (ints xs))] (.v (iP (mostF xs))) := by
  have hlen := Zu xs
  refine Z8 (l := [.tmp 2]) Try.func108 kRf rfl Try.ntmps108 rfl rfl ?_; simp only [argEnv, P0.d, Nat.reduceAdd]
  repeat' (first|refine wk ?_|(refine wkB ?_ ?_<;>intro hg_<;>try exact wkX)|fail)
  refine Zaa (fun x : Nat × Bool => x.1 ≤ xs.length) (fun x => mkS 53 [(5, .one (.r true (int x.1))), (4, .one (.r true (int (mfF xs x.1).2))), (3, .one (.r x.2 (int (mfF xs x.1).1))), (0, .one (.r false (row nil 1 (ints xs))))] []) (fun x => xs.length - x.1) (0, true) (Nat.zero_le _) (by (refine Zi [] rfl ?_ ?_ <;>exact wkW)) ?_
  rintro ⟨k, fl⟩ hk
  dsimp only at hk ⊢
  by_cases hlt : k < xs.length
  · have hs := mfF_succ hlt
    have hix := ints_at hlt
    have hw5 : IntKind.i64.wrap ((k : Int) + 1) = ((k + 1 : Nat) : Int) := by rw [IntWalk.i64_in _ oM]; omega
    generalize xs[k] = y at *
    generalize mfF xs k = S at *
    obtain ⟨S1, S2⟩ := S
    dsimp only
    repeat' (first|refine wk ?_|(refine wkB ?_ ?_<;>intro hg_<;>try exact wkX)|fail)
    refine Zaa (fun j : Nat => j ≤ xs.length) (fun j => mkS 53 [(7, .one (.r true (int j))), (6, .one (.r true (int (cntI (xs.take j) y)))), (5, .one (.r true (int k))), (4, .one (.r true (int S2))), (3, .one (.r fl (int S1))), (0, .one (.r false (row nil 1 (ints xs))))] []) (fun j => xs.length - j) 0 (Nat.zero_le _) (by (refine Zi [] rfl ?_ ?_ <;>exact wkW)) ?_
    intro j hj
    by_cases hlj : j < xs.length
    · have hc := cntI_succ hlj y
      have hxj := ints_at hlj
      have hcl := cntI_le (xs.take j) y
      rw [List.length_take] at hcl
      have hw : IntKind.i64.wrap ((j : Int) + 1) = ((j + 1 : Nat) : Int) := by rw [IntWalk.i64_in _ oM]; omega
      have hw2 : IntKind.i64.wrap (((cntI (xs.take j) y : Nat) : Int) + 1) = ((cntI (xs.take j) y + 1 : Nat) : Int) := by rw [IntWalk.i64_in _ oM]; omega
      generalize xs[j] = z at *
      generalize cntI (xs.take j) y = c at *
      repeat' (first|refine wk ?_|((first|refine' w_q rfl rfl ?xa rfl ?_|refine' v_q rfl rfl ?xa rfl ?_|refine' Zn rfl rfl (Zb rfl) rfl ?xa rfl ?_|refine' Zo rfl rfl (Zb rfl) rfl ?xa rfl ?_);case xa => first|exact Zx tbOk rfl rfl rfl rfl oM hxj|exact Zx tbOk rfl rfl rfl rfl oM hix)|(refine wkB ?_ ?_<;>intro hg_<;>try exact wkX)|fail)
      all_goals first
        | (rw [if_pos hg_] at hc
           exact ⟨j + 1, by omega, by (refine Zi [] rfl ?_ ?_ <;> repeat' (first|refine wkS ?_ ?_|exact wkE|exact Zt hw|exact Zt (by rw [hc, hw2]))), by omega⟩)
        | (rw [if_neg hg_, Nat.add_zero] at hc
           exact ⟨j + 1, by omega, by (refine Zi [] rfl ?_ ?_ <;> repeat' (first|refine wkS ?_ ?_|exact wkE|exact Zt hw|exact Zt (by rw [hc]))), by omega⟩)
    · obtain rfl : j = xs.length := by omega
      rw [List.take_length]
      have hm : mfStep xs (S1, S2) y = if S2 < (cntI xs y : Int) ∨ ((cntI xs y : Int) = S2 ∧ y < S1) then (y, (cntI xs y : Int)) else (S1, S2) := rfl
      rw [hm] at hs
      clear hm
      generalize ((cntI xs y : Nat) : Int) = c at *
      repeat' (first|refine wk ?_|((first|refine' w_q rfl rfl ?xa rfl ?_|refine' v_q rfl rfl ?xa rfl ?_|refine' Zn rfl rfl (Zb rfl) rfl ?xa rfl ?_|refine' Zo rfl rfl (Zb rfl) rfl ?xa rfl ?_);case xa => exact Zx tbOk rfl rfl rfl rfl oM hix)|(refine wkB ?_ ?_<;>intro hg_<;>try exact wkX)|fail)
      all_goals first
        | (exfalso; omega)
        | (rw [if_pos oM] at hs
           exact ⟨(k + 1, false), by omega, by dsimp only;rw [hs];(refine Zi [] rfl ?_ ?_ <;> repeat' (first|refine wkS ?_ ?_|exact wkE|exact Zt hw5)), by dsimp only;omega⟩)
        | (rw [if_neg oM] at hs
           exact ⟨(k + 1, fl), by omega, by dsimp only;rw [hs];(refine Zi [] rfl ?_ ?_ <;> repeat' (first|refine wkS ?_ ?_|exact wkE|exact Zt hw5)), by dsimp only;omega⟩)
  · obtain rfl : k = xs.length := by omega
    have e : mostF xs = (mfF xs xs.length).1 := by unfold mostF mfF; rw [List.take_length]
    rw [e]
    repeat' (first|refine wk ?_|(refine wkB ?_ ?_<;>intro hg_<;>try exact wkX)|fail)
    all_goals first
      | exact Zab rfl (Zv rfl)
theorem f_manyAt (nil : Bool) (xs : List Int) (hl : xs.length ≤ 1048576) : Fn Try.prog 109 [.one (row nil 1 (ints xs))] (.v (iP (hIdx xs))) := by
  have hlen := Zu xs
  refine Z8 (l := [.tmp 2]) Try.func109 kRf rfl Try.ntmps109 rfl rfl ?_; simp only [argEnv, P0.d, Nat.reduceAdd]
  repeat' (first|refine wk ?_|(refine wkB ?_ ?_<;>intro hg_<;>try exact wkX)|fail)
  refine Zaa (fun n : Nat => n ≤ xs.length ∧ hIdx xs = hGo xs (xs.length - n) n) (fun n => mkS 33 [(3, .one (.r true (int n))), (0, .one (.r false (row nil 1 (ints xs))))] []) (fun n => xs.length - n) 0 ⟨Nat.zero_le _, rfl⟩ (by (refine Zi [] rfl ?_ ?_ <;>exact wkW)) ?_
  rintro n ⟨hn, hP⟩
  by_cases hlt : n < xs.length
  · have hw3 : IntKind.i64.wrap ((n : Int) + 1) = ((n + 1 : Nat) : Int) := by rw [IntWalk.i64_in _ oM]; omega
    have hP2 : hIdx xs = if cntGe xs ((n : Int) + 1) < n + 1 then n else hGo xs (xs.length - (n + 1)) (n + 1) := by
      rw [hP, show xs.length - n = (xs.length - (n + 1)) + 1 by omega]; rfl
    clear hP
    repeat' (first|refine wk ?_|(refine wkB ?_ ?_<;>intro hg_<;>try exact wkX)|fail)
    refine Zaa (fun j : Nat => j ≤ xs.length) (fun j => mkS 33 [(5, .one (.r true (int j))), (4, .one (.r true (int (cntGe (xs.take j) ((n : Int) + 1))))), (3, .one (.r true (int n))), (0, .one (.r false (row nil 1 (ints xs))))] []) (fun j => xs.length - j) 0 (Nat.zero_le _) (by (refine Zi [] rfl ?_ ?_ <;>exact wkW)) ?_
    intro j hj
    by_cases hlj : j < xs.length
    · have hc := cntGe_succ hlj ((n : Int) + 1)
      have hxj := ints_at hlj
      have hcl := cntGe_le (xs.take j) ((n : Int) + 1)
      rw [List.length_take] at hcl
      have hw : IntKind.i64.wrap ((j : Int) + 1) = ((j + 1 : Nat) : Int) := by rw [IntWalk.i64_in _ oM]; omega
      have hw2 : IntKind.i64.wrap (((cntGe (xs.take j) ((n : Int) + 1) : Nat) : Int) + 1) = ((cntGe (xs.take j) ((n : Int) + 1) + 1 : Nat) : Int) := by rw [IntWalk.i64_in _ oM]; omega
      generalize xs[j] = z at *
      generalize cntGe (xs.take j) ((n : Int) + 1) = c at *
      repeat' (first|refine wk ?_|((first|refine' w_q rfl rfl ?xa rfl ?_|refine' v_q rfl rfl ?xa rfl ?_|refine' Zn rfl rfl (Zb rfl) rfl ?xa rfl ?_|refine' Zo rfl rfl (Zb rfl) rfl ?xa rfl ?_);case xa => exact Zx tbOk rfl rfl rfl rfl oM hxj)|(refine wkB ?_ ?_<;>intro hg_<;>try exact wkX)|fail)
      all_goals first
        | (rw [if_pos oM] at hc
           exact ⟨j + 1, by omega, by (refine Zi [] rfl ?_ ?_ <;> repeat' (first|refine wkS ?_ ?_|exact wkE|exact Zt hw|exact Zt (by rw [hc, hw2]))), by omega⟩)
        | (rw [if_neg oM, Nat.add_zero] at hc
           exact ⟨j + 1, by omega, by (refine Zi [] rfl ?_ ?_ <;> repeat' (first|refine wkS ?_ ?_|exact wkE|exact Zt hw|exact Zt (by rw [hc]))), by omega⟩)
    · obtain rfl : j = xs.length := by omega
      rw [List.take_length]
      generalize hc : cntGe xs ((n : Int) + 1) = c at *
      repeat' (first|refine wk ?_|(refine wkB ?_ ?_<;>intro hg_<;>try exact wkX)|fail)
      all_goals first
        | (rw [if_pos oM] at hP2
           exact Zab rfl (Zv (by rw [hP2])))
        | (rw [if_neg oM] at hP2
           exact ⟨n + 1, ⟨by omega, hP2⟩, by (refine Zi [] rfl ?_ ?_ <;> repeat' (first|refine wkS ?_ ?_|exact wkE|exact Zt hw3)), by omega⟩)
  · obtain rfl : n = xs.length := by omega
    rw [Nat.sub_self] at hP
    repeat' (first|refine wk ?_|(refine wkB ?_ ?_<;>intro hg_<;>try exact wkX)|fail)
    all_goals first
      | exact Zab rfl (Zv (by rw [hP]; rfl))
theorem Zc0 (nil : Bool) (ms : List E3) (hl : ms.length ≤ 1048576) : FnO Try.prog 72 [.one (row nil 3 (edges ms))] 70 3 (edges (sortL ms)) := by
  have hlen := Zp ms
  by_cases h2 : ms.length ≤ 2000
  · have e : sortL ms = sortM ms := by unfold sortL; rw [if_pos h2]
    rw [e]
    clear e
    refine fn_ofO Try.func72 kRf rfl Try.ntmps72 rfl rfl ?_; simp only [argEnv, P0.d, Nat.reduceAdd, List.map_cons, List.map_nil]
    repeat' (first|refine wk ?_|((first|refine' w_e rfl ?xa ?xb ?xc ?xe ?_|refine' v_e rfl ?xa ?xb ?xc ?xe ?_);(case xa => exact Zl [] tlOk rfl rfl rfl rfl rfl rfl (by simp [AllN]) (by simp));(case xb|xc|xe=>rfl);try refine wkD ?_)|(refine wkB ?_ ?_<;>intro hg_<;>try exact wkX)|fail)
    refine Zaa (fun k : Nat => k ≤ ms.length) (fun k => mkS 54 [(4, .one (.r true (int k))), (3, .one (.own 100 0 k 3)), (0, .one (.r false (row nil 3 (edges ms))))] [(100, .sl 70 3 true (edges (sortF ms k)))]) (fun k => ms.length - k) 0 (Nat.zero_le _) (by (refine Zi [(100, 7)] rfl ?_ ?_ <;>exact wkW)) ?_
    intro k hk
    have hFl := sortF_len ms k hk
    by_cases hlt : k < ms.length
    · have hix := Zbq hlt
      have hs := sortF_succ hlt
      have hw : IntKind.i64.wrap ((k : Int) + 1) = ((k + 1 : Nat) : Int) := by rw [IntWalk.i64_in _ oM]; omega
      have hfin : ∀ s' : St, Weak s' (mkS 54 [(4, .one (.r true (int ((k + 1 : Nat) : Int)))), (3, .one (.own 100 0 (k + 1) 3)), (0, .one (.r false (row nil 3 (edges ms))))] [(100, .sl 70 3 true (edges (insR ms[k] (sortF ms k))))]) → ∃ x' : Nat, x' ≤ ms.length ∧ Weak s' (mkS 54 [(4, .one (.r true (int x'))), (3, .one (.own 100 0 x' 3)), (0, .one (.r false (row nil 3 (edges ms))))] [(100, .sl 70 3 true (edges (sortF ms x')))]) ∧ ms.length - x' < ms.length - k := fun s' h => ⟨k + 1, by omega, by rw [hs]; exact h, by omega⟩
      clear hs
      generalize ms[k] = x at *
      generalize sortF ms k = out at *
      have hol := Zp out
      repeat' (first|refine wk ?_|(refine wkB ?_ ?_<;>intro hg_<;>try exact wkX)|fail)
      refine Zaa (fun j : Nat => j ≤ k ∧ posF x out j = posR x out) (fun j => mkS 54 [(5, .one (.r true (int j))), (4, .one (.r true (int k))), (3, .one (.own 100 0 k 3)), (0, .one (.r false (row nil 3 (edges ms))))] [(100, .sl 70 3 true (edges out))]) (fun j => j) k ⟨Nat.le_refl _, by unfold posR;rw [hFl]⟩ (by (refine Zi [] rfl ?_ ?_ <;> repeat' (first|refine wkS ?_ ?_|exact wkE|exact Zt oM))) ?_
      rintro j ⟨hj, hP⟩
      have hfin2 : j = posR x out → ∀ s' : St, Weak s' (mkS 54 [(4, .one (.r true (int ((k + 1 : Nat) : Int)))), (3, .one (.own 100 0 (k + 1) 3)), (0, .one (.r false (row nil 3 (edges ms))))] [(100, .sl 70 3 true ((edges out).take j ++ [edgeP x] ++ (edges out).drop j))]) → ∃ x' : Nat, x' ≤ ms.length ∧ Weak s' (mkS 54 [(4, .one (.r true (int x'))), (3, .one (.own 100 0 x' 3)), (0, .one (.r false (row nil 3 (edges ms))))] [(100, .sl 70 3 true (edges (sortF ms x')))]) ∧ ms.length - x' < ms.length - k := fun hjp s' h => hfin s' (by
        have he : edges (insR x out) = (edges out).take j ++ [edgeP x] ++ (edges out).drop j := by
          unfold insR edges
          rw [← hjp, List.map_append, List.map_cons, List.map_take, List.map_drop]
          simp
        rw [he]; exact h)
      clear hfin
      have hlt1 : j = ((edges out).take j).length := by rw [List.length_take]; omega
      have hld : ((edges out).drop j).length = k - j := by rw [List.length_drop]; omega
      have hdt : [] ++ ((edges out).drop (0 + j)).take (k - j) = (edges out).drop j := by rw [List.nil_append, Nat.zero_add, List.take_of_length_le (by rw [List.length_drop]; omega)]
      have hpl : ∀ e ∈ (edges out).drop j, plain1 e = true := fun e he => Zbg out e (List.mem_of_mem_drop he)
      by_cases hj0 : 0 < j
      · have hwj : IntKind.i64.wrap ((j : Int) - 1) = ((j - 1 : Nat) : Int) := by rw [IntWalk.i64_in _ oM]; omega
        have hat : (edges out)[0 + (((j - 1 : Nat) : Int)).toNat]? = some (edgeP (out.getD (j - 1) (0, 0, 0))) := by
          rw [Nat.zero_add, Int.toNat_natCast, edges_get (by omega : j - 1 < out.length), List.getD_eq_getElem?_getD, List.getElem?_eq_getElem (by omega : j - 1 < out.length)]; rfl
        rw [← hwj] at hat
        have hP2 : posF x out j = if bef x (out.getD (j - 1) (0, 0, 0)) then posF x out (j - 1) else j := by
          obtain ⟨i, rfl⟩ : ∃ i, j = i + 1 := ⟨j - 1, by omega⟩
          rfl
        rw [hP] at hP2
        have KB := f_l9Before x (out.getD (j - 1) (0, 0, 0))
        generalize out.getD (j - 1) (0, 0, 0) = y at *
        generalize bef x y = b at *
        obtain ⟨y1, y2, y3⟩ := y
        have hl1 : IntKind.i64.wrap ((j : Int) - 1) < ((k : Nat) : Int) := by omega
        have hl0 : 0 ≤ IntKind.i64.wrap ((j : Int) - 1) := by omega
        cases b
        · rw [if_neg (by decide)] at hP2
          have hfin3 := hfin2 hP2.symm
          clear hfin2
          refine Zbk ?_
          repeat' (first|refine wkN ?_|((first|refine' w_q rfl rfl ?xa rfl ?_|refine' v_q rfl rfl ?xa rfl ?_|refine' Zn rfl rfl (Zb rfl) rfl ?xa rfl ?_|refine' Zo rfl rfl (Zb rfl) rfl ?xa rfl ?_);case xa => first|exact Zx tbOk rfl rfl rfl rfl oM hix|exact Zap tbOk rfl rfl rfl rfl hl0 hl1|exact k_loadS (e := edgeP (y1, y2, y3)) tbOk rfl rfl rfl rfl hat rfl (Nat.le_refl 3) (.inl rfl)|exact Zm KB rfl ⟨Zq (Za rfl) ⟨Zd, Zd, Zd, trivial⟩, Zq (Za rfl) ⟨Zd, Zd, Zd, trivial⟩, trivial⟩)|(refine wkB ?_ ?_<;>intro hg_<;>try exact wkX)|fail)
          refine Zbk ?_
          repeat' (first|refine wkN ?_|((first|refine' w_q rfl rfl ?xa rfl ?_|refine' v_q rfl rfl ?xa rfl ?_|refine' Zn rfl rfl (Zb rfl) rfl ?xa rfl ?_|refine' Zo rfl rfl (Zb rfl) rfl ?xa rfl ?_);case xa => first|exact Zx tbOk rfl rfl rfl rfl oM hix|exact Zap tbOk rfl rfl rfl rfl hl0 hl1|exact k_loadS (e := edgeP (y1, y2, y3)) tbOk rfl rfl rfl rfl hat rfl (Nat.le_refl 3) (.inl rfl)|exact Zm KB rfl ⟨Zq (Za rfl) ⟨Zd, Zd, Zd, trivial⟩, Zq (Za rfl) ⟨Zd, Zd, Zd, trivial⟩, trivial⟩)|(refine wkB ?_ ?_<;>intro hg_<;>try exact wkX)|fail)
          refine Zbp (mkS 54 [(6, .one (.own 101 0 (k - j) 3)), (5, .one (.r true (int j))), (4, .one (.r true (int k))), (3, .one (.own 100 0 k 3)), (0, .one (.r false (row nil 3 (edges ms))))] [(101, .sl 70 3 true ((edges out).drop j)), (100, .sl 70 3 true ((edges out).take j))]) ?_ ?_
          · repeat' (first|refine wk ?_|((first|refine' w_q rfl rfl ?xa rfl ?_|refine' v_q rfl rfl ?xa rfl ?_|refine' Zn rfl rfl (Zb rfl) rfl ?xa rfl ?_|refine' Zo rfl rfl (Zb rfl) rfl ?xa rfl ?_);case xa => exact k_sliceO (a := j) (b := k) tbOk rfl rfl rfl ⟨_, Za rfl⟩ rfl oM oM)|((first|refine' w_e rfl ?xa ?xb ?xc ?xe ?_|refine' v_e rfl ?xa ?xb ?xc ?xe ?_);(case xa => first|exact Zl [] tlOk rfl rfl rfl rfl rfl rfl (by simp [AllN]) (by simp)|exact Ze 41 rfl (Zw tlOk rfl rfl rfl rfl rfl rfl (slD_ownJ (Zj rfl) oM) rfl (by simp only [maxLen, List.length_nil, List.length_take, List.length_drop];omega) (by simp only [List.length_nil, List.length_take, List.length_drop];omega)));(case xb|xc|xe=>rfl);try refine wkD ?_)|(refine wkB ?_ ?_<;>intro hg_<;>try exact wkX)|fail)
            all_goals first
              | exact fun w0 a w hS => (by (refine Zi [(101, 41), (100, 100)] rfl ?_ ?_ <;> repeat' (first|refine wkS ?_ ?_|exact wkE|exact Zba (by simp only [List.length_nil, List.length_take, List.length_drop];omega)|exact Zz rfl hdt|exact Zz rfl (by rw [hdt] <;> rfl))) : Weak _ _) w0 a w (weak_take 100 j w0 a w hS)
          · repeat' (first|refine wk ?_|((first|refine' w_q rfl rfl ?xa rfl ?_|refine' v_q rfl rfl ?xa rfl ?_|refine' Zn rfl rfl (Zb rfl) rfl ?xa rfl ?_|refine' Zo rfl rfl (Zb rfl) rfl ?xa rfl ?_);case xa => first|exact k_sliceO (a := 0) (b := j) tbOk rfl rfl rfl rfl ⟨_, Za rfl⟩ oM oM|exact Zx tbOk rfl rfl rfl rfl oM hix)|((first|refine' w_e rfl ?xa ?xb ?xc ?xe ?_|refine' v_e rfl ?xa ?xb ?xc ?xe ?_);(case xa => first|exact Zl [.tmp 48] tlOk rfl rfl rfl rfl rfl rfl (Zy rfl) (by simp)|exact Ze 50 rfl (Zw (c := j) tlOk rfl rfl rfl rfl rfl rfl (Z6 (Z0 (Zj rfl) rfl) (by simp [plain1])) hlt1 (by simp only [maxLen, List.length_cons, List.length_nil];omega) (by simp only [List.length_cons, List.length_nil];omega))|exact Ze 52 rfl (Zw tlOk rfl rfl rfl rfl rfl rfl (Z6 (Z0 (Zj rfl) hld.symm) hpl) (by simp only [List.length_append]) (by simp only [maxLen, List.length_append, List.length_cons, List.length_nil];omega) (by simp only [List.length_append, List.length_cons, List.length_nil];omega)));(case xb|xc|xe=>rfl);try refine wkD ?_)|(refine wkB ?_ ?_<;>intro hg_<;>try exact wkX)|fail)
            all_goals first
              | (refine hfin3 _ ?_
                 (refine Zi [(100, 52)] rfl ?_ ?_ <;> repeat' (first|refine wkS ?_ ?_|exact wkE|exact Zt hw|exact Zba (by simp only [List.length_append, List.length_cons, List.length_nil];omega)));done)
        · rw [if_pos rfl] at hP2
          clear hfin2
          repeat' (first|refine wk ?_|((first|refine' w_q rfl rfl ?xa rfl ?_|refine' v_q rfl rfl ?xa rfl ?_|refine' Zn rfl rfl (Zb rfl) rfl ?xa rfl ?_|refine' Zo rfl rfl (Zb rfl) rfl ?xa rfl ?_);case xa => first|exact Zx tbOk rfl rfl rfl rfl oM hix|exact Zap tbOk rfl rfl rfl rfl hl0 hl1|exact k_loadS (e := edgeP (y1, y2, y3)) tbOk rfl rfl rfl rfl hat rfl (Nat.le_refl 3) (.inl rfl)|exact Zm KB rfl ⟨Zq (Za rfl) ⟨Zd, Zd, Zd, trivial⟩, Zq (Za rfl) ⟨Zd, Zd, Zd, trivial⟩, trivial⟩)|(refine wkB ?_ ?_<;>intro hg_<;>try exact wkX)|fail)
          all_goals first
            | exact ⟨j - 1, ⟨by omega, hP2.symm⟩, by (refine Zi [] rfl ?_ ?_ <;> repeat' (first|refine wkS ?_ ?_|exact wkE|exact Zt hwj)), by omega⟩
      · have hj00 : j = 0 := by omega
        have hfin3 := hfin2 (by rw [← hP, hj00]; rfl)
        clear hfin2
        refine Zbk ?_
        repeat' (first|refine wkN ?_|((first|refine' w_q rfl rfl ?xa rfl ?_|refine' v_q rfl rfl ?xa rfl ?_|refine' Zn rfl rfl (Zb rfl) rfl ?xa rfl ?_|refine' Zo rfl rfl (Zb rfl) rfl ?xa rfl ?_);case xa => exact Zx tbOk rfl rfl rfl rfl oM hix)|(refine wkB ?_ ?_<;>intro hg_<;>try exact wkX)|fail)
        refine Zbk ?_
        repeat' (first|refine wkN ?_|((first|refine' w_q rfl rfl ?xa rfl ?_|refine' v_q rfl rfl ?xa rfl ?_|refine' Zn rfl rfl (Zb rfl) rfl ?xa rfl ?_|refine' Zo rfl rfl (Zb rfl) rfl ?xa rfl ?_);case xa => exact Zx tbOk rfl rfl rfl rfl oM hix)|(refine wkB ?_ ?_<;>intro hg_<;>try exact wkX)|fail)
        refine Zbp (mkS 54 [(6, .one (.own 101 0 (k - j) 3)), (5, .one (.r true (int j))), (4, .one (.r true (int k))), (3, .one (.own 100 0 k 3)), (0, .one (.r false (row nil 3 (edges ms))))] [(101, .sl 70 3 true ((edges out).drop j)), (100, .sl 70 3 true ((edges out).take j))]) ?_ ?_
        · repeat' (first|refine wk ?_|((first|refine' w_q rfl rfl ?xa rfl ?_|refine' v_q rfl rfl ?xa rfl ?_|refine' Zn rfl rfl (Zb rfl) rfl ?xa rfl ?_|refine' Zo rfl rfl (Zb rfl) rfl ?xa rfl ?_);case xa => exact k_sliceO (a := j) (b := k) tbOk rfl rfl rfl ⟨_, Za rfl⟩ rfl oM oM)|((first|refine' w_e rfl ?xa ?xb ?xc ?xe ?_|refine' v_e rfl ?xa ?xb ?xc ?xe ?_);(case xa => first|exact Zl [] tlOk rfl rfl rfl rfl rfl rfl (by simp [AllN]) (by simp)|exact Ze 41 rfl (Zw tlOk rfl rfl rfl rfl rfl rfl (slD_ownJ (Zj rfl) oM) rfl (by simp only [maxLen, List.length_nil, List.length_take, List.length_drop];omega) (by simp only [List.length_nil, List.length_take, List.length_drop];omega)));(case xb|xc|xe=>rfl);try refine wkD ?_)|(refine wkB ?_ ?_<;>intro hg_<;>try exact wkX)|fail)
          all_goals first
            | exact fun w0 a w hS => (by (refine Zi [(101, 41), (100, 100)] rfl ?_ ?_ <;> repeat' (first|refine wkS ?_ ?_|exact wkE|exact Zba (by simp only [List.length_nil, List.length_take, List.length_drop];omega)|exact Zz rfl hdt|exact Zz rfl (by rw [hdt] <;> rfl))) : Weak _ _) w0 a w (weak_take 100 j w0 a w hS)
        · repeat' (first|refine wk ?_|((first|refine' w_q rfl rfl ?xa rfl ?_|refine' v_q rfl rfl ?xa rfl ?_|refine' Zn rfl rfl (Zb rfl) rfl ?xa rfl ?_|refine' Zo rfl rfl (Zb rfl) rfl ?xa rfl ?_);case xa => first|exact k_sliceO (a := 0) (b := j) tbOk rfl rfl rfl rfl ⟨_, Za rfl⟩ oM oM|exact Zx tbOk rfl rfl rfl rfl oM hix)|((first|refine' w_e rfl ?xa ?xb ?xc ?xe ?_|refine' v_e rfl ?xa ?xb ?xc ?xe ?_);(case xa => first|exact Zl [.tmp 48] tlOk rfl rfl rfl rfl rfl rfl (Zy rfl) (by simp)|exact Ze 50 rfl (Zw (c := j) tlOk rfl rfl rfl rfl rfl rfl (Z6 (Z0 (Zj rfl) rfl) (by simp [plain1])) hlt1 (by simp only [maxLen, List.length_cons, List.length_nil];omega) (by simp only [List.length_cons, List.length_nil];omega))|exact Ze 52 rfl (Zw tlOk rfl rfl rfl rfl rfl rfl (Z6 (Z0 (Zj rfl) hld.symm) hpl) (by simp only [List.length_append]) (by simp only [maxLen, List.length_append, List.length_cons, List.length_nil];omega) (by simp only [List.length_append, List.length_cons, List.length_nil];omega)));(case xb|xc|xe=>rfl);try refine wkD ?_)|(refine wkB ?_ ?_<;>intro hg_<;>try exact wkX)|fail)
          all_goals first
            | (refine hfin3 _ ?_
               (refine Zi [(100, 52)] rfl ?_ ?_ <;> repeat' (first|refine wkS ?_ ?_|exact wkE|exact Zt hw|exact Zba (by simp only [List.length_append, List.length_cons, List.length_nil];omega)));done)
    · obtain rfl : k = ms.length := by omega
      rw [sortF_end]
      repeat' (first|refine wk ?_|(refine wkB ?_ ?_<;>intro hg_<;>try exact wkX)|fail)
      all_goals first
        | exact Zb8 rfl rfl (by rw [Zp, sortM_len])
  · have e : sortL ms = [] := by unfold sortL; rw [if_neg h2]
    rw [e]
    refine fn_ofO Try.func72 kRf rfl Try.ntmps72 rfl rfl ?_; simp only [argEnv, P0.d, Nat.reduceAdd, List.map_cons, List.map_nil]
    repeat' (first|refine wk ?_|((first|refine' w_e rfl ?xa ?xb ?xc ?xe ?_|refine' v_e rfl ?xa ?xb ?xc ?xe ?_);(case xa => exact Zl [] tlOk rfl rfl rfl rfl rfl rfl (by simp [AllN]) (by simp));(case xb|xc|xe=>rfl);try refine wkD ?_)|(refine wkB ?_ ?_<;>intro hg_<;>try exact wkX)|fail)
    refine Zaa (fun _ : Nat => True) (fun _ => mkS 54 [(4, .one (.r true (int 0))), (3, .one (.own 100 0 0 3)), (0, .one (.r false (row nil 3 (edges ms))))] [(100, .sl 70 3 true [])]) (fun _ => 0) 0 trivial (by (refine Zi [(100, 7)] rfl ?_ ?_ <;>exact wkW)) ?_
    rintro _ _
    repeat' (first|refine wk ?_|(refine wkB ?_ ?_<;>intro hg_<;>try exact wkX)|fail)
    all_goals first
      | exact Zb8 rfl rfl rfl
      | (exfalso; omega)
end Go.Proofs.Ytmkijbfiilpccaa.Abs
set_option linter.unusedSimpArgs false
set_option linter.unusedVariables false
namespace Go.Proofs.Ytmkijbfiilpccaa.Abs
open Go.RowKit
open R (val row ref)
theorem leastI_bd : ∀ {l : List Int} {a b : Int},l ≠ [] → (∀ z ∈ l,a ≤ z ∧ z ≤ b) → a ≤ leastI l ∧ leastI l ≤ b
 | x :: xs,a,b,_,h=>by
  unfold leastI
  have key : ∀ (ys : List Int) (c : Int),(a ≤ c ∧ c ≤ b) → (∀ z ∈ ys,a ≤ z ∧ z ≤ b) → a ≤ ys.foldl min c ∧ ys.foldl min c ≤ b:=by
   intro ys
   induction ys with
   | nil=>intro c hc _; exact hc
   | cons y ys ih =>
    intro c hc hy
    exact ih (min c y) (by have:=hy y (by simp); omega) (fun z hz=>hy z (by simp [hz]))
  exact key xs x (h x (by simp)) (fun z hz=>h z (by simp [hz]))
theorem chain_w {P : Int → Bool} : ∀ (es : List E3) (p : Option E3),chain P p es = true → ∀ e ∈ es,0 ≤ e.2.2 ∧ e.2.2 ≤ 20
 | [],_,_,_,h=>by cases h
 | e :: t,p,h,x,hx=>by
  unfold chain at h
  rw [Bool.and_eq_true,Bool.and_eq_true] at h
  rcases List.mem_cons.1 hx with rfl | hx
  ·have:=h.1.1
   unfold eOk at this
   simp only [Bool.and_eq_true,decide_eq_true_eq] at this
   exact this.2
  ·exact chain_w t (some e) h.2 x hx
theorem wE_bd {m : Int} {es : List E3} (hg : gOk m es = true) (a b : Int) : -1 ≤ wE es a b ∧ wE es a b ≤ 20:=by
 unfold gOk at hg
 rw [Bool.and_eq_true] at hg
 have hw:=chain_w es none hg.2
 unfold wE
 cases hf : es.find? (isE a b) with
 | none=>dsimp only; omega
 | some e=>have:=hw e (List.mem_of_find?_eq_some hf); dsimp only; omega
theorem Zdb {α β : Type} {f : α → β} {xs : List α} {k : Nat} (h : k < xs.length) : (xs.map f).take (k + 1) = (xs.map f).take k ++ [f xs[k]]:=by
 rw [List.take_succ_eq_append_getElem (by rw [List.length_map]; exact h),List.getElem_map]
theorem f_step1 (m : Int) (nil nl : Bool) (es : List E3) (s r rd v value : Int) (l : List Int) (hg : gOk m es = true) (hl : l.length ≤ 2000) (h0 : 0 ≤ rd) (h1 : rd ≤ 100) (hv0 : -1 ≤ value) (hv1 : value ≤ 999999) (hl0 : ∀ z ∈ l, 0 ≤ z ∧ z ≤ 999999) (hv : 0 ≤ v ∧ v ≤ 100) : Fn Try.prog 100 [graphP m nil es, prgP 1 s r, iP rd, iP v, iP value, .one (row nl 1 (ints l))] (.tup [iP (wayCh s rd v value l).1, .one (row false 3 (edges (if (wayCh s rd v value l).2 then wayMs es 1 v (wayCh s rd v value l).1 else []))), .one (bool false)]) := by
  have hl40 := Za1 hg
  have hll := Zu l
  have KN := f_nextOf m nil es v hg
  unfold wayMs
  have hN40 := nextL_len es v
  generalize nextL es v = N at *
  rw [show (fun w => (w, (wayCh s rd v value l).1 + (if (1 : Int) = 2 then wE es v w else 1), v)) = (fun w => (w, (wayCh s rd v value l).1 + 1, v)) from funext fun w => by simp]
  obtain ⟨V, hV⟩ : ∃ V, V = (wayCh s rd v value l).1 := ⟨_, rfl⟩
  rw [← hV]
  by_cases hr0 : rd = 0
  · subst hr0
    by_cases hvs : v = s
    · have e : wayCh s 0 v value l = (0, true) := by unfold wayCh; simp [hvs]
      rw [e] at hV ⊢
      rw [if_pos rfl]
      clear e
      have hV0 : V = 0 := hV
      clear hV
      subst hV0
      suffices key : ∀ M : List E3, M = N.map (fun w => (w, 0 + 1, v)) → Fn Try.prog 100 [graphP m nil es, prgP 1 s r, iP 0, iP v, iP value, .one (row nl 1 (ints l))] (.tup [iP (0), .one (row false 3 (edges M)), .one (bool false)]) from key _ rfl
      intro M hM
      have hMl : M.length = N.length := by rw [hM, List.length_map]
      refine Z8 (l := [.tmp 12, .tmp 13, .tmp 14]) Try.func100 kRf rfl Try.ntmps100 rfl rfl ?_; simp only [argEnv, P0.d, Nat.reduceAdd, graphP, prgP, List.map_cons, List.map_nil]
      repeat' (first|refine wk ?_|((first|refine' w_q rfl rfl ?xa rfl ?_|refine' v_q rfl rfl ?xa rfl ?_|refine' Zn rfl rfl (Zb rfl) rfl ?xa rfl ?_|refine' Zo rfl rfl (Zb rfl) rfl ?xa rfl ?_);case xa => exact Zm KN rfl ⟨Zq (Za rfl) ⟨Zd, Zd, trivial⟩, Zf (Za rfl), trivial⟩)|((first|refine' w_e rfl ?xa ?xb ?xc ?xe ?_|refine' v_e rfl ?xa ?xb ?xc ?xe ?_);(case xa => exact Zl [] tlOk rfl rfl rfl rfl rfl rfl (by simp [AllN]) (by simp));(case xb|xc|xe=>rfl);try refine wkD ?_)|(refine wkB ?_ ?_<;>intro hg_<;>try exact wkX)|fail)
      have hNl := Zu N
      refine Zaa (fun j : Nat => j ≤ N.length) (fun j => mkS 227 [(19, .one (.r true (int j))), (18, .one (.r true (row false 1 (ints N)))), (16, .one (.r true (bool true))), (15, .one (.own 100 0 j 3)), (7, .one (.ptr 7 0 0 0)), (6, .one (.ptr 6 0 0 0)), (4, .one (.r true (int 0))), (3, .one (.r false (int v)))] [(100, .sl 70 3 true (edges (M.take j))), (7, .var 59 [.r false (int 1), .r false (int s), .r false (int r)]), (6, .var 57 [.r false (int m), .r false (row nil 3 (edges es))])]) (fun j => N.length - j) 0 (Nat.zero_le _) (by (refine Zi [(100, 25)] rfl ?_ ?_ <;> repeat' (first|refine wkS ?_ ?_|exact wkE|exact d_bool (by simp_all)|exact Zt rfl))) ?_
      intro j hj
      have hX : (edges (M.take j)).length = j := by rw [Zp, List.length_take]; omega
      by_cases hlt : j < N.length
      · have hix := ints_at hlt
        have hobj : edges (M.take (j + 1)) = edges (M.take j) ++ [edgeP (N[j], 0 + 1, v)] := by rw [hM, Zdb hlt, Zag]
        generalize edges (M.take j) = X at *
        generalize N[j] = w at *
        have hwV : IntKind.i64.wrap (0 + 1) = 0 + 1 := IntWalk.i64_in _ oM
        repeat' (first|refine wk ?_|((first|refine' w_q rfl rfl ?xa rfl ?_|refine' v_q rfl rfl ?xa rfl ?_|refine' Zn rfl rfl (Zb rfl) rfl ?xa rfl ?_|refine' Zo rfl rfl (Zb rfl) rfl ?xa rfl ?_);case xa => exact Zx tbOk rfl rfl rfl rfl oM hix)|((first|refine' w_e rfl ?xa ?xb ?xc ?xe ?_|refine' v_e rfl ?xa ?xb ?xc ?xe ?_);(case xa => first|exact Zl [.tmp 90] tlOk rfl rfl rfl rfl rfl rfl (Zy rfl) (by simp)|exact Zw tlOk rfl rfl rfl rfl rfl rfl (Z6 (Z0 (Zj rfl) rfl) (by simp [plain1])) hX.symm (by simp only [maxLen, List.length_cons, List.length_nil];omega) (by simp only [List.length_cons, List.length_nil];omega));(case xb|xc|xe=>rfl);try refine wkD ?_)|(refine wkB ?_ ?_<;>intro hg_<;>try exact wkX)|fail)
        all_goals first
          | (exfalso; omega)
          | exact ⟨j + 1, by omega, by (refine Zi [(100, 92)] rfl ?_ ?_ <;> repeat' (first|refine wkS ?_ ?_|exact wkE|exact Zt (by rw [IntWalk.i64_in _ oM] <;> omega)|exact Zba (by simp only [List.length_cons, List.length_nil];omega)|exact Zz rfl (by rw [hwV, hobj] <;> rfl))), by omega⟩
      · obtain rfl : j = N.length := by omega
        have hall : M.take N.length = M := List.take_of_length_le oM
        rw [hall]
        repeat' (first|refine wk ?_|(refine wkB ?_ ?_<;>intro hg_<;>try exact wkX)|fail)
        all_goals first
          | exact Z9 (Zk rfl (Zv rfl)) (Zk rfl (Z7 (Z5 (Zj rfl) (by rw [Zp, hMl])))) (Zk rfl (Zr rfl))
    · have e : wayCh s 0 v value l = (-1, false) := by unfold wayCh; simp [hvs]
      rw [e] at hV ⊢
      rw [if_neg (by simp)]
      clear e
      refine Z8 (l := [.tmp 12, .tmp 13, .tmp 14]) Try.func100 kRf rfl Try.ntmps100 rfl rfl ?_; simp only [argEnv, P0.d, Nat.reduceAdd, graphP, prgP, List.map_cons, List.map_nil]
      repeat' (first|refine wk ?_|((first|refine' w_q rfl rfl ?xa rfl ?_|refine' v_q rfl rfl ?xa rfl ?_|refine' Zn rfl rfl (Zb rfl) rfl ?xa rfl ?_|refine' Zo rfl rfl (Zb rfl) rfl ?xa rfl ?_);case xa => exact Zm KN rfl ⟨Zq (Za rfl) ⟨Zd, Zd, trivial⟩, Zf (Za rfl), trivial⟩)|((first|refine' w_e rfl ?xa ?xb ?xc ?xe ?_|refine' v_e rfl ?xa ?xb ?xc ?xe ?_);(case xa => exact Zl [] tlOk rfl rfl rfl rfl rfl rfl (by simp [AllN]) (by simp));(case xb|xc|xe=>rfl);try refine wkD ?_)|(refine wkB ?_ ?_<;>intro hg_<;>try exact wkX)|fail)
      subst hV
      refine Zaa (fun _ : Nat => True) (fun _ => mkS 227 [(19, .one (.r true (int 0))), (18, .one (.r true (row false 1 (ints N)))), (16, .one (.r true (bool false))), (15, .one (.own 100 0 0 3)), (4, .one (.r true (int (-1)))), (3, .one (.r false (int v)))] [(100, .sl 70 3 true [])]) (fun _ => 0) 0 trivial (by (refine Zi [(100, 25)] rfl ?_ ?_ <;> repeat' (first|refine wkS ?_ ?_|exact wkE|exact d_bool (by simp_all)|exact Zt rfl))) ?_
      rintro _ _
      repeat' (first|refine wk ?_|(refine wkB ?_ ?_<;>intro hg_<;>try exact wkX)|fail)
      all_goals first
        | (exfalso; omega)
        | exact Z9 (Zk rfl (Zv rfl)) (Zk rfl (Z7 (Z5 (Zj rfl) rfl))) (Zk rfl (Zr rfl))
  · by_cases hne : l = []
    · have e : wayCh s rd v value l = (value, false) := by unfold wayCh; simp [hne, hr0]
      rw [e] at hV ⊢
      rw [if_neg (by simp)]
      clear e hll
      have hl00 : ((ints l).length : Int) = 0 := by rw [hne]; rfl
      refine Z8 (l := [.tmp 12, .tmp 13, .tmp 14]) Try.func100 kRf rfl Try.ntmps100 rfl rfl ?_; simp only [argEnv, P0.d, Nat.reduceAdd, graphP, prgP, List.map_cons, List.map_nil]
      repeat' (first|refine wk ?_|((first|refine' w_q rfl rfl ?xa rfl ?_|refine' v_q rfl rfl ?xa rfl ?_|refine' Zn rfl rfl (Zb rfl) rfl ?xa rfl ?_|refine' Zo rfl rfl (Zb rfl) rfl ?xa rfl ?_);case xa => exact Zm KN rfl ⟨Zq (Za rfl) ⟨Zd, Zd, trivial⟩, Zf (Za rfl), trivial⟩)|((first|refine' w_e rfl ?xa ?xb ?xc ?xe ?_|refine' v_e rfl ?xa ?xb ?xc ?xe ?_);(case xa => exact Zl [] tlOk rfl rfl rfl rfl rfl rfl (by simp [AllN]) (by simp));(case xb|xc|xe=>rfl);try refine wkD ?_)|(refine wkB ?_ ?_<;>intro hg_<;>try exact wkX)|fail)
      subst hV
      refine Zaa (fun _ : Nat => True) (fun _ => mkS 227 [(19, .one (.r true (int 0))), (18, .one (.r true (row false 1 (ints N)))), (16, .one (.r true (bool false))), (15, .one (.own 100 0 0 3)), (4, .one (.r false (int V))), (3, .one (.r false (int v)))] [(100, .sl 70 3 true [])]) (fun _ => 0) 0 trivial (by (refine Zi [(100, 25)] rfl ?_ ?_ <;> repeat' (first|refine wkS ?_ ?_|exact wkE|exact d_bool (by simp_all)|exact Zt rfl))) ?_
      rintro _ _
      repeat' (first|refine wk ?_|(refine wkB ?_ ?_<;>intro hg_<;>try exact wkX)|fail)
      all_goals first
        | (exfalso; omega)
        | exact Z9 (Zk rfl (Zv rfl)) (Zk rfl (Z7 (Z5 (Zj rfl) rfl))) (Zk rfl (Zr rfl))
    · have KL := f_l10Least nl l oM hne
      have hLb := leastI_bd hne hl0
      have hlp : 0 < (ints l).length := by rw [hll]; exact List.length_pos_iff.2 hne
      by_cases hc : value < 0 ∨ leastI l < value
      · have e : wayCh s rd v value l = (leastI l, true) := by unfold wayCh; rw [if_neg hr0]; dsimp only; rw [if_pos ⟨by omega, hne, hc⟩]
        rw [e] at hV ⊢
        rw [if_pos rfl]
        clear e
        dsimp only at hV
        rw [← hV] at KL
        have hVb : 0 ≤ V ∧ V ≤ 999999 := by omega
        have hc2 : value < 0 ∨ V < value := by omega
        clear hV hc
        suffices key : ∀ M : List E3, M = N.map (fun w => (w, V + 1, v)) → Fn Try.prog 100 [graphP m nil es, prgP 1 s r, iP rd, iP v, iP value, .one (row nl 1 (ints l))] (.tup [iP (V), .one (row false 3 (edges M)), .one (bool false)]) from key _ rfl
        intro M hM
        have hMl : M.length = N.length := by rw [hM, List.length_map]
        refine Z8 (l := [.tmp 12, .tmp 13, .tmp 14]) Try.func100 kRf rfl Try.ntmps100 rfl rfl ?_; simp only [argEnv, P0.d, Nat.reduceAdd, graphP, prgP, List.map_cons, List.map_nil]
        repeat' (first|refine wk ?_|((first|refine' w_q rfl rfl ?xa rfl ?_|refine' v_q rfl rfl ?xa rfl ?_|refine' Zn rfl rfl (Zb rfl) rfl ?xa rfl ?_|refine' Zo rfl rfl (Zb rfl) rfl ?xa rfl ?_);case xa => first|exact Zm KN rfl ⟨Zq (Za rfl) ⟨Zd, Zd, trivial⟩, Zf (Za rfl), trivial⟩|exact Zm KL rfl ⟨Zf (Za rfl), trivial⟩)|((first|refine' w_e rfl ?xa ?xb ?xc ?xe ?_|refine' v_e rfl ?xa ?xb ?xc ?xe ?_);(case xa => exact Zl [] tlOk rfl rfl rfl rfl rfl rfl (by simp [AllN]) (by simp));(case xb|xc|xe=>rfl);try refine wkD ?_)|(refine wkB ?_ ?_<;>intro hg_<;>try exact wkX)|fail)
        all_goals
          have hNl := Zu N
          refine Zaa (fun j : Nat => j ≤ N.length) (fun j => mkS 227 [(19, .one (.r true (int j))), (18, .one (.r true (row false 1 (ints N)))), (16, .one (.r true (bool true))), (15, .one (.own 100 0 j 3)), (7, .one (.ptr 7 0 0 0)), (6, .one (.ptr 6 0 0 0)), (4, .one (.r true (int V))), (3, .one (.r false (int v)))] [(100, .sl 70 3 true (edges (M.take j))), (7, .var 59 [.r false (int 1), .r false (int s), .r false (int r)]), (6, .var 57 [.r false (int m), .r false (row nil 3 (edges es))])]) (fun j => N.length - j) 0 (Nat.zero_le _) (by (refine Zi [(100, 25)] rfl ?_ ?_ <;> repeat' (first|refine wkS ?_ ?_|exact wkE|exact d_bool (by simp_all)|exact Zt rfl))) ?_
          intro j hj
          have hX : (edges (M.take j)).length = j := by rw [Zp, List.length_take]; omega
          by_cases hlt : j < N.length
          · have hix := ints_at hlt
            have hobj : edges (M.take (j + 1)) = edges (M.take j) ++ [edgeP (N[j], V + 1, v)] := by rw [hM, Zdb hlt, Zag]
            generalize edges (M.take j) = X at *
            generalize N[j] = w at *
            have hwV : IntKind.i64.wrap (V + 1) = V + 1 := IntWalk.i64_in _ oM
            repeat' (first|refine wk ?_|((first|refine' w_q rfl rfl ?xa rfl ?_|refine' v_q rfl rfl ?xa rfl ?_|refine' Zn rfl rfl (Zb rfl) rfl ?xa rfl ?_|refine' Zo rfl rfl (Zb rfl) rfl ?xa rfl ?_);case xa => exact Zx tbOk rfl rfl rfl rfl oM hix)|((first|refine' w_e rfl ?xa ?xb ?xc ?xe ?_|refine' v_e rfl ?xa ?xb ?xc ?xe ?_);(case xa => first|exact Zl [.tmp 90] tlOk rfl rfl rfl rfl rfl rfl (Zy rfl) (by simp)|exact Zw tlOk rfl rfl rfl rfl rfl rfl (Z6 (Z0 (Zj rfl) rfl) (by simp [plain1])) hX.symm (by simp only [maxLen, List.length_cons, List.length_nil];omega) (by simp only [List.length_cons, List.length_nil];omega));(case xb|xc|xe=>rfl);try refine wkD ?_)|(refine wkB ?_ ?_<;>intro hg_<;>try exact wkX)|fail)
            all_goals first
              | (exfalso; omega)
              | exact ⟨j + 1, by omega, by (refine Zi [(100, 92)] rfl ?_ ?_ <;> repeat' (first|refine wkS ?_ ?_|exact wkE|exact Zt (by rw [IntWalk.i64_in _ oM] <;> omega)|exact Zba (by simp only [List.length_cons, List.length_nil];omega)|exact Zz rfl (by rw [hwV, hobj] <;> rfl))), by omega⟩
          · obtain rfl : j = N.length := by omega
            have hall : M.take N.length = M := List.take_of_length_le oM
            rw [hall]
            repeat' (first|refine wk ?_|(refine wkB ?_ ?_<;>intro hg_<;>try exact wkX)|fail)
            all_goals first
              | exact Z9 (Zk rfl (Zv rfl)) (Zk rfl (Z7 (Z5 (Zj rfl) (by rw [Zp, hMl])))) (Zk rfl (Zr rfl))
      · have e : wayCh s rd v value l = (value, false) := by unfold wayCh; rw [if_neg hr0]; dsimp only; rw [if_neg (fun h => hc h.2.2)]; simp [hr0]
        rw [e] at hV ⊢
        rw [if_neg (by simp)]
        clear e
        refine Z8 (l := [.tmp 12, .tmp 13, .tmp 14]) Try.func100 kRf rfl Try.ntmps100 rfl rfl ?_; simp only [argEnv, P0.d, Nat.reduceAdd, graphP, prgP, List.map_cons, List.map_nil]
        repeat' (first|refine wk ?_|((first|refine' w_q rfl rfl ?xa rfl ?_|refine' v_q rfl rfl ?xa rfl ?_|refine' Zn rfl rfl (Zb rfl) rfl ?xa rfl ?_|refine' Zo rfl rfl (Zb rfl) rfl ?xa rfl ?_);case xa => first|exact Zm KN rfl ⟨Zq (Za rfl) ⟨Zd, Zd, trivial⟩, Zf (Za rfl), trivial⟩|exact Zm KL rfl ⟨Zf (Za rfl), trivial⟩)|((first|refine' w_e rfl ?xa ?xb ?xc ?xe ?_|refine' v_e rfl ?xa ?xb ?xc ?xe ?_);(case xa => exact Zl [] tlOk rfl rfl rfl rfl rfl rfl (by simp [AllN]) (by simp));(case xb|xc|xe=>rfl);try refine wkD ?_)|(refine wkB ?_ ?_<;>intro hg_<;>try exact wkX)|fail)
        all_goals
          subst hV
          refine Zaa (fun _ : Nat => True) (fun _ => mkS 227 [(19, .one (.r true (int 0))), (18, .one (.r true (row false 1 (ints N)))), (16, .one (.r true (bool false))), (15, .one (.own 100 0 0 3)), (4, .one (.r false (int V))), (3, .one (.r false (int v)))] [(100, .sl 70 3 true [])]) (fun _ => 0) 0 trivial (by (refine Zi [(100, 25)] rfl ?_ ?_ <;> repeat' (first|refine wkS ?_ ?_|exact wkE|exact d_bool (by simp_all)|exact Zt rfl))) ?_
          rintro _ _
          repeat' (first|refine wk ?_|(refine wkB ?_ ?_<;>intro hg_<;>try exact wkX)|fail)
          all_goals first
            | (exfalso; omega)
            | exact Z9 (Zk rfl (Zv rfl)) (Zk rfl (Z7 (Z5 (Zj rfl) rfl))) (Zk rfl (Zr rfl))
theorem f_step2 (m : Int) (nil nl : Bool) (es : List E3) (s r rd v value : Int) (l : List Int) (hg : gOk m es = true) (hl : l.length ≤ 2000) (h0 : 0 ≤ rd) (h1 : rd ≤ 100) (hv0 : -1 ≤ value) (hv1 : value ≤ 999999) (hl0 : ∀ z ∈ l, 0 ≤ z ∧ z ≤ 999999) (hv : 0 ≤ v ∧ v ≤ 100) : Fn Try.prog 100 [graphP m nil es, prgP 2 s r, iP rd, iP v, iP value, .one (row nl 1 (ints l))] (.tup [iP (wayCh s rd v value l).1, .one (row false 3 (edges (if (wayCh s rd v value l).2 then wayMs es 2 v (wayCh s rd v value l).1 else []))), .one (bool false)]) := by
  have hl40 := Za1 hg
  have hll := Zu l
  have KN := f_nextOf m nil es v hg
  unfold wayMs
  have hN40 := nextL_len es v
  generalize nextL es v = N at *
  rw [show (fun w => (w, (wayCh s rd v value l).1 + (if (2 : Int) = 2 then wE es v w else 1), v)) = (fun w => (w, (wayCh s rd v value l).1 + wE es v w, v)) from funext fun w => by simp]
  obtain ⟨V, hV⟩ : ∃ V, V = (wayCh s rd v value l).1 := ⟨_, rfl⟩
  rw [← hV]
  by_cases hr0 : rd = 0
  · subst hr0
    by_cases hvs : v = s
    · have e : wayCh s 0 v value l = (0, true) := by unfold wayCh; simp [hvs]
      rw [e] at hV ⊢
      rw [if_pos rfl]
      clear e
      have hV0 : V = 0 := hV
      clear hV
      subst hV0
      suffices key : ∀ M : List E3, M = N.map (fun w => (w, 0 + wE es v w, v)) → Fn Try.prog 100 [graphP m nil es, prgP 2 s r, iP 0, iP v, iP value, .one (row nl 1 (ints l))] (.tup [iP (0), .one (row false 3 (edges M)), .one (bool false)]) from key _ rfl
      intro M hM
      have hMl : M.length = N.length := by rw [hM, List.length_map]
      refine Z8 (l := [.tmp 12, .tmp 13, .tmp 14]) Try.func100 kRf rfl Try.ntmps100 rfl rfl ?_; simp only [argEnv, P0.d, Nat.reduceAdd, graphP, prgP, List.map_cons, List.map_nil]
      repeat' (first|refine wk ?_|((first|refine' w_q rfl rfl ?xa rfl ?_|refine' v_q rfl rfl ?xa rfl ?_|refine' Zn rfl rfl (Zb rfl) rfl ?xa rfl ?_|refine' Zo rfl rfl (Zb rfl) rfl ?xa rfl ?_);case xa => exact Zm KN rfl ⟨Zq (Za rfl) ⟨Zd, Zd, trivial⟩, Zf (Za rfl), trivial⟩)|((first|refine' w_e rfl ?xa ?xb ?xc ?xe ?_|refine' v_e rfl ?xa ?xb ?xc ?xe ?_);(case xa => exact Zl [] tlOk rfl rfl rfl rfl rfl rfl (by simp [AllN]) (by simp));(case xb|xc|xe=>rfl);try refine wkD ?_)|(refine wkB ?_ ?_<;>intro hg_<;>try exact wkX)|fail)
      have hNl := Zu N
      refine Zaa (fun j : Nat => j ≤ N.length) (fun j => mkS 227 [(19, .one (.r true (int j))), (18, .one (.r true (row false 1 (ints N)))), (16, .one (.r true (bool true))), (15, .one (.own 100 0 j 3)), (7, .one (.ptr 7 0 0 0)), (6, .one (.ptr 6 0 0 0)), (4, .one (.r true (int 0))), (3, .one (.r false (int v)))] [(100, .sl 70 3 true (edges (M.take j))), (7, .var 59 [.r false (int 2), .r false (int s), .r false (int r)]), (6, .var 57 [.r false (int m), .r false (row nil 3 (edges es))])]) (fun j => N.length - j) 0 (Nat.zero_le _) (by (refine Zi [(100, 25)] rfl ?_ ?_ <;> repeat' (first|refine wkS ?_ ?_|exact wkE|exact d_bool (by simp_all)|exact Zt rfl))) ?_
      intro j hj
      have hX : (edges (M.take j)).length = j := by rw [Zp, List.length_take]; omega
      by_cases hlt : j < N.length
      · have hix := ints_at hlt
        have hobj : edges (M.take (j + 1)) = edges (M.take j) ++ [edgeP (N[j], 0 + wE es v N[j], v)] := by rw [hM, Zdb hlt, Zag]
        generalize edges (M.take j) = X at *
        generalize N[j] = w at *
        have hwb := wE_bd hg v w
        have KW := f_specWeightOf m nil es v w (by simp only [maxLen]; omega)
        unfold wOf at KW
        rw [hg, if_pos rfl] at KW
        have hwV : IntKind.i64.wrap (0 + wE es v w) = 0 + wE es v w := IntWalk.i64_in _ oM
        repeat' (first|refine wk ?_|((first|refine' w_q rfl rfl ?xa rfl ?_|refine' v_q rfl rfl ?xa rfl ?_|refine' Zn rfl rfl (Zb rfl) rfl ?xa rfl ?_|refine' Zo rfl rfl (Zb rfl) rfl ?xa rfl ?_);case xa => first|exact Zx tbOk rfl rfl rfl rfl oM hix|exact Zm KW rfl ⟨Zq (Za rfl) ⟨Zd, Zd, trivial⟩, Zf (Za rfl), Zf (Za rfl), trivial⟩)|((first|refine' w_e rfl ?xa ?xb ?xc ?xe ?_|refine' v_e rfl ?xa ?xb ?xc ?xe ?_);(case xa => first|exact Zl [.tmp 90] tlOk rfl rfl rfl rfl rfl rfl (Zy rfl) (by simp)|exact Zw tlOk rfl rfl rfl rfl rfl rfl (Z6 (Z0 (Zj rfl) rfl) (by simp [plain1])) hX.symm (by simp only [maxLen, List.length_cons, List.length_nil];omega) (by simp only [List.length_cons, List.length_nil];omega));(case xb|xc|xe=>rfl);try refine wkD ?_)|(refine wkB ?_ ?_<;>intro hg_<;>try exact wkX)|fail)
        all_goals first
          | (exfalso; omega)
          | exact ⟨j + 1, by omega, by (refine Zi [(100, 92)] rfl ?_ ?_ <;> repeat' (first|refine wkS ?_ ?_|exact wkE|exact Zt (by rw [IntWalk.i64_in _ oM] <;> omega)|exact Zba (by simp only [List.length_cons, List.length_nil];omega)|exact Zz rfl (by rw [hwV, hobj] <;> rfl))), by omega⟩
      · obtain rfl : j = N.length := by omega
        have hall : M.take N.length = M := List.take_of_length_le oM
        rw [hall]
        repeat' (first|refine wk ?_|(refine wkB ?_ ?_<;>intro hg_<;>try exact wkX)|fail)
        all_goals first
          | exact Z9 (Zk rfl (Zv rfl)) (Zk rfl (Z7 (Z5 (Zj rfl) (by rw [Zp, hMl])))) (Zk rfl (Zr rfl))
    · have e : wayCh s 0 v value l = (-1, false) := by unfold wayCh; simp [hvs]
      rw [e] at hV ⊢
      rw [if_neg (by simp)]
      clear e
      refine Z8 (l := [.tmp 12, .tmp 13, .tmp 14]) Try.func100 kRf rfl Try.ntmps100 rfl rfl ?_; simp only [argEnv, P0.d, Nat.reduceAdd, graphP, prgP, List.map_cons, List.map_nil]
      repeat' (first|refine wk ?_|((first|refine' w_q rfl rfl ?xa rfl ?_|refine' v_q rfl rfl ?xa rfl ?_|refine' Zn rfl rfl (Zb rfl) rfl ?xa rfl ?_|refine' Zo rfl rfl (Zb rfl) rfl ?xa rfl ?_);case xa => exact Zm KN rfl ⟨Zq (Za rfl) ⟨Zd, Zd, trivial⟩, Zf (Za rfl), trivial⟩)|((first|refine' w_e rfl ?xa ?xb ?xc ?xe ?_|refine' v_e rfl ?xa ?xb ?xc ?xe ?_);(case xa => exact Zl [] tlOk rfl rfl rfl rfl rfl rfl (by simp [AllN]) (by simp));(case xb|xc|xe=>rfl);try refine wkD ?_)|(refine wkB ?_ ?_<;>intro hg_<;>try exact wkX)|fail)
      subst hV
      refine Zaa (fun _ : Nat => True) (fun _ => mkS 227 [(19, .one (.r true (int 0))), (18, .one (.r true (row false 1 (ints N)))), (16, .one (.r true (bool false))), (15, .one (.own 100 0 0 3)), (4, .one (.r true (int (-1)))), (3, .one (.r false (int v)))] [(100, .sl 70 3 true [])]) (fun _ => 0) 0 trivial (by (refine Zi [(100, 25)] rfl ?_ ?_ <;> repeat' (first|refine wkS ?_ ?_|exact wkE|exact d_bool (by simp_all)|exact Zt rfl))) ?_
      rintro _ _
      repeat' (first|refine wk ?_|(refine wkB ?_ ?_<;>intro hg_<;>try exact wkX)|fail)
      all_goals first
        | (exfalso; omega)
        | exact Z9 (Zk rfl (Zv rfl)) (Zk rfl (Z7 (Z5 (Zj rfl) rfl))) (Zk rfl (Zr rfl))
  · by_cases hne : l = []
    · have e : wayCh s rd v value l = (value, false) := by unfold wayCh; simp [hne, hr0]
      rw [e] at hV ⊢
      rw [if_neg (by simp)]
      clear e hll
      have hl00 : ((ints l).length : Int) = 0 := by rw [hne]; rfl
      refine Z8 (l := [.tmp 12, .tmp 13, .tmp 14]) Try.func100 kRf rfl Try.ntmps100 rfl rfl ?_; simp only [argEnv, P0.d, Nat.reduceAdd, graphP, prgP, List.map_cons, List.map_nil]
      repeat' (first|refine wk ?_|((first|refine' w_q rfl rfl ?xa rfl ?_|refine' v_q rfl rfl ?xa rfl ?_|refine' Zn rfl rfl (Zb rfl) rfl ?xa rfl ?_|refine' Zo rfl rfl (Zb rfl) rfl ?xa rfl ?_);case xa => exact Zm KN rfl ⟨Zq (Za rfl) ⟨Zd, Zd, trivial⟩, Zf (Za rfl), trivial⟩)|((first|refine' w_e rfl ?xa ?xb ?xc ?xe ?_|refine' v_e rfl ?xa ?xb ?xc ?xe ?_);(case xa => exact Zl [] tlOk rfl rfl rfl rfl rfl rfl (by simp [AllN]) (by simp));(case xb|xc|xe=>rfl);try refine wkD ?_)|(refine wkB ?_ ?_<;>intro hg_<;>try exact wkX)|fail)
      subst hV
      refine Zaa (fun _ : Nat => True) (fun _ => mkS 227 [(19, .one (.r true (int 0))), (18, .one (.r true (row false 1 (ints N)))), (16, .one (.r true (bool false))), (15, .one (.own 100 0 0 3)), (4, .one (.r false (int V))), (3, .one (.r false (int v)))] [(100, .sl 70 3 true [])]) (fun _ => 0) 0 trivial (by (refine Zi [(100, 25)] rfl ?_ ?_ <;> repeat' (first|refine wkS ?_ ?_|exact wkE|exact d_bool (by simp_all)|exact Zt rfl))) ?_
      rintro _ _
      repeat' (first|refine wk ?_|(refine wkB ?_ ?_<;>intro hg_<;>try exact wkX)|fail)
      all_goals first
        | (exfalso; omega)
        | exact Z9 (Zk rfl (Zv rfl)) (Zk rfl (Z7 (Z5 (Zj rfl) rfl))) (Zk rfl (Zr rfl))
    · have KL := f_l10Least nl l oM hne
      have hLb := leastI_bd hne hl0
      have hlp : 0 < (ints l).length := by rw [hll]; exact List.length_pos_iff.2 hne
      by_cases hc : value < 0 ∨ leastI l < value
      · have e : wayCh s rd v value l = (leastI l, true) := by unfold wayCh; rw [if_neg hr0]; dsimp only; rw [if_pos ⟨by omega, hne, hc⟩]
        rw [e] at hV ⊢
        rw [if_pos rfl]
        clear e
        dsimp only at hV
        rw [← hV] at KL
        have hVb : 0 ≤ V ∧ V ≤ 999999 := by omega
        have hc2 : value < 0 ∨ V < value := by omega
        clear hV hc
        suffices key : ∀ M : List E3, M = N.map (fun w => (w, V + wE es v w, v)) → Fn Try.prog 100 [graphP m nil es, prgP 2 s r, iP rd, iP v, iP value, .one (row nl 1 (ints l))] (.tup [iP (V), .one (row false 3 (edges M)), .one (bool false)]) from key _ rfl
        intro M hM
        have hMl : M.length = N.length := by rw [hM, List.length_map]
        refine Z8 (l := [.tmp 12, .tmp 13, .tmp 14]) Try.func100 kRf rfl Try.ntmps100 rfl rfl ?_; simp only [argEnv, P0.d, Nat.reduceAdd, graphP, prgP, List.map_cons, List.map_nil]
        repeat' (first|refine wk ?_|((first|refine' w_q rfl rfl ?xa rfl ?_|refine' v_q rfl rfl ?xa rfl ?_|refine' Zn rfl rfl (Zb rfl) rfl ?xa rfl ?_|refine' Zo rfl rfl (Zb rfl) rfl ?xa rfl ?_);case xa => first|exact Zm KN rfl ⟨Zq (Za rfl) ⟨Zd, Zd, trivial⟩, Zf (Za rfl), trivial⟩|exact Zm KL rfl ⟨Zf (Za rfl), trivial⟩)|((first|refine' w_e rfl ?xa ?xb ?xc ?xe ?_|refine' v_e rfl ?xa ?xb ?xc ?xe ?_);(case xa => exact Zl [] tlOk rfl rfl rfl rfl rfl rfl (by simp [AllN]) (by simp));(case xb|xc|xe=>rfl);try refine wkD ?_)|(refine wkB ?_ ?_<;>intro hg_<;>try exact wkX)|fail)
        all_goals
          have hNl := Zu N
          refine Zaa (fun j : Nat => j ≤ N.length) (fun j => mkS 227 [(19, .one (.r true (int j))), (18, .one (.r true (row false 1 (ints N)))), (16, .one (.r true (bool true))), (15, .one (.own 100 0 j 3)), (7, .one (.ptr 7 0 0 0)), (6, .one (.ptr 6 0 0 0)), (4, .one (.r true (int V))), (3, .one (.r false (int v)))] [(100, .sl 70 3 true (edges (M.take j))), (7, .var 59 [.r false (int 2), .r false (int s), .r false (int r)]), (6, .var 57 [.r false (int m), .r false (row nil 3 (edges es))])]) (fun j => N.length - j) 0 (Nat.zero_le _) (by (refine Zi [(100, 25)] rfl ?_ ?_ <;> repeat' (first|refine wkS ?_ ?_|exact wkE|exact d_bool (by simp_all)|exact Zt rfl))) ?_
          intro j hj
          have hX : (edges (M.take j)).length = j := by rw [Zp, List.length_take]; omega
          by_cases hlt : j < N.length
          · have hix := ints_at hlt
            have hobj : edges (M.take (j + 1)) = edges (M.take j) ++ [edgeP (N[j], V + wE es v N[j], v)] := by rw [hM, Zdb hlt, Zag]
            generalize edges (M.take j) = X at *
            generalize N[j] = w at *
            have hwb := wE_bd hg v w
            have KW := f_specWeightOf m nil es v w (by simp only [maxLen]; omega)
            unfold wOf at KW
            rw [hg, if_pos rfl] at KW
            have hwV : IntKind.i64.wrap (V + wE es v w) = V + wE es v w := IntWalk.i64_in _ oM
            repeat' (first|refine wk ?_|((first|refine' w_q rfl rfl ?xa rfl ?_|refine' v_q rfl rfl ?xa rfl ?_|refine' Zn rfl rfl (Zb rfl) rfl ?xa rfl ?_|refine' Zo rfl rfl (Zb rfl) rfl ?xa rfl ?_);case xa => first|exact Zx tbOk rfl rfl rfl rfl oM hix|exact Zm KW rfl ⟨Zq (Za rfl) ⟨Zd, Zd, trivial⟩, Zf (Za rfl), Zf (Za rfl), trivial⟩)|((first|refine' w_e rfl ?xa ?xb ?xc ?xe ?_|refine' v_e rfl ?xa ?xb ?xc ?xe ?_);(case xa => first|exact Zl [.tmp 90] tlOk rfl rfl rfl rfl rfl rfl (Zy rfl) (by simp)|exact Zw tlOk rfl rfl rfl rfl rfl rfl (Z6 (Z0 (Zj rfl) rfl) (by simp [plain1])) hX.symm (by simp only [maxLen, List.length_cons, List.length_nil];omega) (by simp only [List.length_cons, List.length_nil];omega));(case xb|xc|xe=>rfl);try refine wkD ?_)|(refine wkB ?_ ?_<;>intro hg_<;>try exact wkX)|fail)
            all_goals first
              | (exfalso; omega)
              | exact ⟨j + 1, by omega, by (refine Zi [(100, 92)] rfl ?_ ?_ <;> repeat' (first|refine wkS ?_ ?_|exact wkE|exact Zt (by rw [IntWalk.i64_in _ oM] <;> omega)|exact Zba (by simp only [List.length_cons, List.length_nil];omega)|exact Zz rfl (by rw [hwV, hobj] <;> rfl))), by omega⟩
          · obtain rfl : j = N.length := by omega
            have hall : M.take N.length = M := List.take_of_length_le oM
            rw [hall]
            repeat' (first|refine wk ?_|(refine wkB ?_ ?_<;>intro hg_<;>try exact wkX)|fail)
            all_goals first
              | exact Z9 (Zk rfl (Zv rfl)) (Zk rfl (Z7 (Z5 (Zj rfl) (by rw [Zp, hMl])))) (Zk rfl (Zr rfl))
      · have e : wayCh s rd v value l = (value, false) := by unfold wayCh; rw [if_neg hr0]; dsimp only; rw [if_neg (fun h => hc h.2.2)]; simp [hr0]
        rw [e] at hV ⊢
        rw [if_neg (by simp)]
        clear e
        refine Z8 (l := [.tmp 12, .tmp 13, .tmp 14]) Try.func100 kRf rfl Try.ntmps100 rfl rfl ?_; simp only [argEnv, P0.d, Nat.reduceAdd, graphP, prgP, List.map_cons, List.map_nil]
        repeat' (first|refine wk ?_|((first|refine' w_q rfl rfl ?xa rfl ?_|refine' v_q rfl rfl ?xa rfl ?_|refine' Zn rfl rfl (Zb rfl) rfl ?xa rfl ?_|refine' Zo rfl rfl (Zb rfl) rfl ?xa rfl ?_);case xa => first|exact Zm KN rfl ⟨Zq (Za rfl) ⟨Zd, Zd, trivial⟩, Zf (Za rfl), trivial⟩|exact Zm KL rfl ⟨Zf (Za rfl), trivial⟩)|((first|refine' w_e rfl ?xa ?xb ?xc ?xe ?_|refine' v_e rfl ?xa ?xb ?xc ?xe ?_);(case xa => exact Zl [] tlOk rfl rfl rfl rfl rfl rfl (by simp [AllN]) (by simp));(case xb|xc|xe=>rfl);try refine wkD ?_)|(refine wkB ?_ ?_<;>intro hg_<;>try exact wkX)|fail)
        all_goals
          subst hV
          refine Zaa (fun _ : Nat => True) (fun _ => mkS 227 [(19, .one (.r true (int 0))), (18, .one (.r true (row false 1 (ints N)))), (16, .one (.r true (bool false))), (15, .one (.own 100 0 0 3)), (4, .one (.r false (int V))), (3, .one (.r false (int v)))] [(100, .sl 70 3 true [])]) (fun _ => 0) 0 trivial (by (refine Zi [(100, 25)] rfl ?_ ?_ <;> repeat' (first|refine wkS ?_ ?_|exact wkE|exact d_bool (by simp_all)|exact Zt rfl))) ?_
          rintro _ _
          repeat' (first|refine wk ?_|(refine wkB ?_ ?_<;>intro hg_<;>try exact wkX)|fail)
          all_goals first
            | (exfalso; omega)
            | exact Z9 (Zk rfl (Zv rfl)) (Zk rfl (Z7 (Z5 (Zj rfl) rfl))) (Zk rfl (Zr rfl))
end Go.Proofs.Ytmkijbfiilpccaa.Abs
set_option linter.unusedSimpArgs false
set_option linter.unusedVariables false
namespace Go.Proofs.Ytmkijbfiilpccaa.Abs
open Go.RowKit
open R (val row ref)
theorem minE (a b : Int) : min a b = if b < a then b else a:=by rw [Int.min_def]; split<;>split<;>omega
theorem f_step3a (m : Int) (nil nl : Bool) (es : List E3) (s r rd v value : Int) (l : List Int) (hg : gOk m es = true) (hl : l.length ≤ 2000) (h0 : 0 ≤ rd) (h1 : rd ≤ 100) (hv0 : -1 ≤ value) (hv1 : value ≤ 999999) (hl0 : ∀ z ∈ l,0 ≤ z ∧ z ≤ 999999) (hv : 0 ≤ v ∧ v ≤ 100) (hr : rd = 0) : Fn Try.prog 100 [graphP m nil es,prgP 3 s r,iP rd,iP v,iP value,.one (row nl 1 (ints l))] (.tup [iP (v),.one (row false 3 (edges (sendTo (nearL m es v) v v))),.one (bool false)]):=by
 subst hr
 have hl40:=Za1 hg
 have hll:=Zu l
 have KN:=Zbn m nil es v (by simp only [maxLen]; omega) hg
 have hN16:=Zbj m es v
 generalize nearL m es v = N at *
 have KS:=Zca false N v v oM
 refine Z8 (l:=[.tmp 12,.tmp 13,.tmp 14]) Try.func100 kRf rfl Try.ntmps100 rfl rfl ?_; simp only [argEnv,P0.d,Nat.reduceAdd,graphP,prgP,List.map_cons,List.map_nil]
 repeat' (first|refine wk ?_|((first|refine' w_q rfl rfl ?xa rfl ?_|refine' v_q rfl rfl ?xa rfl ?_|refine' Zn rfl rfl (Zb rfl) rfl ?xa rfl ?_|refine' Zo rfl rfl (Zb rfl) rfl ?xa rfl ?_);case xa=>first|exact Zm KN rfl ⟨Zq (Za rfl) ⟨Zd,Zd,trivial⟩,Zf (Za rfl),trivial⟩|exact Zm KS rfl ⟨Zf (Za rfl),Zf (Za rfl),Zf (Za rfl),trivial⟩)|((first|refine' w_e rfl ?xa ?xb ?xc ?xe ?_|refine' v_e rfl ?xa ?xb ?xc ?xe ?_);(case xa=>exact Zl [] tlOk rfl rfl rfl rfl rfl rfl (by simp [AllN]) (by simp));(case xb|xc|xe=>rfl);try refine wkD ?_)|(refine wkB ?_ ?_<;>intro hg_<;>try exact wkX)|fail)
 all_goals first
  | exact Z9 (Zk rfl (Zv rfl)) (Zk rfl (Z7 Zar)) (Zk rfl (Zr rfl))
  | exact Z9 (Zk rfl (Zv rfl)) (Zk rfl (Z7 (Z5 (Zj rfl) rfl))) (Zk rfl (Zr rfl))
  | exact Z9 (Zk rfl (Zv rfl)) (Zk rfl (Z7 Zar)) (Zk rfl (Zr (by simp_all)))
  | exact Z9 (Zk rfl (Zv rfl)) (Zk rfl (Z7 (Z5 (Zj rfl) rfl))) (Zk rfl (Zr (by simp_all)))
  | (exfalso; omega)
theorem f_step3b (m : Int) (nil nl : Bool) (es : List E3) (s r rd v value : Int) (l : List Int) (hg : gOk m es = true) (hl : l.length ≤ 2000) (h0 : 0 ≤ rd) (h1 : rd ≤ 100) (hv0 : -1 ≤ value) (hv1 : value ≤ 999999) (hl0 : ∀ z ∈ l,0 ≤ z ∧ z ≤ 999999) (hv : 0 ≤ v ∧ v ≤ 100) (hr : ¬ rd = 0) (hne : l ≠ []) (hc : leastI l < value) : Fn Try.prog 100 [graphP m nil es,prgP 3 s r,iP rd,iP v,iP value,.one (row nl 1 (ints l))] (.tup [iP (leastI l),.one (row false 3 (edges (sendTo (nearL m es v) (leastI l) v))),.one (bool false)]):=by
 have hl40:=Za1 hg
 have hll:=Zu l
 have KN:=Zbn m nil es v (by simp only [maxLen]; omega) hg
 have hN16:=Zbj m es v
 generalize nearL m es v = N at *
 have KL:=f_l10Least nl l oM hne
 generalize leastI l = V at *
 have KS:=Zca false N V v oM
 have hlp : 0 < ((ints l).length : Int):=by rw [hll]; have:=List.length_pos_iff.2 hne; omega
 refine Z8 (l:=[.tmp 12,.tmp 13,.tmp 14]) Try.func100 kRf rfl Try.ntmps100 rfl rfl ?_; simp only [argEnv,P0.d,Nat.reduceAdd,graphP,prgP,List.map_cons,List.map_nil]
 repeat' (first|refine wk ?_|((first|refine' w_q rfl rfl ?xa rfl ?_|refine' v_q rfl rfl ?xa rfl ?_|refine' Zn rfl rfl (Zb rfl) rfl ?xa rfl ?_|refine' Zo rfl rfl (Zb rfl) rfl ?xa rfl ?_);case xa=>first|exact Zm KN rfl ⟨Zq (Za rfl) ⟨Zd,Zd,trivial⟩,Zf (Za rfl),trivial⟩|exact Zm KS rfl ⟨Zf (Za rfl),Zf (Za rfl),Zf (Za rfl),trivial⟩|exact Zm KL rfl ⟨Zf (Za rfl),trivial⟩)|((first|refine' w_e rfl ?xa ?xb ?xc ?xe ?_|refine' v_e rfl ?xa ?xb ?xc ?xe ?_);(case xa=>exact Zl [] tlOk rfl rfl rfl rfl rfl rfl (by simp [AllN]) (by simp));(case xb|xc|xe=>rfl);try refine wkD ?_)|(refine wkB ?_ ?_<;>intro hg_<;>try exact wkX)|fail)
 all_goals first
  | exact Z9 (Zk rfl (Zv rfl)) (Zk rfl (Z7 Zar)) (Zk rfl (Zr rfl))
  | exact Z9 (Zk rfl (Zv rfl)) (Zk rfl (Z7 (Z5 (Zj rfl) rfl))) (Zk rfl (Zr rfl))
  | exact Z9 (Zk rfl (Zv rfl)) (Zk rfl (Z7 Zar)) (Zk rfl (Zr (by simp_all)))
  | exact Z9 (Zk rfl (Zv rfl)) (Zk rfl (Z7 (Z5 (Zj rfl) rfl))) (Zk rfl (Zr (by simp_all)))
  | (exfalso; omega)
theorem f_step3c (m : Int) (nil nl : Bool) (es : List E3) (s r rd v value : Int) (l : List Int) (hg : gOk m es = true) (hl : l.length ≤ 2000) (h0 : 0 ≤ rd) (h1 : rd ≤ 100) (hv0 : -1 ≤ value) (hv1 : value ≤ 999999) (hl0 : ∀ z ∈ l,0 ≤ z ∧ z ≤ 999999) (hv : 0 ≤ v ∧ v ≤ 100) (hr : ¬ rd = 0) (hne : l = []) : Fn Try.prog 100 [graphP m nil es,prgP 3 s r,iP rd,iP v,iP value,.one (row nl 1 (ints l))] (.tup [iP (value),.one (row false 3 (edges ([]))),.one (bool false)]):=by
 have hl40:=Za1 hg
 have hll:=Zu l
 have KN:=Zbn m nil es v (by simp only [maxLen]; omega) hg
 have hN16:=Zbj m es v
 generalize nearL m es v = N at *
 have hlp : ((ints l).length : Int) = 0:=by rw [hne]; rfl
 refine Z8 (l:=[.tmp 12,.tmp 13,.tmp 14]) Try.func100 kRf rfl Try.ntmps100 rfl rfl ?_; simp only [argEnv,P0.d,Nat.reduceAdd,graphP,prgP,List.map_cons,List.map_nil]
 repeat' (first|refine wk ?_|((first|refine' w_q rfl rfl ?xa rfl ?_|refine' v_q rfl rfl ?xa rfl ?_|refine' Zn rfl rfl (Zb rfl) rfl ?xa rfl ?_|refine' Zo rfl rfl (Zb rfl) rfl ?xa rfl ?_);case xa=>exact Zm KN rfl ⟨Zq (Za rfl) ⟨Zd,Zd,trivial⟩,Zf (Za rfl),trivial⟩)|((first|refine' w_e rfl ?xa ?xb ?xc ?xe ?_|refine' v_e rfl ?xa ?xb ?xc ?xe ?_);(case xa=>exact Zl [] tlOk rfl rfl rfl rfl rfl rfl (by simp [AllN]) (by simp));(case xb|xc|xe=>rfl);try refine wkD ?_)|(refine wkB ?_ ?_<;>intro hg_<;>try exact wkX)|fail)
 all_goals first
  | exact Z9 (Zk rfl (Zv rfl)) (Zk rfl (Z7 Zar)) (Zk rfl (Zr rfl))
  | exact Z9 (Zk rfl (Zv rfl)) (Zk rfl (Z7 (Z5 (Zj rfl) rfl))) (Zk rfl (Zr rfl))
  | exact Z9 (Zk rfl (Zv rfl)) (Zk rfl (Z7 Zar)) (Zk rfl (Zr (by simp_all)))
  | exact Z9 (Zk rfl (Zv rfl)) (Zk rfl (Z7 (Z5 (Zj rfl) rfl))) (Zk rfl (Zr (by simp_all)))
  | (exfalso; omega)
theorem f_step3d (m : Int) (nil nl : Bool) (es : List E3) (s r rd v value : Int) (l : List Int) (hg : gOk m es = true) (hl : l.length ≤ 2000) (h0 : 0 ≤ rd) (h1 : rd ≤ 100) (hv0 : -1 ≤ value) (hv1 : value ≤ 999999) (hl0 : ∀ z ∈ l,0 ≤ z ∧ z ≤ 999999) (hv : 0 ≤ v ∧ v ≤ 100) (hr : ¬ rd = 0) (hne : l ≠ []) (hc : ¬ leastI l < value) : Fn Try.prog 100 [graphP m nil es,prgP 3 s r,iP rd,iP v,iP value,.one (row nl 1 (ints l))] (.tup [iP (value),.one (row false 3 (edges ([]))),.one (bool false)]):=by
 have hl40:=Za1 hg
 have hll:=Zu l
 have KN:=Zbn m nil es v (by simp only [maxLen]; omega) hg
 have hN16:=Zbj m es v
 generalize nearL m es v = N at *
 have KL:=f_l10Least nl l oM hne
 generalize leastI l = V at *
 have hlp : 0 < ((ints l).length : Int):=by rw [hll]; have:=List.length_pos_iff.2 hne; omega
 refine Z8 (l:=[.tmp 12,.tmp 13,.tmp 14]) Try.func100 kRf rfl Try.ntmps100 rfl rfl ?_; simp only [argEnv,P0.d,Nat.reduceAdd,graphP,prgP,List.map_cons,List.map_nil]
 repeat' (first|refine wk ?_|((first|refine' w_q rfl rfl ?xa rfl ?_|refine' v_q rfl rfl ?xa rfl ?_|refine' Zn rfl rfl (Zb rfl) rfl ?xa rfl ?_|refine' Zo rfl rfl (Zb rfl) rfl ?xa rfl ?_);case xa=>first|exact Zm KN rfl ⟨Zq (Za rfl) ⟨Zd,Zd,trivial⟩,Zf (Za rfl),trivial⟩|exact Zm KL rfl ⟨Zf (Za rfl),trivial⟩)|((first|refine' w_e rfl ?xa ?xb ?xc ?xe ?_|refine' v_e rfl ?xa ?xb ?xc ?xe ?_);(case xa=>exact Zl [] tlOk rfl rfl rfl rfl rfl rfl (by simp [AllN]) (by simp));(case xb|xc|xe=>rfl);try refine wkD ?_)|(refine wkB ?_ ?_<;>intro hg_<;>try exact wkX)|fail)
 all_goals first
  | exact Z9 (Zk rfl (Zv rfl)) (Zk rfl (Z7 Zar)) (Zk rfl (Zr rfl))
  | exact Z9 (Zk rfl (Zv rfl)) (Zk rfl (Z7 (Z5 (Zj rfl) rfl))) (Zk rfl (Zr rfl))
  | exact Z9 (Zk rfl (Zv rfl)) (Zk rfl (Z7 Zar)) (Zk rfl (Zr (by simp_all)))
  | exact Z9 (Zk rfl (Zv rfl)) (Zk rfl (Z7 (Z5 (Zj rfl) rfl))) (Zk rfl (Zr (by simp_all)))
  | (exfalso; omega)
theorem f_step4aY (m : Int) (nil nl : Bool) (es : List E3) (s r rd v value : Int) (l : List Int) (hg : gOk m es = true) (hl : l.length ≤ 2000) (h0 : 0 ≤ rd) (h1 : rd ≤ 100) (hv0 : -1 ≤ value) (hv1 : value ≤ 999999) (hl0 : ∀ z ∈ l,0 ≤ z ∧ z ≤ 999999) (hv : 0 ≤ v ∧ v ≤ 100) (hr : rd = 0) (hq : rd < r) : Fn Try.prog 100 [graphP m nil es,prgP 4 s r,iP rd,iP v,iP value,.one (row nl 1 (ints l))] (.tup [iP (v),.one (row false 3 (edges (sendTo (nearL m es v) (v) v))),.one (bool true)]):=by
 have hl40:=Za1 hg
 have hll:=Zu l
 have KN:=Zbn m nil es v (by simp only [maxLen]; omega) hg
 have hN16:=Zbj m es v
 generalize nearL m es v = N at *
 have KS:=Zca false N (v) v oM
 refine Z8 (l:=[.tmp 12,.tmp 13,.tmp 14]) Try.func100 kRf rfl Try.ntmps100 rfl rfl ?_; simp only [argEnv,P0.d,Nat.reduceAdd,graphP,prgP,List.map_cons,List.map_nil]
 repeat' (first|refine wk ?_|((first|refine' w_q rfl rfl ?xa rfl ?_|refine' v_q rfl rfl ?xa rfl ?_|refine' Zn rfl rfl (Zb rfl) rfl ?xa rfl ?_|refine' Zo rfl rfl (Zb rfl) rfl ?xa rfl ?_);case xa=>first|exact Zm KN rfl ⟨Zq (Za rfl) ⟨Zd,Zd,trivial⟩,Zf (Za rfl),trivial⟩|exact Zm KS rfl ⟨Zf (Za rfl),Zf (Za rfl),Zf (Za rfl),trivial⟩)|((first|refine' w_e rfl ?xa ?xb ?xc ?xe ?_|refine' v_e rfl ?xa ?xb ?xc ?xe ?_);(case xa=>exact Zl [] tlOk rfl rfl rfl rfl rfl rfl (by simp [AllN]) (by simp));(case xb|xc|xe=>rfl);try refine wkD ?_)|(refine wkB ?_ ?_<;>intro hg_<;>try exact wkX)|fail)
 all_goals first
  | exact Z9 (Zk rfl (Zv rfl)) (Zk rfl (Z7 Zar)) (Zk rfl (Zr rfl))
  | exact Z9 (Zk rfl (Zv rfl)) (Zk rfl (Z7 (Z5 (Zj rfl) rfl))) (Zk rfl (Zr rfl))
  | exact Z9 (Zk rfl (Zv rfl)) (Zk rfl (Z7 Zar)) (Zk rfl (Zr (by simp_all)))
  | exact Z9 (Zk rfl (Zv rfl)) (Zk rfl (Z7 (Z5 (Zj rfl) rfl))) (Zk rfl (Zr (by simp_all)))
  | (exfalso; omega)
theorem f_step4aN (m : Int) (nil nl : Bool) (es : List E3) (s r rd v value : Int) (l : List Int) (hg : gOk m es = true) (hl : l.length ≤ 2000) (h0 : 0 ≤ rd) (h1 : rd ≤ 100) (hv0 : -1 ≤ value) (hv1 : value ≤ 999999) (hl0 : ∀ z ∈ l,0 ≤ z ∧ z ≤ 999999) (hv : 0 ≤ v ∧ v ≤ 100) (hr : rd = 0) (hq : ¬ rd < r) : Fn Try.prog 100 [graphP m nil es,prgP 4 s r,iP rd,iP v,iP value,.one (row nl 1 (ints l))] (.tup [iP (v),.one (row false 3 (edges ([]))),.one (bool false)]):=by
 have hl40:=Za1 hg
 have hll:=Zu l
 have KN:=Zbn m nil es v (by simp only [maxLen]; omega) hg
 have hN16:=Zbj m es v
 generalize nearL m es v = N at *
 refine Z8 (l:=[.tmp 12,.tmp 13,.tmp 14]) Try.func100 kRf rfl Try.ntmps100 rfl rfl ?_; simp only [argEnv,P0.d,Nat.reduceAdd,graphP,prgP,List.map_cons,List.map_nil]
 repeat' (first|refine wk ?_|((first|refine' w_q rfl rfl ?xa rfl ?_|refine' v_q rfl rfl ?xa rfl ?_|refine' Zn rfl rfl (Zb rfl) rfl ?xa rfl ?_|refine' Zo rfl rfl (Zb rfl) rfl ?xa rfl ?_);case xa=>exact Zm KN rfl ⟨Zq (Za rfl) ⟨Zd,Zd,trivial⟩,Zf (Za rfl),trivial⟩)|((first|refine' w_e rfl ?xa ?xb ?xc ?xe ?_|refine' v_e rfl ?xa ?xb ?xc ?xe ?_);(case xa=>exact Zl [] tlOk rfl rfl rfl rfl rfl rfl (by simp [AllN]) (by simp));(case xb|xc|xe=>rfl);try refine wkD ?_)|(refine wkB ?_ ?_<;>intro hg_<;>try exact wkX)|fail)
 all_goals first
  | exact Z9 (Zk rfl (Zv rfl)) (Zk rfl (Z7 Zar)) (Zk rfl (Zr rfl))
  | exact Z9 (Zk rfl (Zv rfl)) (Zk rfl (Z7 (Z5 (Zj rfl) rfl))) (Zk rfl (Zr rfl))
  | exact Z9 (Zk rfl (Zv rfl)) (Zk rfl (Z7 Zar)) (Zk rfl (Zr (by simp_all)))
  | exact Z9 (Zk rfl (Zv rfl)) (Zk rfl (Z7 (Z5 (Zj rfl) rfl))) (Zk rfl (Zr (by simp_all)))
  | (exfalso; omega)
theorem f_step4bY (m : Int) (nil nl : Bool) (es : List E3) (s r rd v value : Int) (l : List Int) (hg : gOk m es = true) (hl : l.length ≤ 2000) (h0 : 0 ≤ rd) (h1 : rd ≤ 100) (hv0 : -1 ≤ value) (hv1 : value ≤ 999999) (hl0 : ∀ z ∈ l,0 ≤ z ∧ z ≤ 999999) (hv : 0 ≤ v ∧ v ≤ 100) (hr : ¬ rd = 0) (hne : l ≠ []) (hq : rd < r) : Fn Try.prog 100 [graphP m nil es,prgP 4 s r,iP rd,iP v,iP value,.one (row nl 1 (ints l))] (.tup [iP (mostF l),.one (row false 3 (edges (sendTo (nearL m es v) (mostF l) v))),.one (bool true)]):=by
 have hl40:=Za1 hg
 have hll:=Zu l
 have KN:=Zbn m nil es v (by simp only [maxLen]; omega) hg
 have hN16:=Zbj m es v
 generalize nearL m es v = N at *
 have hlp : 0 < ((ints l).length : Int):=by rw [hll]; have:=List.length_pos_iff.2 hne; omega
 have KM:=f_mostFreq nl l oM
 have KS:=Zca false N (mostF l) v oM
 refine Z8 (l:=[.tmp 12,.tmp 13,.tmp 14]) Try.func100 kRf rfl Try.ntmps100 rfl rfl ?_; simp only [argEnv,P0.d,Nat.reduceAdd,graphP,prgP,List.map_cons,List.map_nil]
 repeat' (first|refine wk ?_|((first|refine' w_q rfl rfl ?xa rfl ?_|refine' v_q rfl rfl ?xa rfl ?_|refine' Zn rfl rfl (Zb rfl) rfl ?xa rfl ?_|refine' Zo rfl rfl (Zb rfl) rfl ?xa rfl ?_);case xa=>first|exact Zm KN rfl ⟨Zq (Za rfl) ⟨Zd,Zd,trivial⟩,Zf (Za rfl),trivial⟩|exact Zm KS rfl ⟨Zf (Za rfl),Zf (Za rfl),Zf (Za rfl),trivial⟩|exact Zm KM rfl ⟨Zf (Za rfl),trivial⟩)|((first|refine' w_e rfl ?xa ?xb ?xc ?xe ?_|refine' v_e rfl ?xa ?xb ?xc ?xe ?_);(case xa=>exact Zl [] tlOk rfl rfl rfl rfl rfl rfl (by simp [AllN]) (by simp));(case xb|xc|xe=>rfl);try refine wkD ?_)|(refine wkB ?_ ?_<;>intro hg_<;>try exact wkX)|fail)
 all_goals first
  | exact Z9 (Zk rfl (Zv rfl)) (Zk rfl (Z7 Zar)) (Zk rfl (Zr rfl))
  | exact Z9 (Zk rfl (Zv rfl)) (Zk rfl (Z7 (Z5 (Zj rfl) rfl))) (Zk rfl (Zr rfl))
  | exact Z9 (Zk rfl (Zv rfl)) (Zk rfl (Z7 Zar)) (Zk rfl (Zr (by simp_all)))
  | exact Z9 (Zk rfl (Zv rfl)) (Zk rfl (Z7 (Z5 (Zj rfl) rfl))) (Zk rfl (Zr (by simp_all)))
  | (exfalso; omega)
theorem f_step4bN (m : Int) (nil nl : Bool) (es : List E3) (s r rd v value : Int) (l : List Int) (hg : gOk m es = true) (hl : l.length ≤ 2000) (h0 : 0 ≤ rd) (h1 : rd ≤ 100) (hv0 : -1 ≤ value) (hv1 : value ≤ 999999) (hl0 : ∀ z ∈ l,0 ≤ z ∧ z ≤ 999999) (hv : 0 ≤ v ∧ v ≤ 100) (hr : ¬ rd = 0) (hne : l ≠ []) (hq : ¬ rd < r) : Fn Try.prog 100 [graphP m nil es,prgP 4 s r,iP rd,iP v,iP value,.one (row nl 1 (ints l))] (.tup [iP (mostF l),.one (row false 3 (edges ([]))),.one (bool false)]):=by
 have hl40:=Za1 hg
 have hll:=Zu l
 have KN:=Zbn m nil es v (by simp only [maxLen]; omega) hg
 have hN16:=Zbj m es v
 generalize nearL m es v = N at *
 have hlp : 0 < ((ints l).length : Int):=by rw [hll]; have:=List.length_pos_iff.2 hne; omega
 have KM:=f_mostFreq nl l oM
 refine Z8 (l:=[.tmp 12,.tmp 13,.tmp 14]) Try.func100 kRf rfl Try.ntmps100 rfl rfl ?_; simp only [argEnv,P0.d,Nat.reduceAdd,graphP,prgP,List.map_cons,List.map_nil]
 repeat' (first|refine wk ?_|((first|refine' w_q rfl rfl ?xa rfl ?_|refine' v_q rfl rfl ?xa rfl ?_|refine' Zn rfl rfl (Zb rfl) rfl ?xa rfl ?_|refine' Zo rfl rfl (Zb rfl) rfl ?xa rfl ?_);case xa=>first|exact Zm KN rfl ⟨Zq (Za rfl) ⟨Zd,Zd,trivial⟩,Zf (Za rfl),trivial⟩|exact Zm KM rfl ⟨Zf (Za rfl),trivial⟩)|((first|refine' w_e rfl ?xa ?xb ?xc ?xe ?_|refine' v_e rfl ?xa ?xb ?xc ?xe ?_);(case xa=>exact Zl [] tlOk rfl rfl rfl rfl rfl rfl (by simp [AllN]) (by simp));(case xb|xc|xe=>rfl);try refine wkD ?_)|(refine wkB ?_ ?_<;>intro hg_<;>try exact wkX)|fail)
 all_goals first
  | exact Z9 (Zk rfl (Zv rfl)) (Zk rfl (Z7 Zar)) (Zk rfl (Zr rfl))
  | exact Z9 (Zk rfl (Zv rfl)) (Zk rfl (Z7 (Z5 (Zj rfl) rfl))) (Zk rfl (Zr rfl))
  | exact Z9 (Zk rfl (Zv rfl)) (Zk rfl (Z7 Zar)) (Zk rfl (Zr (by simp_all)))
  | exact Z9 (Zk rfl (Zv rfl)) (Zk rfl (Z7 (Z5 (Zj rfl) rfl))) (Zk rfl (Zr (by simp_all)))
  | (exfalso; omega)
theorem f_step4cY (m : Int) (nil nl : Bool) (es : List E3) (s r rd v value : Int) (l : List Int) (hg : gOk m es = true) (hl : l.length ≤ 2000) (h0 : 0 ≤ rd) (h1 : rd ≤ 100) (hv0 : -1 ≤ value) (hv1 : value ≤ 999999) (hl0 : ∀ z ∈ l,0 ≤ z ∧ z ≤ 999999) (hv : 0 ≤ v ∧ v ≤ 100) (hr : ¬ rd = 0) (hne : l = []) (hq : rd < r) : Fn Try.prog 100 [graphP m nil es,prgP 4 s r,iP rd,iP v,iP value,.one (row nl 1 (ints l))] (.tup [iP (value),.one (row false 3 (edges (sendTo (nearL m es v) (value) v))),.one (bool true)]):=by
 have hl40:=Za1 hg
 have hll:=Zu l
 have KN:=Zbn m nil es v (by simp only [maxLen]; omega) hg
 have hN16:=Zbj m es v
 generalize nearL m es v = N at *
 have hlp : ((ints l).length : Int) = 0:=by rw [hne]; rfl
 have KS:=Zca false N (value) v oM
 refine Z8 (l:=[.tmp 12,.tmp 13,.tmp 14]) Try.func100 kRf rfl Try.ntmps100 rfl rfl ?_; simp only [argEnv,P0.d,Nat.reduceAdd,graphP,prgP,List.map_cons,List.map_nil]
 repeat' (first|refine wk ?_|((first|refine' w_q rfl rfl ?xa rfl ?_|refine' v_q rfl rfl ?xa rfl ?_|refine' Zn rfl rfl (Zb rfl) rfl ?xa rfl ?_|refine' Zo rfl rfl (Zb rfl) rfl ?xa rfl ?_);case xa=>first|exact Zm KN rfl ⟨Zq (Za rfl) ⟨Zd,Zd,trivial⟩,Zf (Za rfl),trivial⟩|exact Zm KS rfl ⟨Zf (Za rfl),Zf (Za rfl),Zf (Za rfl),trivial⟩)|((first|refine' w_e rfl ?xa ?xb ?xc ?xe ?_|refine' v_e rfl ?xa ?xb ?xc ?xe ?_);(case xa=>exact Zl [] tlOk rfl rfl rfl rfl rfl rfl (by simp [AllN]) (by simp));(case xb|xc|xe=>rfl);try refine wkD ?_)|(refine wkB ?_ ?_<;>intro hg_<;>try exact wkX)|fail)
 all_goals first
  | exact Z9 (Zk rfl (Zv rfl)) (Zk rfl (Z7 Zar)) (Zk rfl (Zr rfl))
  | exact Z9 (Zk rfl (Zv rfl)) (Zk rfl (Z7 (Z5 (Zj rfl) rfl))) (Zk rfl (Zr rfl))
  | exact Z9 (Zk rfl (Zv rfl)) (Zk rfl (Z7 Zar)) (Zk rfl (Zr (by simp_all)))
  | exact Z9 (Zk rfl (Zv rfl)) (Zk rfl (Z7 (Z5 (Zj rfl) rfl))) (Zk rfl (Zr (by simp_all)))
  | (exfalso; omega)
theorem f_step4cN (m : Int) (nil nl : Bool) (es : List E3) (s r rd v value : Int) (l : List Int) (hg : gOk m es = true) (hl : l.length ≤ 2000) (h0 : 0 ≤ rd) (h1 : rd ≤ 100) (hv0 : -1 ≤ value) (hv1 : value ≤ 999999) (hl0 : ∀ z ∈ l,0 ≤ z ∧ z ≤ 999999) (hv : 0 ≤ v ∧ v ≤ 100) (hr : ¬ rd = 0) (hne : l = []) (hq : ¬ rd < r) : Fn Try.prog 100 [graphP m nil es,prgP 4 s r,iP rd,iP v,iP value,.one (row nl 1 (ints l))] (.tup [iP (value),.one (row false 3 (edges ([]))),.one (bool false)]):=by
 have hl40:=Za1 hg
 have hll:=Zu l
 have KN:=Zbn m nil es v (by simp only [maxLen]; omega) hg
 have hN16:=Zbj m es v
 generalize nearL m es v = N at *
 have hlp : ((ints l).length : Int) = 0:=by rw [hne]; rfl
 refine Z8 (l:=[.tmp 12,.tmp 13,.tmp 14]) Try.func100 kRf rfl Try.ntmps100 rfl rfl ?_; simp only [argEnv,P0.d,Nat.reduceAdd,graphP,prgP,List.map_cons,List.map_nil]
 repeat' (first|refine wk ?_|((first|refine' w_q rfl rfl ?xa rfl ?_|refine' v_q rfl rfl ?xa rfl ?_|refine' Zn rfl rfl (Zb rfl) rfl ?xa rfl ?_|refine' Zo rfl rfl (Zb rfl) rfl ?xa rfl ?_);case xa=>exact Zm KN rfl ⟨Zq (Za rfl) ⟨Zd,Zd,trivial⟩,Zf (Za rfl),trivial⟩)|((first|refine' w_e rfl ?xa ?xb ?xc ?xe ?_|refine' v_e rfl ?xa ?xb ?xc ?xe ?_);(case xa=>exact Zl [] tlOk rfl rfl rfl rfl rfl rfl (by simp [AllN]) (by simp));(case xb|xc|xe=>rfl);try refine wkD ?_)|(refine wkB ?_ ?_<;>intro hg_<;>try exact wkX)|fail)
 all_goals first
  | exact Z9 (Zk rfl (Zv rfl)) (Zk rfl (Z7 Zar)) (Zk rfl (Zr rfl))
  | exact Z9 (Zk rfl (Zv rfl)) (Zk rfl (Z7 (Z5 (Zj rfl) rfl))) (Zk rfl (Zr rfl))
  | exact Z9 (Zk rfl (Zv rfl)) (Zk rfl (Z7 Zar)) (Zk rfl (Zr (by simp_all)))
  | exact Z9 (Zk rfl (Zv rfl)) (Zk rfl (Z7 (Z5 (Zj rfl) rfl))) (Zk rfl (Zr (by simp_all)))
  | (exfalso; omega)
theorem f_step6aY (m : Int) (nil nl : Bool) (es : List E3) (s r rd v value : Int) (l : List Int) (hg : gOk m es = true) (hl : l.length ≤ 2000) (h0 : 0 ≤ rd) (h1 : rd ≤ 100) (hv0 : -1 ≤ value) (hv1 : value ≤ 999999) (hl0 : ∀ z ∈ l,0 ≤ z ∧ z ≤ 999999) (hv : 0 ≤ v ∧ v ≤ 100) (hr : rd = 0) (hq : rd < r) : Fn Try.prog 100 [graphP m nil es,prgP 6 s r,iP rd,iP v,iP value,.one (row nl 1 (ints l))] (.tup [iP (((nearL m es v).length : Int)),.one (row false 3 (edges (sendTo (nearL m es v) (((nearL m es v).length : Int)) v))),.one (bool true)]):=by
 have hl40:=Za1 hg
 have hll:=Zu l
 have KN:=Zbn m nil es v (by simp only [maxLen]; omega) hg
 have hN16:=Zbj m es v
 generalize nearL m es v = N at *
 have hNl:=Zu N
 rw [← hNl]
 have KS:=Zca false N ((ints N).length : Int) v oM
 refine Z8 (l:=[.tmp 12,.tmp 13,.tmp 14]) Try.func100 kRf rfl Try.ntmps100 rfl rfl ?_; simp only [argEnv,P0.d,Nat.reduceAdd,graphP,prgP,List.map_cons,List.map_nil]
 repeat' (first|refine wk ?_|((first|refine' w_q rfl rfl ?xa rfl ?_|refine' v_q rfl rfl ?xa rfl ?_|refine' Zn rfl rfl (Zb rfl) rfl ?xa rfl ?_|refine' Zo rfl rfl (Zb rfl) rfl ?xa rfl ?_);case xa=>first|exact Zm KN rfl ⟨Zq (Za rfl) ⟨Zd,Zd,trivial⟩,Zf (Za rfl),trivial⟩|exact Zm KS rfl ⟨Zf (Za rfl),Zf (Za rfl),Zf (Za rfl),trivial⟩)|((first|refine' w_e rfl ?xa ?xb ?xc ?xe ?_|refine' v_e rfl ?xa ?xb ?xc ?xe ?_);(case xa=>exact Zl [] tlOk rfl rfl rfl rfl rfl rfl (by simp [AllN]) (by simp));(case xb|xc|xe=>rfl);try refine wkD ?_)|(refine wkB ?_ ?_<;>intro hg_<;>try exact wkX)|fail)
 all_goals first
  | exact Z9 (Zk rfl (Zv rfl)) (Zk rfl (Z7 Zar)) (Zk rfl (Zr rfl))
  | exact Z9 (Zk rfl (Zv rfl)) (Zk rfl (Z7 (Z5 (Zj rfl) rfl))) (Zk rfl (Zr rfl))
  | exact Z9 (Zk rfl (Zv rfl)) (Zk rfl (Z7 Zar)) (Zk rfl (Zr (by simp_all)))
  | exact Z9 (Zk rfl (Zv rfl)) (Zk rfl (Z7 (Z5 (Zj rfl) rfl))) (Zk rfl (Zr (by simp_all)))
  | (exfalso; omega)
theorem f_step6aN (m : Int) (nil nl : Bool) (es : List E3) (s r rd v value : Int) (l : List Int) (hg : gOk m es = true) (hl : l.length ≤ 2000) (h0 : 0 ≤ rd) (h1 : rd ≤ 100) (hv0 : -1 ≤ value) (hv1 : value ≤ 999999) (hl0 : ∀ z ∈ l,0 ≤ z ∧ z ≤ 999999) (hv : 0 ≤ v ∧ v ≤ 100) (hr : rd = 0) (hq : ¬ rd < r) : Fn Try.prog 100 [graphP m nil es,prgP 6 s r,iP rd,iP v,iP value,.one (row nl 1 (ints l))] (.tup [iP (((nearL m es v).length : Int)),.one (row false 3 (edges ([]))),.one (bool false)]):=by
 have hl40:=Za1 hg
 have hll:=Zu l
 have KN:=Zbn m nil es v (by simp only [maxLen]; omega) hg
 have hN16:=Zbj m es v
 generalize nearL m es v = N at *
 have hNl:=Zu N
 rw [← hNl]
 refine Z8 (l:=[.tmp 12,.tmp 13,.tmp 14]) Try.func100 kRf rfl Try.ntmps100 rfl rfl ?_; simp only [argEnv,P0.d,Nat.reduceAdd,graphP,prgP,List.map_cons,List.map_nil]
 repeat' (first|refine wk ?_|((first|refine' w_q rfl rfl ?xa rfl ?_|refine' v_q rfl rfl ?xa rfl ?_|refine' Zn rfl rfl (Zb rfl) rfl ?xa rfl ?_|refine' Zo rfl rfl (Zb rfl) rfl ?xa rfl ?_);case xa=>exact Zm KN rfl ⟨Zq (Za rfl) ⟨Zd,Zd,trivial⟩,Zf (Za rfl),trivial⟩)|((first|refine' w_e rfl ?xa ?xb ?xc ?xe ?_|refine' v_e rfl ?xa ?xb ?xc ?xe ?_);(case xa=>exact Zl [] tlOk rfl rfl rfl rfl rfl rfl (by simp [AllN]) (by simp));(case xb|xc|xe=>rfl);try refine wkD ?_)|(refine wkB ?_ ?_<;>intro hg_<;>try exact wkX)|fail)
 all_goals first
  | exact Z9 (Zk rfl (Zv rfl)) (Zk rfl (Z7 Zar)) (Zk rfl (Zr rfl))
  | exact Z9 (Zk rfl (Zv rfl)) (Zk rfl (Z7 (Z5 (Zj rfl) rfl))) (Zk rfl (Zr rfl))
  | exact Z9 (Zk rfl (Zv rfl)) (Zk rfl (Z7 Zar)) (Zk rfl (Zr (by simp_all)))
  | exact Z9 (Zk rfl (Zv rfl)) (Zk rfl (Z7 (Z5 (Zj rfl) rfl))) (Zk rfl (Zr (by simp_all)))
  | (exfalso; omega)
theorem f_step6bY (m : Int) (nil nl : Bool) (es : List E3) (s r rd v value : Int) (l : List Int) (hg : gOk m es = true) (hl : l.length ≤ 2000) (h0 : 0 ≤ rd) (h1 : rd ≤ 100) (hv0 : -1 ≤ value) (hv1 : value ≤ 999999) (hl0 : ∀ z ∈ l,0 ≤ z ∧ z ≤ 999999) (hv : 0 ≤ v ∧ v ≤ 100) (hr : ¬ rd = 0) (hq : rd < r) : Fn Try.prog 100 [graphP m nil es,prgP 6 s r,iP rd,iP v,iP value,.one (row nl 1 (ints l))] (.tup [iP (if (hIdx l : Int) < value then (hIdx l : Int) else value),.one (row false 3 (edges (sendTo (nearL m es v) (if (hIdx l : Int) < value then (hIdx l : Int) else value) v))),.one (bool true)]):=by
 have hl40:=Za1 hg
 have hll:=Zu l
 have KN:=Zbn m nil es v (by simp only [maxLen]; omega) hg
 have hN16:=Zbj m es v
 generalize nearL m es v = N at *
 have KM:=f_manyAt nl l oM
 have KS:=Zca false N (if (hIdx l : Int) < value then (hIdx l : Int) else value) v oM
 refine Z8 (l:=[.tmp 12,.tmp 13,.tmp 14]) Try.func100 kRf rfl Try.ntmps100 rfl rfl ?_; simp only [argEnv,P0.d,Nat.reduceAdd,graphP,prgP,List.map_cons,List.map_nil]
 repeat' (first|refine wk ?_|((first|refine' w_q rfl rfl ?xa rfl ?_|refine' v_q rfl rfl ?xa rfl ?_|refine' Zn rfl rfl (Zb rfl) rfl ?xa rfl ?_|refine' Zo rfl rfl (Zb rfl) rfl ?xa rfl ?_);case xa=>first|exact Zm KN rfl ⟨Zq (Za rfl) ⟨Zd,Zd,trivial⟩,Zf (Za rfl),trivial⟩|exact Zm KS rfl ⟨Zf (Za rfl),Zf (Za rfl),Zf (Za rfl),trivial⟩|exact Zm KM rfl ⟨Zf (Za rfl),trivial⟩)|((first|refine' w_e rfl ?xa ?xb ?xc ?xe ?_|refine' v_e rfl ?xa ?xb ?xc ?xe ?_);(case xa=>exact Zl [] tlOk rfl rfl rfl rfl rfl rfl (by simp [AllN]) (by simp));(case xb|xc|xe=>rfl);try refine wkD ?_)|(refine wkB ?_ ?_<;>intro hg_<;>try exact wkX)|fail)
 all_goals first
  | exact Z9 (Zk rfl (Zv rfl)) (Zk rfl (Z7 Zar)) (Zk rfl (Zr rfl))
  | exact Z9 (Zk rfl (Zv rfl)) (Zk rfl (Z7 (Z5 (Zj rfl) rfl))) (Zk rfl (Zr rfl))
  | exact Z9 (Zk rfl (Zv rfl)) (Zk rfl (Z7 Zar)) (Zk rfl (Zr (by simp_all)))
  | exact Z9 (Zk rfl (Zv rfl)) (Zk rfl (Z7 (Z5 (Zj rfl) rfl))) (Zk rfl (Zr (by simp_all)))
  | (exfalso; omega)
theorem f_step6bN (m : Int) (nil nl : Bool) (es : List E3) (s r rd v value : Int) (l : List Int) (hg : gOk m es = true) (hl : l.length ≤ 2000) (h0 : 0 ≤ rd) (h1 : rd ≤ 100) (hv0 : -1 ≤ value) (hv1 : value ≤ 999999) (hl0 : ∀ z ∈ l,0 ≤ z ∧ z ≤ 999999) (hv : 0 ≤ v ∧ v ≤ 100) (hr : ¬ rd = 0) (hq : ¬ rd < r) : Fn Try.prog 100 [graphP m nil es,prgP 6 s r,iP rd,iP v,iP value,.one (row nl 1 (ints l))] (.tup [iP (if (hIdx l : Int) < value then (hIdx l : Int) else value),.one (row false 3 (edges ([]))),.one (bool false)]):=by
 have hl40:=Za1 hg
 have hll:=Zu l
 have KN:=Zbn m nil es v (by simp only [maxLen]; omega) hg
 have hN16:=Zbj m es v
 generalize nearL m es v = N at *
 have KM:=f_manyAt nl l oM
 refine Z8 (l:=[.tmp 12,.tmp 13,.tmp 14]) Try.func100 kRf rfl Try.ntmps100 rfl rfl ?_; simp only [argEnv,P0.d,Nat.reduceAdd,graphP,prgP,List.map_cons,List.map_nil]
 repeat' (first|refine wk ?_|((first|refine' w_q rfl rfl ?xa rfl ?_|refine' v_q rfl rfl ?xa rfl ?_|refine' Zn rfl rfl (Zb rfl) rfl ?xa rfl ?_|refine' Zo rfl rfl (Zb rfl) rfl ?xa rfl ?_);case xa=>first|exact Zm KN rfl ⟨Zq (Za rfl) ⟨Zd,Zd,trivial⟩,Zf (Za rfl),trivial⟩|exact Zm KM rfl ⟨Zf (Za rfl),trivial⟩)|((first|refine' w_e rfl ?xa ?xb ?xc ?xe ?_|refine' v_e rfl ?xa ?xb ?xc ?xe ?_);(case xa=>exact Zl [] tlOk rfl rfl rfl rfl rfl rfl (by simp [AllN]) (by simp));(case xb|xc|xe=>rfl);try refine wkD ?_)|(refine wkB ?_ ?_<;>intro hg_<;>try exact wkX)|fail)
 all_goals first
  | exact Z9 (Zk rfl (Zv rfl)) (Zk rfl (Z7 Zar)) (Zk rfl (Zr rfl))
  | exact Z9 (Zk rfl (Zv rfl)) (Zk rfl (Z7 (Z5 (Zj rfl) rfl))) (Zk rfl (Zr rfl))
  | exact Z9 (Zk rfl (Zv rfl)) (Zk rfl (Z7 Zar)) (Zk rfl (Zr (by simp_all)))
  | exact Z9 (Zk rfl (Zv rfl)) (Zk rfl (Z7 (Z5 (Zj rfl) rfl))) (Zk rfl (Zr (by simp_all)))
  | (exfalso; omega)
theorem f_step5a (m : Int) (nil nl : Bool) (es : List E3) (s r rd v value : Int) (l : List Int) (hg : gOk m es = true) (hl : l.length ≤ 2000) (h0 : 0 ≤ rd) (h1 : rd ≤ 100) (hv0 : -1 ≤ value) (hv1 : value ≤ 999999) (hl0 : ∀ z ∈ l,0 ≤ z ∧ z ≤ 999999) (hv : 0 ≤ v ∧ v ≤ 100) (hr : rd = 0) : Fn Try.prog 100 [graphP m nil es,prgP 5 s r,iP rd,iP v,iP value,.one (row nl 1 (ints l))] (.tup [iP (0),.one (row false 3 (edges (sendTo (grL m es v) v v))),.one (bool false)]):=by
 have hl40:=Za1 hg
 have hll:=Zu l
 have KN:=f_l10Greater m nil es v hg
 have hN16:=grL_len m es v
 generalize grL m es v = N at *
 have KS:=Zca false N v v oM
 refine Z8 (l:=[.tmp 12,.tmp 13,.tmp 14]) Try.func100 kRf rfl Try.ntmps100 rfl rfl ?_; simp only [argEnv,P0.d,Nat.reduceAdd,graphP,prgP,List.map_cons,List.map_nil]
 repeat' (first|refine wk ?_|((first|refine' w_q rfl rfl ?xa rfl ?_|refine' v_q rfl rfl ?xa rfl ?_|refine' Zn rfl rfl (Zb rfl) rfl ?xa rfl ?_|refine' Zo rfl rfl (Zb rfl) rfl ?xa rfl ?_);case xa=>first|exact Zm KN rfl ⟨Zq (Za rfl) ⟨Zd,Zd,trivial⟩,Zf (Za rfl),trivial⟩|exact Zm KS rfl ⟨Zf (Za rfl),Zf (Za rfl),Zf (Za rfl),trivial⟩)|((first|refine' w_e rfl ?xa ?xb ?xc ?xe ?_|refine' v_e rfl ?xa ?xb ?xc ?xe ?_);(case xa=>exact Zl [] tlOk rfl rfl rfl rfl rfl rfl (by simp [AllN]) (by simp));(case xb|xc|xe=>rfl);try refine wkD ?_)|(refine wkB ?_ ?_<;>intro hg_<;>try exact wkX)|fail)
 all_goals first
  | exact Z9 (Zk rfl (Zv rfl)) (Zk rfl (Z7 Zar)) (Zk rfl (Zr rfl))
  | exact Z9 (Zk rfl (Zv rfl)) (Zk rfl (Z7 (Z5 (Zj rfl) rfl))) (Zk rfl (Zr rfl))
  | exact Z9 (Zk rfl (Zv rfl)) (Zk rfl (Z7 Zar)) (Zk rfl (Zr (by simp_all)))
  | exact Z9 (Zk rfl (Zv rfl)) (Zk rfl (Z7 (Z5 (Zj rfl) rfl))) (Zk rfl (Zr (by simp_all)))
  | (exfalso; omega)
theorem f_step5b (m : Int) (nil nl : Bool) (es : List E3) (s r rd v value : Int) (l : List Int) (hg : gOk m es = true) (hl : l.length ≤ 2000) (h0 : 0 ≤ rd) (h1 : rd ≤ 100) (hv0 : -1 ≤ value) (hv1 : value ≤ 999999) (hl0 : ∀ z ∈ l, 0 ≤ z ∧ z ≤ 999999) (hv : 0 ≤ v ∧ v ≤ 100) (hr : rd = 1) : Fn Try.prog 100 [graphP m nil es, prgP 5 s r, iP rd, iP v, iP value, .one (row nl 1 (ints l))] (.tup [iP (0), .one (row false 3 (edges (l.flatMap fun x => sendTo (grL m es v) x v))), .one (bool false)]) := by
  have hl40 := Za1 hg
  have hll := Zu l
  have KN := f_l10Greater m nil es v hg
  have hN16 := grL_len m es v
  generalize grL m es v = N at *
  have hsn : ∀ j (h : j < l.length), (l.take (j + 1)).flatMap (fun x => sendTo N x v) = (l.take j).flatMap (fun x => sendTo N x v) ++ sendTo N l[j] v := fun j h => by
    rw [List.take_succ_eq_append_getElem h, List.flatMap_append]; simp
  have hfl : ∀ j, ((l.take j).flatMap (fun x => sendTo N x v)).length ≤ 2000 * 16 := fun j => by
    rw [flatS_len, List.length_take]
    exact Nat.mul_le_mul oM hN16
  obtain ⟨F, hF⟩ : ∃ F : Nat → List E3, ∀ j, F j = (l.take j).flatMap (fun x => sendTo N x v) := ⟨_, fun _ => rfl⟩
  have hall : l.flatMap (fun x => sendTo N x v) = F l.length := by rw [hF, List.take_length]
  have hF0 : F 0 = [] := by rw [hF]; rfl
  have hFs : ∀ j (h : j < l.length), F (j + 1) = F j ++ sendTo N l[j] v := fun j h => by rw [hF, hF, hsn j h]
  have hFl : ∀ j, (F j).length ≤ 32000 := fun j => by rw [hF]; exact hfl j
  rw [hall]
  clear hF hsn hfl hall
  refine Z8 (l := [.tmp 12, .tmp 13, .tmp 14]) Try.func100 kRf rfl Try.ntmps100 rfl rfl ?_; simp only [argEnv, P0.d, Nat.reduceAdd, graphP, prgP, List.map_cons, List.map_nil]
  repeat' (first|refine wk ?_|((first|refine' w_e rfl ?xa ?xb ?xc ?xe ?_|refine' v_e rfl ?xa ?xb ?xc ?xe ?_);(case xa => exact Zl [] tlOk rfl rfl rfl rfl rfl rfl (by simp [AllN]) (by simp));(case xb|xc|xe=>rfl);try refine wkD ?_)|(refine wkB ?_ ?_<;>intro hg_<;>try exact wkX)|fail)
  refine Zaa (fun j : Nat => j ≤ l.length) (fun j => mkS 227 [(21, .one (.r true (int j))), (15, .one (.own 100 0 (edges (F j)).length 3)), (6, .one (.ptr 6 0 0 0)), (5, .one (.r false (row nl 1 (ints l)))), (3, .one (.r false (int v)))] [(100, .sl 70 3 true (edges (F j))), (6, .var 57 [.r false (int m), .r false (row nil 3 (edges es))])]) (fun j => l.length - j) 0 (Nat.zero_le _) (by rw [hF0];(refine Zi [(100, 25)] rfl ?_ ?_ <;>exact wkW)) ?_
  intro j hj
  by_cases hlt : j < l.length
  · have hix := ints_at hlt
    have hs := hFs j hlt
    have hX := hFl j
    have hXl := Zp (F j)
    have hsl := Zbu N l[j] v
    have KS := Zca false N l[j] v oM
    have hobj : edges (F (j + 1)) = edges (F j) ++ edges (sendTo N l[j] v) := by rw [hs]; unfold edges; rw [List.map_append]
    generalize l[j] = x at *
    have hel := Zp (sendTo N x v)
    generalize F j = X at *
    generalize sendTo N x v = Y at *
    clear hs hFs hFl hF0
    repeat' (first|refine wk ?_|((first|refine' w_q rfl rfl ?xa rfl ?_|refine' v_q rfl rfl ?xa rfl ?_|refine' Zn rfl rfl (Zb rfl) rfl ?xa rfl ?_|refine' Zo rfl rfl (Zb rfl) rfl ?xa rfl ?_);case xa => first|exact Zm KN rfl ⟨Zq (Za rfl) ⟨Zd, Zd, trivial⟩, Zf (Za rfl), trivial⟩|exact Zm KS rfl ⟨Zf (Za rfl), Zf (Za rfl), Zf (Za rfl), trivial⟩|exact Zx tbOk rfl rfl rfl rfl oM hix)|((first|refine' w_e rfl ?xa ?xb ?xc ?xe ?_|refine' v_e rfl ?xa ?xb ?xc ?xe ?_);(case xa => exact Zw tlOk rfl rfl rfl rfl rfl rfl (Z6 Za2 (Zbg _)) rfl (by simp only [maxLen];omega) oM);(case xb|xc|xe=>rfl);try refine wkD ?_)|(refine wkB ?_ ?_<;>intro hg_<;>try exact wkX)|fail)
    all_goals first
      | (refine ⟨j + 1, by omega, ?_, by omega⟩
         simp only [hobj, List.length_append]
         (refine Zi [(100, 206)] rfl ?_ ?_ <;> repeat' (first|refine wkS ?_ ?_|exact wkE|exact Zt (by rw [IntWalk.i64_in _ oM] <;> omega)));done)
  · obtain rfl : j = l.length := by omega
    repeat' (first|refine wk ?_|(refine wkB ?_ ?_<;>intro hg_<;>try exact wkX)|fail)
    all_goals first
      | exact Z9 (Zk rfl (Zv rfl)) (Zk rfl (Z7 (Z5 (Zj rfl) rfl))) (Zk rfl (Zr rfl))
theorem f_step5c (m : Int) (nil nl : Bool) (es : List E3) (s r rd v value : Int) (l : List Int) (hg : gOk m es = true) (hl : l.length ≤ 2000) (h0 : 0 ≤ rd) (h1 : rd ≤ 100) (hv0 : -1 ≤ value) (hv1 : value ≤ 999999) (hl0 : ∀ z ∈ l,0 ≤ z ∧ z ≤ 999999) (hv : 0 ≤ v ∧ v ≤ 100) (hr : ¬ rd = 0) (hr1 : ¬ rd = 1) : Fn Try.prog 100 [graphP m nil es,prgP 5 s r,iP rd,iP v,iP value,.one (row nl 1 (ints l))] (.tup [iP (((l.countP (fun x=>(nearL m es v).any fun z=>decide (z = x)) : Nat) : Int)),.one (row false 3 (edges ([]))),.one (bool false)]):=by
 have hl40:=Za1 hg
 have hll:=Zu l
 have KN:=Zbn m nil es v (by simp only [maxLen]; omega) hg
 have hN16:=Zbj m es v
 generalize nearL m es v = N at *
 have KH:=fun x=>f_l7Has false N x oM
 obtain ⟨h,hh⟩ : ∃ h : Int → Bool,∀ x,h x = N.any fun z=>decide (z = x):=⟨_,fun _=>rfl⟩
 simp only [← hh] at KH ⊢
 clear hh
 have hsn : ∀ j (hj : j < l.length),(l.take (j + 1)).countP h = (l.take j).countP h + (if h l[j] then 1 else 0):=fun j hj=>by
  rw [List.take_succ_eq_append_getElem hj,List.countP_append]
  by_cases hb : h l[j] = true<;>simp [hb]
 have hcl : ∀ j,(l.take j).countP h ≤ 2000:=fun j=>Nat.le_trans List.countP_le_length (by rw [List.length_take]; omega)
 refine Z8 (l:=[.tmp 12,.tmp 13,.tmp 14]) Try.func100 kRf rfl Try.ntmps100 rfl rfl ?_; simp only [argEnv,P0.d,Nat.reduceAdd,graphP,prgP,List.map_cons,List.map_nil]
 repeat' (first|refine wk ?_|((first|refine' w_q rfl rfl ?xa rfl ?_|refine' v_q rfl rfl ?xa rfl ?_|refine' Zn rfl rfl (Zb rfl) rfl ?xa rfl ?_|refine' Zo rfl rfl (Zb rfl) rfl ?xa rfl ?_);case xa=>exact Zm KN rfl ⟨Zq (Za rfl) ⟨Zd,Zd,trivial⟩,Zf (Za rfl),trivial⟩)|((first|refine' w_e rfl ?xa ?xb ?xc ?xe ?_|refine' v_e rfl ?xa ?xb ?xc ?xe ?_);(case xa=>exact Zl [] tlOk rfl rfl rfl rfl rfl rfl (by simp [AllN]) (by simp));(case xb|xc|xe=>rfl);try refine wkD ?_)|(refine wkB ?_ ?_<;>intro hg_<;>try exact wkX)|fail)
 refine Zaa (fun j : Nat=>j ≤ l.length) (fun j=>mkS 227 [(24,.one (.r true (int j))),(23,.one (.r true (row false 1 (ints N)))),(22,.one (.r true (int ((l.take j).countP h : Nat)))),(15,.one (.own 100 0 0 3)),(5,.one (.r false (row nl 1 (ints l))))] [(100,.sl 70 3 true [])]) (fun j=>l.length - j) 0 (Nat.zero_le _) (by (refine Zi [(100,25)] rfl ?_ ?_ <;>exact wkW)) ?_
 intro j hj
 by_cases hlt : j < l.length
 ·have hix:=ints_at hlt
  have hs:=hsn j hlt
  have hX:=hcl j
  have K1:=KH l[j]
  generalize l[j] = x at *
  generalize h x = b at *
  generalize (l.take j).countP h = c at *
  have hw2 : IntKind.i64.wrap ((c : Int) + 1) = ((c + 1 : Nat) : Int):=by rw [IntWalk.i64_in _ oM]; omega
  have hw : IntKind.i64.wrap ((j : Int) + 1) = ((j + 1 : Nat) : Int):=by rw [IntWalk.i64_in _ oM]; omega
  clear hsn hcl KH
  cases b
  all_goals
   simp only [if_true,if_false,Bool.false_eq_true,Nat.add_zero] at hs
   repeat' (first|refine wk ?_|((first|refine' w_q rfl rfl ?xa rfl ?_|refine' v_q rfl rfl ?xa rfl ?_|refine' Zn rfl rfl (Zb rfl) rfl ?xa rfl ?_|refine' Zo rfl rfl (Zb rfl) rfl ?xa rfl ?_);case xa=>first|exact Zx tbOk rfl rfl rfl rfl oM hix|exact Zm K1 rfl ⟨Zf (Za rfl),Zf (Za rfl),trivial⟩)|(refine wkB ?_ ?_<;>intro hg_<;>try exact wkX)|fail)
   all_goals first
    | exact ⟨j + 1,by omega,by (refine Zi [] rfl ?_ ?_<;>repeat' (first|refine wkS ?_ ?_|exact wkE|exact Zt hw|exact Zt (by rw [hs,hw2])|exact Zt (by rw [hs]))),by omega⟩
 ·obtain rfl : j = l.length:=by omega
  rw [List.take_length]
  repeat' (first|refine wk ?_|(refine wkB ?_ ?_<;>intro hg_<;>try exact wkX)|fail)
  all_goals first
   | exact Z9 (Zk rfl (Zv rfl)) (Zk rfl (Z7 (Z5 (Zj rfl) rfl))) (Zk rfl (Zr rfl))
theorem f_l10Step (k : Int) (m : Int) (nil nl : Bool) (es : List E3) (s r rd v value : Int) (l : List Int) (hg : gOk m es = true) (hl : l.length ≤ 2000) (h0 : 0 ≤ rd) (h1 : rd ≤ 100) (hv0 : -1 ≤ value) (hv1 : value ≤ 999999) (hl0 : ∀ z ∈ l,0 ≤ z ∧ z ≤ 999999) (hv : 0 ≤ v ∧ v ≤ 100) (hk : progOk k s r = true) : Fn Try.prog 100 [graphP m nil es,prgP k s r,iP rd,iP v,iP value,.one (row nl 1 (ints l))] (.tup [iP (stepV m es k s r rd v value l).1,.one (row false 3 (edges (stepV m es k s r rd v value l).2.1)),.one (bool (stepV m es k s r rd v value l).2.2)]):=by
 have hk6 : k = 1 ∨ k = 2 ∨ k = 3 ∨ k = 4 ∨ k = 5 ∨ k = 6:=by
  unfold progOk at hk
  by_cases c1 : k = 1 ∨ k = 2
  ·omega
  ·rw [if_neg c1] at hk
   by_cases c2 : k = 3 ∨ k = 5
   ·omega
   ·rw [if_neg c2] at hk
    by_cases c3 : k = 4 ∨ k = 6
    ·omega
    ·rw [if_neg c3] at hk; cases hk
 clear hk
 rcases hk6 with rfl | rfl | rfl | rfl | rfl | rfl
 ·exact f_step1 m nil nl es s r rd v value l hg hl h0 h1 hv0 hv1 hl0 hv
 ·exact f_step2 m nil nl es s r rd v value l hg hl h0 h1 hv0 hv1 hl0 hv
 ·by_cases hr : rd = 0
  ·have e : stepV m es 3 s r rd v value l = (v,sendTo (nearL m es v) v v,false):=by unfold stepV; simp [hr]
   rw [e]; exact f_step3a m nil nl es s r rd v value l hg hl h0 h1 hv0 hv1 hl0 hv hr
  ·by_cases hne : l = []
   ·have e : stepV m es 3 s r rd v value l = (value,[],false):=by unfold stepV; simp [hr,hne]
    rw [e]; exact f_step3c m nil nl es s r rd v value l hg hl h0 h1 hv0 hv1 hl0 hv hr hne
   ·by_cases hc : leastI l < value
    ·have e : stepV m es 3 s r rd v value l = (leastI l,sendTo (nearL m es v) (leastI l) v,false):=by unfold stepV; simp [hr,hne,hc]
     rw [e]; exact f_step3b m nil nl es s r rd v value l hg hl h0 h1 hv0 hv1 hl0 hv hr hne hc
    ·have e : stepV m es 3 s r rd v value l = (value,[],false):=by unfold stepV; simp [hr,hne,hc]
     rw [e]; exact f_step3d m nil nl es s r rd v value l hg hl h0 h1 hv0 hv1 hl0 hv hr hne hc
 ·by_cases hq : rd < r
  all_goals by_cases hr : rd = 0
  ·have e : stepV m es 4 s r rd v value l = (v,sendTo (nearL m es v) (v) v,true):=by unfold stepV; rw [hr] at hq; simp [hr,hq]
   rw [e]; exact f_step4aY m nil nl es s r rd v value l hg hl h0 h1 hv0 hv1 hl0 hv hr hq
  ·by_cases hne : l = []
   ·have e : stepV m es 4 s r rd v value l = (value,sendTo (nearL m es v) (value) v,true):=by unfold stepV; simp [hr,hne,hq]
    rw [e]; exact f_step4cY m nil nl es s r rd v value l hg hl h0 h1 hv0 hv1 hl0 hv hr hne hq
   ·have e : stepV m es 4 s r rd v value l = (mostF l,sendTo (nearL m es v) (mostF l) v,true):=by unfold stepV; simp [hr,hne,hq]
    rw [e]; exact f_step4bY m nil nl es s r rd v value l hg hl h0 h1 hv0 hv1 hl0 hv hr hne hq
  ·have e : stepV m es 4 s r rd v value l = (v,[],false):=by unfold stepV; rw [hr] at hq; simp [hr,hq]
   rw [e]; exact f_step4aN m nil nl es s r rd v value l hg hl h0 h1 hv0 hv1 hl0 hv hr hq
  ·by_cases hne : l = []
   ·have e : stepV m es 4 s r rd v value l = (value,[],false):=by unfold stepV; simp [hr,hne,hq]
    rw [e]; exact f_step4cN m nil nl es s r rd v value l hg hl h0 h1 hv0 hv1 hl0 hv hr hne hq
   ·have e : stepV m es 4 s r rd v value l = (mostF l,[],false):=by unfold stepV; simp [hr,hne,hq]
    rw [e]; exact f_step4bN m nil nl es s r rd v value l hg hl h0 h1 hv0 hv1 hl0 hv hr hne hq
 ·by_cases hr : rd = 0
  ·have e : stepV m es 5 s r rd v value l = (0,sendTo (grL m es v) v v,false):=by unfold stepV; simp [hr]
   rw [e]; exact f_step5a m nil nl es s r rd v value l hg hl h0 h1 hv0 hv1 hl0 hv hr
  ·by_cases hr1 : rd = 1
   ·have e : stepV m es 5 s r rd v value l = (0,l.flatMap fun x=>sendTo (grL m es v) x v,false):=by unfold stepV; simp [hr,hr1]
    rw [e]; exact f_step5b m nil nl es s r rd v value l hg hl h0 h1 hv0 hv1 hl0 hv hr1
   ·have e : stepV m es 5 s r rd v value l = (((l.countP (fun x=>(nearL m es v).any fun z=>decide (z = x)) : Nat) : Int),[],false):=by unfold stepV; simp [hr,hr1]
    rw [e]; exact f_step5c m nil nl es s r rd v value l hg hl h0 h1 hv0 hv1 hl0 hv hr hr1
 ·by_cases hq : rd < r
  all_goals by_cases hr : rd = 0
  ·have e : stepV m es 6 s r rd v value l = (((nearL m es v).length : Int),sendTo (nearL m es v) (((nearL m es v).length : Int)) v,true):=by unfold stepV; rw [hr] at hq; simp [hr,hq]
   rw [e]; exact f_step6aY m nil nl es s r rd v value l hg hl h0 h1 hv0 hv1 hl0 hv hr hq
  ·have e : stepV m es 6 s r rd v value l = (min value (hIdx l : Int),sendTo (nearL m es v) (min value (hIdx l : Int)) v,true):=by unfold stepV; simp [hr,hq]
   rw [e,minE]; exact f_step6bY m nil nl es s r rd v value l hg hl h0 h1 hv0 hv1 hl0 hv hr hq
  ·have e : stepV m es 6 s r rd v value l = (((nearL m es v).length : Int),[],false):=by unfold stepV; rw [hr] at hq; simp [hr,hq]
   rw [e]; exact f_step6aN m nil nl es s r rd v value l hg hl h0 h1 hv0 hv1 hl0 hv hr hq
  ·have e : stepV m es 6 s r rd v value l = (min value (hIdx l : Int),[],false):=by unfold stepV; simp [hr,hq]
   rw [e,minE]; exact f_step6bN m nil nl es s r rd v value l hg hl h0 h1 hv0 hv1 hl0 hv hr hq
end Go.Proofs.Ytmkijbfiilpccaa.Abs
