/- The laws' own words on graphs and lists of numbers: copies, sizes, tests. No statement of the seat is proved here. -/
import Derived.Lib.Hide
import Derived.Test.YtmkijbfiilpccaaXlTy
import Derived.Test.YtmkijbfiilpccaaXlADat
import Derived.Test.YtmkijbfiilpccaaXlGValid
set_option linter.unusedSimpArgs false
set_option linter.unusedVariables false
set_option maxRecDepth 100000
set_option maxHeartbeats 2000000
namespace Go.Proofs.Ytmkijbfiilpccaa.Abs
open Go.RowKit
open R (val row ref)
abbrev edgeP (e : E3) : P0:=.agg [int e.1,int e.2.1,int e.2.2]
def edges (es : List E3) : List P0:=es.map edgeP
theorem Zv (es : List E3) : (edges es).length = es.length:=List.length_map ..
theorem edges_get {es : List E3} {k : Nat} (h : k < es.length) : (edges es)[k]? = some (edgeP es[k]):=by
 unfold edges; simp [h]
theorem edges_at {es : List E3} {k : Nat} (h : k < es.length) : (edges es)[(k : Int).toNat]? = some (edgeP es[k]):=by
 unfold edges; simp [h]
def fillP (f : List P0) (z : P0) (k : Nat) : List P0:=f.take k ++ List.replicate (f.length - k) z
theorem fillP_len {f : List P0} {z : P0} {k : Nat} (h : k ≤ f.length) : (fillP f z k).length = f.length:=by unfold fillP; simp; omega
theorem fillP_set {f : List P0} {z e : P0} {k : Nat} (h : f[k]? = some e) : (fillP f z k).set k e = fillP f z (k + 1):=by
 have hk : k < f.length:=by
  rcases Nat.lt_or_ge k f.length with h' | h'
  ·exact h'
  ·rw [List.getElem?_eq_none h'] at h; cases h
 have he : f[k] = e:=by rw [List.getElem?_eq_getElem hk] at h; injection h
 rw [← he]
 exact fill_step f z k hk
theorem fillP_all {f : List P0} {z : P0} {k : Nat} (h : f.length ≤ k) : fillP f z k = f:=fill_all f z k h
theorem f_toIntS (nil : Bool) (xs : List Int) (hl : xs.length ≤ 1048576) : Fn Try.prog 28 [.one (row nil 1 (ints xs))] (.v (.one (row false 1 (ints xs)))):=by
 have hlen:=Zp xs
 refine Zy (l:=[.tmp 2]) Try.func28 kRf rfl Try.ntmps28 rfl rfl ?_; simp only [argEnv,P0.d,Nat.reduceAdd,List.map_cons,List.map_nil]
 repeat' (first|refine wk ?_|((first|refine' w_e rfl ?xa ?xb ?xc ?xe ?_|refine' v_e rfl ?xa ?xb ?xc ?xe ?_);(case xa=>exact e_make tlOk rfl rfl rfl rfl rfl rfl (c:=xs.length) (by rw [hlen]) (by rw [hlen]) oM (by simp only [maxLen];omega));(case xb|xc|xe=>rfl);try refine wkD ?_)|(refine wkB ?_ ?_<;>intro hg_<;>try exact wkX)|fail)
 refine Z7 (fun k : Nat=>k ≤ xs.length) (fun k=>mkS 22 [(4,.one (.r true (int k))),(3,.one (.own 100 0 xs.length 1)),(0,.one (.r false (row nil 1 (ints xs))))] [(100,.sl 3 1 true (fillP (ints xs) (iP 0) k))]) (fun k=>xs.length - k) 0 (Nat.zero_le _) (by (refine Zg [(100,7)] rfl ?_ ?_<;>repeat' (first|refine wkS ?_ ?_|exact wkE|exact Zaf rfl (by simp [fillP,hlen])))) ?_
 intro k hk
 repeat' (first|refine wk ?_|((first|refine' w_q rfl rfl ?xa rfl ?_|refine' v_q rfl rfl ?xa rfl ?_|refine' Zh rfl rfl (Zb rfl) rfl ?xa rfl ?_|refine' Zi rfl rfl (Zb rfl) rfl ?xa rfl ?_);case xa=>first|exact Zn tbOk rfl rfl rfl rfl oM (ints_at oM)|exact k_indexO tbOk rfl rfl rfl rfl oM oM)|((first|refine' w_e rfl ?xa ?xb ?xc ?xe ?_|refine' v_e rfl ?xa ?xb ?xc ?xe ?_);(case xa=>exact e_storeS tbOk rfl rfl rfl rfl rfl rfl rfl rfl (by rw [fillP_len oM];omega));(case xb|xc|xe=>rfl);try refine wkD ?_)|(refine wkB ?_ ?_<;>intro hg_<;>try exact wkX)|fail)
 ·refine ⟨k + 1,by omega,by (refine Zg [] rfl ?_ ?_<;>repeat' (first|refine wkS ?_ ?_|exact wkE|exact Zaf rfl (by rw [Nat.zero_add,Int.toNat_natCast];exact fillP_set (ints_get oM)))),by omega⟩
 ·have e : fillP (ints xs) (iP 0) k = ints xs:=fillP_all oM
  rw [e]
  exact Zt rfl (Za7 (Zz (Zf rfl) hlen.symm))
theorem f_eqIntS (nil nil' : Bool) (xs : List Int) (hl : xs.length ≤ 1048576) : Fn Try.prog 30 [.one (row nil 1 (ints xs)),.one (row nil' 1 (ints xs))] (.v (.one (bool true))):=by
 have hlen:=Zp xs
 refine Zy (l:=[.tmp 4]) Try.func30 kRf rfl Try.ntmps30 rfl rfl ?_; simp only [argEnv,P0.d,Nat.reduceAdd,List.map_cons,List.map_nil]
 repeat' (first|refine wk ?_|(refine wkB ?_ ?_<;>intro hg_<;>try exact wkX)|fail)
 refine Z7 (fun k : Nat=>k ≤ xs.length) (fun k=>mkS 26 [(5,.one (.r true (int k))),(0,.one (.r false (row nil 1 (ints xs)))),(1,.one (.r false (row nil' 1 (ints xs))))] []) (fun k=>xs.length - k) 0 (Nat.zero_le _) (by (refine Zg [] rfl ?_ ?_ <;>exact wkW)) ?_
 intro k hk
 repeat' (first|refine wk ?_|((first|refine' w_q rfl rfl ?xa rfl ?_|refine' v_q rfl rfl ?xa rfl ?_|refine' Zh rfl rfl (Zb rfl) rfl ?xa rfl ?_|refine' Zi rfl rfl (Zb rfl) rfl ?xa rfl ?_);case xa=>exact Zn tbOk rfl rfl rfl rfl oM (ints_at oM))|(refine wkB ?_ ?_<;>intro hg_<;>try exact wkX)|fail)
 ·exact ⟨k + 1,by omega,by (refine Zg [] rfl ?_ ?_ <;>exact wkW),by omega⟩
 ·exact Zt rfl (Zo rfl)
end Go.Proofs.Ytmkijbfiilpccaa.Abs
