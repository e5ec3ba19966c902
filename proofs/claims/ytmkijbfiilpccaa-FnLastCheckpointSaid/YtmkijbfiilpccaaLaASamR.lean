/- Equal lists of records, by states: sameInts, sameRecords. No statement of the seat is proved here. -/
import Derived.Lib.Hide
import Derived.Test.YtmkijbfiilpccaaLaTy
import Derived.Test.YtmkijbfiilpccaaLaADrwI
import Derived.Test.YtmkijbfiilpccaaLaASpCD
set_option linter.unusedSimpArgs false
set_option linter.unusedVariables false
set_option maxRecDepth 100000
set_option maxHeartbeats 4000000
namespace Go.Proofs.Ytmkijbfiilpccaa.Abs
open Go.RowKit
open R (val row ref)
theorem f_sameIntsR (n1 n2 : Bool) (xs ys : List Int) (hl : xs.length ≤ 1048576) (hl2 : ys.length ≤ 1048576) : Fn Try.prog 44 [.one (row n1 1 (ints xs)),.one (row n2 1 (ints ys))] (.v (.one (bool (decide (xs = ys))))):=by
 have hlen:=Zu xs
 have hlen2:=Zu ys
 by_cases hn : xs.length = ys.length
 ·refine Z8 (l:=[.tmp 4]) Try.func44 kRf rfl Try.ntmps44 rfl rfl ?_; simp only [argEnv,P0.d,Nat.reduceAdd]
  repeat' (first|refine wk ?_|(refine wkB ?_ ?_<;>intro hg_<;>try exact wkX)|fail)
  refine Zaa (fun k : Nat=>k ≤ xs.length ∧ xs.take k = ys.take k) (fun k=>mkS 26 [(5,.one (.r true (int k))),(0,.one (.r false (row n1 1 (ints xs)))),(1,.one (.r false (row n2 1 (ints ys))))] []) (fun k=>xs.length - k) 0 ⟨Nat.zero_le _,rfl⟩ (by (refine Zi [] rfl ?_ ?_ <;>exact wkW)) ?_
  rintro k ⟨hk,hT⟩
  by_cases hlt : k < xs.length
  ·have hix:=ints_at (xs:=xs) hlt
   have hlt2 : k < ys.length:=by omega
   have hix2:=ints_at (xs:=ys) hlt2
   have h1 : xs[k] = ys[k] → xs.take (k + 1) = ys.take (k + 1):=fun h=>by
    rw [List.take_succ_eq_append_getElem hlt,List.take_succ_eq_append_getElem hlt2,hT,h]
   have h2 : xs[k] ≠ ys[k] → decide (xs = ys) = false:=fun h=>decide_eq_false (fun e=>h (by subst e; rfl))
   generalize xs[k] = v at *
   generalize ys[k] = u at *
   have hw : IntKind.i64.wrap ((k : Int) + 1) = ((k + 1 : Nat) : Int):=by rw [IntWalk.i64_in _ oM]; omega
   repeat' (first|refine wk ?_|((first|refine' w_q rfl rfl ?xa rfl ?_|refine' v_q rfl rfl ?xa rfl ?_|refine' Zn rfl rfl (Zb rfl) rfl ?xa rfl ?_|refine' Zo rfl rfl (Zb rfl) rfl ?xa rfl ?_);case xa=>exact Zx tbOk rfl rfl rfl rfl oM (by first|exact hix|exact hix2))|(refine wkB ?_ ?_<;>intro hg_<;>try exact wkX)|fail)
   all_goals first
    | exact ⟨k + 1,⟨by omega,h1 (by simpa using hg_)⟩,by (refine Zi [] rfl ?_ ?_<;>repeat' (first|refine wkS ?_ ?_|exact wkE|exact Zt hw)),by omega⟩
    | (refine Zab rfl (Zr ?_); rw [h2 (by simpa using hg_)]; done)
  ·have hE : decide (xs = ys) = true:=decide_eq_true (by
    rw [List.take_of_length_le oM,List.take_of_length_le oM] at hT; exact hT)
   rw [hE]
   repeat' (first|refine wk ?_|(refine wkB ?_ ?_<;>intro hg_<;>try exact wkX)|fail)
   all_goals first
    | exact Zab rfl (Zr rfl)
 ·have hE : decide (xs = ys) = false:=decide_eq_false (fun e=>hn (by rw [e]))
  rw [hE]
  refine Z8 (l:=[.tmp 4]) Try.func44 kRf rfl Try.ntmps44 rfl rfl ?_; simp only [argEnv,P0.d,Nat.reduceAdd]
  repeat' (first|refine wk ?_|(refine wkB ?_ ?_<;>intro hg_<;>try exact wkX)|fail)
  all_goals first
   | exact Zab rfl (Zr rfl)
   | (exfalso; omega)
theorem f_sameRecsG (n1 n2 : Bool) (L W : List (List Int)) (hl : L.length ≤ 1048576) (hl2 : W.length ≤ 1048576) (hb : ∀ b ∈ L,b.length ≤ 1048576) (hb2 : ∀ b ∈ W,b.length ≤ 1048576) : Fn Try.prog 17 [.one (row n1 1 (rowsI L)),.one (row n2 1 (rowsI W))] (.v (.one (bool (decide (L = W))))):=by
 have hlen:=Zan L
 have hlen2:=Zan W
 by_cases hn : L.length = W.length
 ·refine Z8 (l:=[.tmp 4]) Try.func17 kRf rfl Try.ntmps17 rfl rfl ?_; simp only [argEnv,P0.d,Nat.reduceAdd]
  repeat' (first|refine wk ?_|(refine wkB ?_ ?_<;>intro hg_<;>try exact wkX)|fail)
  refine Zaa (fun k : Nat=>k ≤ L.length ∧ L.take k = W.take k) (fun k=>mkS 27 [(5,.one (.r true (int k))),(0,.one (.r false (row n1 1 (rowsI L)))),(1,.one (.r false (row n2 1 (rowsI W))))] []) (fun k=>L.length - k) 0 ⟨Nat.zero_le _,rfl⟩ (by (refine Zi [] rfl ?_ ?_ <;>exact wkW)) ?_
  rintro k ⟨hk,hT⟩
  by_cases hlt : k < L.length
  ·have hix:=Zbr hlt
   have hlt2 : k < W.length:=by omega
   have hix2:=Zbr hlt2
   have KQ:=f_sameIntsR false false L[k] W[k] (hb _ (List.getElem_mem hlt)) (hb2 _ (List.getElem_mem hlt2))
   have h1 : L[k] = W[k] → L.take (k + 1) = W.take (k + 1):=fun h=>by
    rw [List.take_succ_eq_append_getElem hlt,List.take_succ_eq_append_getElem hlt2,hT,h]
   have h2 : L[k] ≠ W[k] → decide (L = W) = false:=fun h=>decide_eq_false (fun e=>h (by subst e; rfl))
   generalize L[k] = v at *
   generalize W[k] = u at *
   have hw : IntKind.i64.wrap ((k : Int) + 1) = ((k + 1 : Nat) : Int):=by rw [IntWalk.i64_in _ oM]; omega
   repeat' (first|refine wk ?_|((first|refine' w_q rfl rfl ?xa rfl ?_|refine' v_q rfl rfl ?xa rfl ?_|refine' Zn rfl rfl (Zb rfl) rfl ?xa rfl ?_|refine' Zo rfl rfl (Zb rfl) rfl ?xa rfl ?_);case xa=>first|exact Zx tbOk rfl rfl rfl rfl oM (by first|exact hix|exact hix2)|exact Zm KQ rfl ⟨Zf (Za rfl),Zf (Za rfl),trivial⟩)|(refine wkB ?_ ?_<;>intro hg_<;>try exact wkX)|fail)
   all_goals first
    | exact ⟨k + 1,⟨by omega,h1 (by simpa using hg_)⟩,by (refine Zi [] rfl ?_ ?_<;>repeat' (first|refine wkS ?_ ?_|exact wkE|exact Zt hw)),by omega⟩
    | (refine Zab rfl (Zr ?_); rw [h2 (by simpa using hg_)]; done)
  ·have hE : decide (L = W) = true:=decide_eq_true (by
    rw [List.take_of_length_le oM,List.take_of_length_le oM] at hT; exact hT)
   rw [hE]
   repeat' (first|refine wk ?_|(refine wkB ?_ ?_<;>intro hg_<;>try exact wkX)|fail)
   all_goals first
    | exact Zab rfl (Zr rfl)
 ·have hE : decide (L = W) = false:=decide_eq_false (fun e=>hn (by rw [e]))
  rw [hE]
  refine Z8 (l:=[.tmp 4]) Try.func17 kRf rfl Try.ntmps17 rfl rfl ?_; simp only [argEnv,P0.d,Nat.reduceAdd]
  repeat' (first|refine wk ?_|(refine wkB ?_ ?_<;>intro hg_<;>try exact wkX)|fail)
  all_goals first
   | exact Zab rfl (Zr rfl)
   | (exfalso; omega)
end Go.Proofs.Ytmkijbfiilpccaa.Abs
