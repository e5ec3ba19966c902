/- What laws lean on, by states: sameInts, alive. No statement of the seat is proved here. -/
import Derived.Lib.Hide
import Derived.Test.YtmkijbfiilpccaaLaTy
import Derived.Test.YtmkijbfiilpccaaLaADrwI
set_option linter.unusedSimpArgs false
set_option linter.unusedVariables false
set_option maxRecDepth 100000
set_option maxHeartbeats 4000000
namespace Go.Proofs.Ytmkijbfiilpccaa.Abs
open Go.RowKit
open R (val row ref)
theorem f_sameInts2 (n1 n2 : Bool) (xs : List Int) (hl : xs.length ≤ 1048576) : Fn Try.prog 44 [.one (row n1 1 (ints xs)),.one (row n2 1 (ints xs))] (.v (.one (bool true))):=by
 have hlen:=Zu xs
 refine Z8 (l:=[.tmp 4]) Try.func44 kRf rfl Try.ntmps44 rfl rfl ?_; simp only [argEnv,P0.d,Nat.reduceAdd]
 repeat' (first|refine wk ?_|(refine wkB ?_ ?_<;>intro hg_<;>try exact wkX)|fail)
 refine Zaa (fun k : Nat=>k ≤ xs.length) (fun k=>mkS 26 [(5,.one (.r true (int k))),(0,.one (.r false (row n1 1 (ints xs)))),(1,.one (.r false (row n2 1 (ints xs))))] []) (fun k=>xs.length - k) 0 (Nat.zero_le _) (by (refine Zi [] rfl ?_ ?_ <;>exact wkW)) ?_
 rintro k hk
 by_cases hlt : k < xs.length
 ·have hix:=ints_at (xs:=xs) hlt
  generalize xs[k] = v at *
  have hw : IntKind.i64.wrap ((k : Int) + 1) = ((k + 1 : Nat) : Int):=by rw [IntWalk.i64_in _ oM]; omega
  repeat' (first|refine wk ?_|((first|refine' w_q rfl rfl ?xa rfl ?_|refine' v_q rfl rfl ?xa rfl ?_|refine' Zn rfl rfl (Zb rfl) rfl ?xa rfl ?_|refine' Zo rfl rfl (Zb rfl) rfl ?xa rfl ?_);case xa=>exact Zx tbOk rfl rfl rfl rfl oM (by exact hix))|(refine wkB ?_ ?_<;>intro hg_<;>try exact wkX)|fail)
  all_goals first
   | exact ⟨k + 1,by omega,by (refine Zi [] rfl ?_ ?_<;>repeat' (first|refine wkS ?_ ?_|exact wkE|exact Zt hw)),by omega⟩
 ·repeat' (first|refine wk ?_|(refine wkB ?_ ?_<;>intro hg_<;>try exact wkX)|fail)
  all_goals first
   | exact Zab rfl (Zr rfl)
theorem f_bytesValid02 : Fn Try.prog 77 [.one (row false 1 [])] (.v (.one (bool true))):=by
 refine Z8 (l:=[.tmp 2]) Try.func77 kRf rfl Try.ntmps77 rfl rfl ?_; simp only [argEnv,P0.d,Nat.reduceAdd]
 repeat' (first|refine wk ?_|(refine wkB ?_ ?_<;>intro hg_<;>try exact wkX)|fail)
 refine Zaa (fun _ : Nat=>True) (fun _=>mkS 21 [(10,.one (.r true (int 0))),(9,.one (.r true (int 0)))] []) (fun _=>0) 0 trivial (by (refine Zi [] rfl ?_ ?_ <;>exact wkW)) ?_
 rintro _ _
 repeat' (first|refine wk ?_|(refine wkB ?_ ?_<;>intro hg_<;>try exact wkX)|fail)
 all_goals first
  | exact Zab rfl (Zr rfl)
  | (exfalso; simp at *; done)
theorem f_checkSum02 : Fn Try.prog 52 [.one (row false 1 [])] (.v (iP 7)):=by
 refine Z8 (l:=[.tmp 2]) Try.func52 kRf rfl Try.ntmps52 rfl rfl ?_; simp only [argEnv,P0.d,Nat.reduceAdd]
 repeat' (first|refine wk ?_|((first|refine' w_q rfl rfl ?xa rfl ?_|refine' v_q rfl rfl ?xa rfl ?_|refine' Zn rfl rfl (Zb rfl) rfl ?xa rfl ?_|refine' Zo rfl rfl (Zb rfl) rfl ?xa rfl ?_);case xa=>exact Zm f_bytesValid02 rfl ⟨Zf (Za rfl),trivial⟩)|(refine wkB ?_ ?_<;>intro hg_<;>try exact wkX)|fail)
 refine Zaa (fun _ : Nat=>True) (fun _=>mkS 23 [(11,.one (.r true (int 0))),(10,.one (.r true (int 0))),(3,.one (.r true (int 7)))] []) (fun _=>0) 0 trivial (by (refine Zi [] rfl ?_ ?_ <;>exact wkW)) ?_
 rintro _ _
 repeat' (first|refine wk ?_|(refine wkB ?_ ?_<;>intro hg_<;>try exact wkX)|fail)
 all_goals first
  | exact Zab rfl (Zv rfl)
  | (exfalso; simp at *; done)
theorem f_alive2 : Fn Try.prog 20 [] (.v (.one (bool true))):=by
 refine Z8 (l:=[.tmp 0]) Try.func20 kRf rfl Try.ntmps20 rfl rfl ?_; simp only [argEnv,P0.d,Nat.reduceAdd]
 repeat' (first|refine wk ?_|((first|refine' w_q rfl rfl ?xa rfl ?_|refine' v_q rfl rfl ?xa rfl ?_|refine' Zn rfl rfl (Zb rfl) rfl ?xa rfl ?_|refine' Zo rfl rfl (Zb rfl) rfl ?xa rfl ?_);case xa=>exact Zm f_checkSum02 rfl ⟨by rw [Za rfl];exact Zaf (Zj rfl) rfl,trivial⟩)|((first|refine' w_e rfl ?xa ?xb ?xc ?xe ?_|refine' v_e rfl ?xa ?xb ?xc ?xe ?_);(case xa=>exact Zl [] tlOk rfl rfl rfl rfl rfl rfl (by simp [AllN]) (by simp));(case xb|xc|xe=>rfl);try refine wkD ?_)|(refine wkB ?_ ?_<;>intro hg_<;>try exact wkX)|fail)
 all_goals first
  | exact Zab rfl (Zr rfl)
end Go.Proofs.Ytmkijbfiilpccaa.Abs
