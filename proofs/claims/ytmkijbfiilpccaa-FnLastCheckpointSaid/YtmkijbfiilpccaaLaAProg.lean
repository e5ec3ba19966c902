/- Programs by states. No statement of the seat is proved here. -/
import Derived.Lib.Hide
import Derived.Test.YtmkijbfiilpccaaLaTy
import Derived.Test.YtmkijbfiilpccaaLaADrwI
import Derived.Test.YtmkijbfiilpccaaLaJobs
set_option linter.unusedSimpArgs false
set_option linter.unusedVariables false
set_option maxRecDepth 100000
set_option maxHeartbeats 2000000
namespace Go.Proofs.Ytmkijbfiilpccaa.Abs
open Go.RowKit
open R (val row ref)
abbrev prgP (k s r : Int) : P0:=.agg [int k,int s,int r]
theorem f_specProgValid (k s r : Int) : Fn Try.prog 91 [prgP k s r] (.v (.one (bool (progOk k s r)))):=by
 have K1:=f_l1In s 0 15
 have K2:=f_l1In r 1 20
 unfold inR at K1 K2
 refine Z8 (l:=[.tmp 2]) Try.func91 kRf rfl Try.ntmps91 rfl rfl ?_; simp only [argEnv,P0.d,Nat.reduceAdd,prgP]
 repeat' (first|refine wk ?_|((first|refine' w_q rfl rfl ?xa rfl ?_|refine' v_q rfl rfl ?xa rfl ?_|refine' Zn rfl rfl (Zb rfl) rfl ?xa rfl ?_|refine' Zo rfl rfl (Zb rfl) rfl ?xa rfl ?_);case xa=>first|exact Zm K1 rfl ⟨Zf (Za rfl),Zf (Za rfl),Zf (Za rfl),trivial⟩|exact Zm K2 rfl ⟨Zf (Za rfl),Zf (Za rfl),Zf (Za rfl),trivial⟩)|(refine wkB ?_ ?_<;>intro hg_<;>try exact wkX)|fail)
 all_goals first
  | exact Zab rfl (Zr (by unfold progOk;(first|(simp_all;done)|(rw [Bool.eq_iff_iff];simp_all;done)|(rw [Bool.eq_iff_iff];simp_all;omega)|(rw [Bool.eq_iff_iff];simp;omega))))
  | (exfalso; omega)
end Go.Proofs.Ytmkijbfiilpccaa.Abs
