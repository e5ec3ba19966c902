/- For every code, the law FnLastCheckpoint returns true and leaves its argument as it was; no condition. -/
import Derived.Test.YtmkijbfiilpccaaRows
import Derived.WalkKit
import Derived.ProofKit
import Derived.Lib.SmallJoins
import Derived.Handy
import Derived.Test.YtmkijbfiilpccaaLaLib
import Derived.Test.YtmkijbfiilpccaaLaOwn
import Derived.Test.YtmkijbfiilpccaaLaFrame
import Derived.Test.YtmkijbfiilpccaaLaReads
import Derived.Test.YtmkijbfiilpccaaLaCFrame
import Derived.Test.YtmkijbfiilpccaaLaLLast
set_option linter.unusedSimpArgs false
set_option linter.unusedVariables false
namespace Go.Proofs.Ytmkijbfiilpccaa
open Go.ChangeShapes Go.WideShapes Go.ChangeAt Go.RowKit
open Abs
set_option maxRecDepth 100000 in
theorem Zdh (os : Os) (started : os.Started) (H : Type) (enc : TypeId × Value → H) :
  ReturnsInHanded {} Try.checked os 5 .any (Rows.fnLastCheckpointSpec.pre6 enc Try.prog Try.f5 Rows.fnLastCheckpointRow.domain false) (Rows.fnLastCheckpointSpec.post enc Try.prog Try.f5 false true false false):=by
 refine returnsInHanded_of_change (C:=Try.checked) own_knob started (by kernel_rfl) Try.func5
  (ChangeSpec.witness6 (enc:=enc) (C:=Try.checked) false ⟨#[],#[.slice none 0 0],[]⟩ 8 (by kernel_rfl) (by kernel_rfl) (by kernel_rfl) (by kernel_rfl)) ?_
 intro W base args ds gs before hval0 hW hcnd _
 have hval : ∀ (j : Nat) t v,Try.f5.params[j]? = some t → args[j]? = some v → Value.okWide Try.prog W .any base t v:=hval0
 refine law_post hW rfl rfl (fun H ds hl=>by match ds,hl with | [_],_=>rfl) (by kernel_rfl) (of_decide_eq_true (by kernel_rfl)) Try.underlying4 ?_
 obtain ⟨p,q,hA0,_,_,_,_⟩:=hW
 have hA : DataW.TrodAll enc Try.prog W 0 (fun _=>true) true Try.f5.params.toList args.toList ds p:=hA0
 rw [Try.params5] at hA hval
 clear hA0 hval0
 obtain ⟨v0,d0,rfl,rfl,h0⟩:=trodAll_one hA
 obtain ⟨a0,len,cap,rfl⟩:=okWide_slice Try.underlying36 (hval 0 36 v0 rfl rfl)
 obtain ⟨fuel,h0⟩:=h0
 obtain ⟨⟨nb,xs⟩,⟨_,hI⟩,hv⟩:=rdr_bytes _ _ _ h0
 exact law_calls (law_last nb xs hI) (Glob.triv _ _) ⟨CsP.arg hv,trivial⟩
theorem fnLastCheckpoint_holds : Rows.FnLastCheckpointSaid :=
 OpenClaim.holds_of_wide 5 Try.f5 rfl rfl rfl rfl rfl rfl rfl ⟨rfl,rfl,rfl,rfl,rfl⟩ rfl rfl rfl rfl rfl (by kernel_rfl) Try.func5 (by kernel_rfl)
  (of_decide_eq_true (by kernel_rfl)) (by unfold Func.isWrapper;first|(rw [if_pos (by decide +kernel)];kernel_rfl)|(rw [if_neg (by decide +kernel)];exact ⟨rfl,rfl⟩))
  (fun os started H enc _=>Zdh os started H enc)
end Go.Proofs.Ytmkijbfiilpccaa
