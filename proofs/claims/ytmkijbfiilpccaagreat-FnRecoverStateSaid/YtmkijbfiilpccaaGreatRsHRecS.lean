/- For every code, the law FnRecoverState returns true and leaves its argument as it was; no condition. -/
import Derived.Test.YtmkijbfiilpccaaGreatRows
import Derived.WalkKit
import Derived.ProofKit
import Derived.Lib.SmallJoins
import Derived.Handy
import Derived.Test.YtmkijbfiilpccaaGreatRsLib
import Derived.Test.YtmkijbfiilpccaaGreatRsOwn
import Derived.Test.YtmkijbfiilpccaaGreatRsFrame
import Derived.Test.YtmkijbfiilpccaaGreatRsReads
import Derived.Test.YtmkijbfiilpccaaGreatRsCFrame
import Derived.Test.YtmkijbfiilpccaaGreatRsLRecS
set_option linter.unusedSimpArgs false
set_option linter.unusedVariables false
namespace Go.Proofs.YtmkijbfiilpccaaGreat
open Go.ChangeShapes Go.WideShapes Go.ChangeAt Go.RowKit
open Abs
set_option maxRecDepth 100000 in
theorem fnRecoverState_lifted (os : Os) (started : os.Started) (H : Type) (enc : TypeId × Value → H) :
  ReturnsInHanded {} Tryz.checked os 3 .any (Rows.fnRecoverStateSpec.pre6 enc Tryz.prog Tryz.f3 Rows.fnRecoverStateRow.domain false) (Rows.fnRecoverStateSpec.post enc Tryz.prog Tryz.f3 false true false false):=by
 refine returnsInHanded_of_change (C:=Tryz.checked) own_knob started (by kernel_rfl) Tryz.func3
  (ChangeSpec.witness6 (enc:=enc) (C:=Tryz.checked) false ⟨#[],#[.slice none 0 0],[]⟩ 8 (by kernel_rfl) (by kernel_rfl) (by kernel_rfl) (by kernel_rfl)) ?_
 intro W base args ds gs before hval0 hW hcnd _
 have hval : ∀ (j : Nat) t v,Tryz.f3.params[j]? = some t → args[j]? = some v → Value.okWide Tryz.prog W .any base t v:=hval0
 refine law_post hW rfl rfl (fun H ds hl=>by match ds,hl with | [_],_=>rfl) (by kernel_rfl) (of_decide_eq_true (by kernel_rfl)) Tryz.underlying4 ?_
 obtain ⟨p,q,hA0,_,_,_,_⟩:=hW
 have hA : DataW.TrodAll enc Tryz.prog W 0 (fun _=>true) true Tryz.f3.params.toList args.toList ds p:=hA0
 rw [Tryz.params3] at hA hval
 clear hA0 hval0
 obtain ⟨v0,d0,rfl,rfl,h0⟩:=trodAll_one hA
 obtain ⟨a0,len,cap,rfl⟩:=okWide_slice Tryz.underlying22 (hval 0 22 v0 rfl rfl)
 obtain ⟨fuel,h0⟩:=h0
 obtain ⟨⟨nb,xs⟩,⟨_,hI⟩,hv⟩:=rdr_bytes _ _ _ h0
 exact law_calls (law_recS nb xs hI) (Glob.triv _ _) ⟨CsP.arg hv,trivial⟩
theorem fnRecoverState_holds : Rows.FnRecoverStateSaid :=
 OpenClaim.holds_of_wide 3 Tryz.f3 rfl rfl rfl rfl rfl rfl rfl ⟨rfl,rfl,rfl,rfl,rfl⟩ rfl rfl rfl rfl rfl (by kernel_rfl) Tryz.func3 (by kernel_rfl)
  (of_decide_eq_true (by kernel_rfl)) (by unfold Func.isWrapper;first|(rw [if_pos (by decide +kernel)];kernel_rfl)|(rw [if_neg (by decide +kernel)];exact ⟨rfl,rfl⟩))
  (fun os started H enc _=>fnRecoverState_lifted os started H enc)
end Go.Proofs.YtmkijbfiilpccaaGreat
