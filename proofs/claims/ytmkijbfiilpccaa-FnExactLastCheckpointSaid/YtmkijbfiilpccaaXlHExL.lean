/- For every list of records, the law FnExactLastCheckpoint returns true and leaves its argument as it was; no condition. -/
import Derived.Test.YtmkijbfiilpccaaRows
import Derived.WalkKit
import Derived.ProofKit
import Derived.Lib.SmallJoins
import Derived.Handy
import Derived.Test.YtmkijbfiilpccaaXlLib
import Derived.Test.YtmkijbfiilpccaaXlOwn
import Derived.Test.YtmkijbfiilpccaaXlFrame
import Derived.Test.YtmkijbfiilpccaaXlReads
import Derived.Test.YtmkijbfiilpccaaXlLExM
set_option linter.unusedSimpArgs false
set_option linter.unusedVariables false
namespace Go.Proofs.Ytmkijbfiilpccaa
open Go.ChangeShapes Go.WideShapes Go.ChangeAt Go.RowKit
open Abs
set_option maxRecDepth 100000 in
theorem Zb4 (os : Os) (started : os.Started) (H : Type) (enc : TypeId × Value → H) :
  ReturnsInHanded {} Try.checked os 3 .any (Rows.fnExactLastCheckpointSpec.pre6 enc Try.prog Try.f3 Rows.fnExactLastCheckpointRow.domain false) (Rows.fnExactLastCheckpointSpec.post enc Try.prog Try.f3 false true false false):=by
 refine returnsInHanded_of_change (C:=Try.checked) own_knob started (by kernel_rfl) Try.func3
  (ChangeSpec.witness6 (enc:=enc) (C:=Try.checked) false ⟨#[],#[.slice none 0 0],[]⟩ 8 (by kernel_rfl) (by kernel_rfl) (by kernel_rfl) (by kernel_rfl)) ?_
 intro W base args ds gs before hval0 hW hcnd _
 have hval : ∀ (j : Nat) t v,Try.f3.params[j]? = some t → args[j]? = some v → Value.okWide Try.prog W .any base t v:=hval0
 refine law_post hW rfl rfl (fun H ds hl=>by match ds,hl with | [_],_=>rfl) (by kernel_rfl) (of_decide_eq_true (by kernel_rfl)) Try.underlying4 ?_
 obtain ⟨p,q,hA0,_,_,_,_⟩:=hW
 have hA : DataW.TrodAll enc Try.prog W 0 (fun _=>true) true Try.f3.params.toList args.toList ds p:=hA0
 rw [Try.params3] at hA hval
 clear hA0 hval0
 obtain ⟨v0,d0,rfl,rfl,h0⟩:=trodAll_one hA
 obtain ⟨a0,len,cap,rfl⟩:=okWide_slice Try.underlying22 (hval 0 22 v0 rfl rfl)
 obtain ⟨fuel,h0⟩:=h0
 obtain ⟨⟨nb,LN⟩,⟨hl,hlb⟩,hv⟩:=rdr_rows _ _ _ h0
 exact law_calls (law_exL nb LN hl hlb) (Glob.triv _ _) ⟨CsP.arg hv,trivial⟩
theorem fnExactLastCheckpoint_holds : Rows.FnExactLastCheckpointSaid :=
 OpenClaim.holds_of_wide 3 Try.f3 rfl rfl rfl rfl rfl rfl rfl ⟨rfl,rfl,rfl,rfl,rfl⟩ rfl rfl rfl rfl rfl (by kernel_rfl) Try.func3 (by kernel_rfl)
  (of_decide_eq_true (by kernel_rfl)) (by unfold Func.isWrapper;first|(rw [if_pos (by decide +kernel)];kernel_rfl)|(rw [if_neg (by decide +kernel)];exact ⟨rfl,rfl⟩))
  (fun os started H enc _=>Zb4 os started H enc)
end Go.Proofs.Ytmkijbfiilpccaa
