/- For every job, the law FnExactJobValid returns true and leaves its argument as it was; no condition. -/
import Derived.Test.YtlanonimjbhjnaaRows
import Derived.WalkKit
import Derived.ProofKit
import Derived.Lib.SmallJoins
import Derived.Handy
import Derived.Test.YtlanonimjbhjnaaLib
import Derived.Test.YtlanonimjbhjnaaFrame
import Derived.Test.YtlanonimjbhjnaaReads
import Derived.Test.YtlanonimjbhjnaaJobs
set_option linter.unusedSimpArgs false
set_option linter.unusedVariables false
namespace Go.Proofs.Ytlanonimjbhjnaa
open Go.ChangeShapes Go.WideShapes Go.ChangeAt Go.RowKit

set_option maxRecDepth 100000 in
theorem fnExactJobValid_lifted (os : Os) (started : os.Started) (H : Type) (enc : TypeId × Value → H) :
    ReturnsInHanded {} Try.checked os 3 .any (Rows.fnExactJobValidSpec.pre6 enc Try.prog Try.f3 Rows.fnExactJobValidRow.domain false) (Rows.fnExactJobValidSpec.post enc Try.prog Try.f3 false true false false) := by
  refine returnsInHanded_of_change (C := Try.checked) own_knob started (by kernel_rfl) Try.func3
    (ChangeSpec.witness6 (enc := enc) (C := Try.checked) false ⟨#[], #[.agg #[.int .i64 0, .int .i64 0, .int .i64 0, .int .i64 0]], []⟩ 8 (by kernel_rfl) (by kernel_rfl) (by kernel_rfl) (by kernel_rfl)) ?_
  intro W base args ds gs before hval0 hW hcnd _
  have hval : ∀ (j : Nat) t v, Try.f3.params[j]? = some t → args[j]? = some v → Value.okWide Try.prog W .any base t v := hval0
  refine law_post hW rfl rfl (fun H ds hl => by match ds, hl with | [d], _ => rfl) (by kernel_rfl) (of_decide_eq_true (by kernel_rfl)) Try.underlying4 ?_
  obtain ⟨p, q, hA0, _, _, _, _⟩ := hW
  have hA : DataW.TrodAll enc Try.prog W 0 (fun _ => true) true Try.f3.params.toList args.toList ds p := hA0
  rw [Try.params3] at hA hval
  clear hA0 hval0

  obtain ⟨v0, d0, rfl, rfl, h0⟩ := trodAll_one hA
  obtain ⟨cs, rfl, hsz⟩ := okWide_struct Try.underlying25 (hval 0 25 v0 rfl rfl)
  obtain ⟨fuel, h⟩ := h0
  obtain ⟨a, b, c, n, hcs, _⟩ := rd_job h
  have hcs' : cs = #[.int .i64 a, .int .i64 b, .int .i64 c, .int .i64 n] := by rw [← Array.toList_inj]; exact hcs
  subst hcs'
  exact fnExactJobValid a b c n W

theorem fnExactJobValid_holds : Rows.FnExactJobValidSaid :=
  OpenClaim.holds_of_wide 3 Try.f3 rfl rfl rfl rfl rfl rfl rfl ⟨rfl, rfl, rfl, rfl, rfl⟩ rfl rfl rfl rfl rfl (by kernel_rfl) Try.func3 (by kernel_rfl)
    (of_decide_eq_true (by kernel_rfl)) (by unfold Func.isWrapper; first | (rw [if_pos (by decide +kernel)]; kernel_rfl) | (rw [if_neg (by decide +kernel)]; exact ⟨rfl, rfl⟩))
    (fun os started H enc _ => fnExactJobValid_lifted os started H enc)

end Go.Proofs.Ytlanonimjbhjnaa
