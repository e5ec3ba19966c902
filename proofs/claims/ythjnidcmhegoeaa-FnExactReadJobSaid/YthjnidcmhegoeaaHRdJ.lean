/- For every text, the law FnExactReadJob returns true and leaves its argument as it was; no condition. -/
import Derived.ChangeMaps5
import Derived.Test.YthjnidcmhegoeaaRows
import Derived.WalkKit
import Derived.ProofKit
import Derived.Lib.SmallJoins
import Derived.Handy
import Derived.Test.YthjnidcmhegoeaaLib
import Derived.Test.YthjnidcmhegoeaaOwn
import Derived.Test.YthjnidcmhegoeaaFrame
import Derived.Test.YthjnidcmhegoeaaReads
import Derived.Test.YthjnidcmhegoeaaCFrame
import Derived.Test.YthjnidcmhegoeaaAStrK
set_option linter.unusedSimpArgs false
set_option linter.unusedVariables false
namespace Go.Proofs.Ythjnidcmhegoeaa
open Go.ChangeShapes Go.WideShapes Go.ChangeAt Go.RowKit

open Abs
set_option maxRecDepth 100000 in
theorem fnExactReadJob_lifted (os : Os) (started : os.Started) (H : Type) (enc : TypeId × Value → H) :
    ReturnsInHanded {} Try.checked os 5 .any (Rows.fnExactReadJobSpec.pre6 enc Try.prog Try.f5 Rows.fnExactReadJobRow.domain false) (Rows.fnExactReadJobSpec.post enc Try.prog Try.f5 false true false false) := by
  refine returnsInHanded_of_change (C := Try.checked) own_knob started (by kernel_rfl) Try.func5
    (ChangeSpec.witness6 (enc := enc) (C := Try.checked) false ⟨#[], #[.string ⟨#[]⟩], []⟩ 8 (by kernel_rfl) (by kernel_rfl) (by kernel_rfl) (by kernel_rfl)) ?_
  intro W base args ds gs before hval0 hW hcnd _
  have hval : ∀ (j : Nat) t v, Try.f5.params[j]? = some t → args[j]? = some v → Value.okWide Try.prog W .any base t v := hval0
  refine law_post hW rfl rfl (fun H ds hl => by match ds, hl with | [_], _ => rfl) (by kernel_rfl) (of_decide_eq_true (by kernel_rfl)) Try.underlying4 ?_
  obtain ⟨p, q, hA0, _, _, _, _⟩ := hW
  have hA : DataW.TrodAll enc Try.prog W 0 (fun _ => true) true Try.f5.params.toList args.toList ds p := hA0
  rw [Try.params5] at hA hval
  clear hA0 hval0

  obtain ⟨v0, d0, rfl, rfl, h0⟩ := trodAll_one hA
  obtain ⟨s, rfl, _⟩ := Go.ChangeMaps.open_string Try.underlying9 (hval 0 9 v0 rfl rfl) h0
  obtain ⟨l, rfl⟩ : ∃ l : List UInt8, s = ⟨l.toArray⟩ := ⟨s.data.toList, by simp⟩
  exact law_calls (f_lawExactReadJob l) (Glob.triv _ _) ⟨val_p.2 ⟨rfl, rfl⟩, trivial⟩

theorem fnExactReadJob_holds : Rows.FnExactReadJobSaid :=
  OpenClaim.holds_of_wide 5 Try.f5 rfl rfl rfl rfl rfl rfl rfl ⟨rfl, rfl, rfl, rfl, rfl⟩ rfl rfl rfl rfl rfl (by kernel_rfl) Try.func5 (by kernel_rfl)
    (of_decide_eq_true (by kernel_rfl)) (by unfold Func.isWrapper; first | (rw [if_pos (by decide +kernel)]; kernel_rfl) | (rw [if_neg (by decide +kernel)]; exact ⟨rfl, rfl⟩))
    (fun os started H enc _ => fnExactReadJob_lifted os started H enc)

end Go.Proofs.Ythjnidcmhegoeaa
