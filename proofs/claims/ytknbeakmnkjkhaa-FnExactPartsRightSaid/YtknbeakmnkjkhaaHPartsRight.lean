/- For every graph, row of values and row of parents, the law FnExactPartsRight returns true and leaves its arguments as they were; no condition. -/
import Derived.Test.YtknbeakmnkjkhaaRows
import Derived.WalkKit
import Derived.ProofKit
import Derived.Lib.SmallJoins
import Derived.Handy
import Derived.Test.YtknbeakmnkjkhaaLib
import Derived.Test.YtknbeakmnkjkhaaOwn
import Derived.Test.YtknbeakmnkjkhaaFrame
import Derived.Test.YtknbeakmnkjkhaaReads
import Derived.Test.YtknbeakmnkjkhaaAFrame
import Derived.Test.YtknbeakmnkjkhaaLParts
set_option linter.unusedSimpArgs false
set_option linter.unusedVariables false
namespace Go.Proofs.Ytknbeakmnkjkhaa
open Go.ChangeShapes Go.WideShapes Go.ChangeAt Go.RowKit

open Abs
set_option maxRecDepth 100000 in
theorem fnExactPartsRight_lifted (os : Os) (started : os.Started) (H : Type) (enc : TypeId × Value → H) :
    ReturnsInHanded {} Try.checked os 6 .any (Rows.fnExactPartsRightSpec.pre6 enc Try.prog Try.f6 Rows.fnExactPartsRightRow.domain false) (Rows.fnExactPartsRightSpec.post enc Try.prog Try.f6 false true false false) := by
  refine returnsInHanded_of_change (C := Try.checked) own_knob started (by kernel_rfl) Try.func6
    (ChangeSpec.witness6 (enc := enc) (C := Try.checked) false ⟨#[], #[.agg #[.int .i64 0, .slice none 0 0], .slice none 0 0, .slice none 0 0], []⟩ 8 (by kernel_rfl) (by kernel_rfl) (by kernel_rfl) (by kernel_rfl)) ?_
  intro W base args ds gs before hval0 hW hcnd _
  have hval : ∀ (j : Nat) t v, Try.f6.params[j]? = some t → args[j]? = some v → Value.okWide Try.prog W .any base t v := hval0
  refine law_post hW rfl rfl (fun H ds hl => by match ds, hl with | [_, _, _], _ => rfl) (by kernel_rfl) (of_decide_eq_true (by kernel_rfl)) Try.underlying4 ?_
  obtain ⟨p, q, hA0, _, _, _, _⟩ := hW
  have hA : DataW.TrodAll enc Try.prog W 0 (fun _ => true) true Try.f6.params.toList args.toList ds p := hA0
  rw [Try.params6] at hA hval
  clear hA0 hval0

  obtain ⟨v0, v2, v3, d0, d2, d3, p0, p2, p3, rfl, rfl, rfl, h0, h2, h3⟩ := trodAll_three hA
  obtain ⟨cs, rfl, hsz⟩ := okWide_struct Try.underlying24 (hval 0 24 v0 rfl rfl)
  obtain ⟨a2, n2, c2, rfl⟩ := okWide_slice Try.underlying35 (hval 1 35 v2 rfl rfl)
  obtain ⟨a3, n3, c3, rfl⟩ := okWide_slice Try.underlying35 (hval 2 35 v3 rfl rfl)
  obtain ⟨fuel, h0⟩ := h0
  obtain ⟨fuel2, h2⟩ := h2
  obtain ⟨fuel3, h3⟩ := h3
  obtain ⟨⟨m, nil, es⟩, ⟨_, hl⟩, hg⟩ := rdr_graph _ _ _ h0
  obtain ⟨⟨nil1, vs⟩, _, hv⟩ := rdr_ints _ _ _ h2
  obtain ⟨⟨nil2, fs⟩, _, hf⟩ := rdr_ints _ _ _ h3
  exact law_calls (f_lawPartsRight m nil nil1 nil2 es vs fs (by simp only [maxLen] at hl; omega)) ⟨CsP.agg hg, CsP.arg hv, CsP.arg hf, trivial⟩

theorem fnExactPartsRight_holds : Rows.FnExactPartsRightSaid :=
  OpenClaim.holds_of_wide 6 Try.f6 rfl rfl rfl rfl rfl rfl rfl ⟨rfl, rfl, rfl, rfl, rfl⟩ rfl rfl rfl rfl rfl (by kernel_rfl) Try.func6 (by kernel_rfl)
    (of_decide_eq_true (by kernel_rfl)) (by unfold Func.isWrapper; first | (rw [if_pos (by decide +kernel)]; kernel_rfl) | (rw [if_neg (by decide +kernel)]; exact ⟨rfl, rfl⟩))
    (fun os started H enc _ => fnExactPartsRight_lifted os started H enc)

end Go.Proofs.Ytknbeakmnkjkhaa
