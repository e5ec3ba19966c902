/- For every graph, vertex, row of costs and row of parents, the law FnExactCostsRight returns true and leaves its arguments as they were; no condition. -/
import Derived.Test.YtknbeakmnkjkhaaRows
import Derived.WalkKit
import Derived.ProofKit
import Derived.Lib.SmallJoins
import Derived.Handy
import Derived.Test.YtknbeakmnkjkhaaLib
import Derived.Test.YtknbeakmnkjkhaaOwn
import Derived.Test.YtknbeakmnkjkhaaFrame
import Derived.Test.YtknbeakmnkjkhaaReads
import Derived.Test.YtknbeakmnkjkhaaAFrame
import Derived.Test.YtknbeakmnkjkhaaLCosts
set_option linter.unusedSimpArgs false
set_option linter.unusedVariables false
namespace Go.Proofs.Ytknbeakmnkjkhaa
open Go.ChangeShapes Go.WideShapes Go.ChangeAt Go.RowKit

open Abs
set_option maxRecDepth 100000 in
theorem fnExactCostsRight_lifted (os : Os) (started : os.Started) (H : Type) (enc : TypeId × Value → H) :
    ReturnsInHanded {} Try.checked os 5 .any (Rows.fnExactCostsRightSpec.pre6 enc Try.prog Try.f5 Rows.fnExactCostsRightRow.domain false) (Rows.fnExactCostsRightSpec.post enc Try.prog Try.f5 false true false false) := by
  refine returnsInHanded_of_change (C := Try.checked) own_knob started (by kernel_rfl) Try.func5
    (ChangeSpec.witness6 (enc := enc) (C := Try.checked) false ⟨#[], #[.agg #[.int .i64 0, .slice none 0 0], .int .i64 0, .slice none 0 0, .slice none 0 0], []⟩ 8 (by kernel_rfl) (by kernel_rfl) (by kernel_rfl) (by kernel_rfl)) ?_
  intro W base args ds gs before hval0 hW hcnd _
  have hval : ∀ (j : Nat) t v, Try.f5.params[j]? = some t → args[j]? = some v → Value.okWide Try.prog W .any base t v := hval0
  refine law_post hW rfl rfl (fun H ds hl => by match ds, hl with | [_, _, _, _], _ => rfl) (by kernel_rfl) (of_decide_eq_true (by kernel_rfl)) Try.underlying4 ?_
  obtain ⟨p, q, hA0, _, _, _, _⟩ := hW
  have hA : DataW.TrodAll enc Try.prog W 0 (fun _ => true) true Try.f5.params.toList args.toList ds p := hA0
  rw [Try.params5] at hA hval
  clear hA0 hval0

  obtain ⟨v0, v1, v2, v3, d0, d1, d2, d3, p0, p1, p2, p3, rfl, rfl, rfl, h0, h1, h2, h3⟩ := trodAll_four hA
  obtain ⟨cs, rfl, hsz⟩ := okWide_struct Try.underlying24 (hval 0 24 v0 rfl rfl)
  obtain ⟨i, rfl, _, _, _⟩ := open_int Try.underlying3 (hval 1 3 v1 rfl rfl) h1
  obtain ⟨a2, n2, c2, rfl⟩ := okWide_slice Try.underlying35 (hval 2 35 v2 rfl rfl)
  obtain ⟨a3, n3, c3, rfl⟩ := okWide_slice Try.underlying35 (hval 3 35 v3 rfl rfl)
  obtain ⟨fuel, h0⟩ := h0
  obtain ⟨fuel2, h2⟩ := h2
  obtain ⟨fuel3, h3⟩ := h3
  obtain ⟨⟨m, nil, es⟩, ⟨_, hl⟩, hg⟩ := rdr_graph _ _ _ h0
  obtain ⟨⟨nil1, vs⟩, ⟨_, hI⟩, hv⟩ := rdr_ints _ _ _ h2
  obtain ⟨⟨nil2, fs⟩, _, hf⟩ := rdr_ints _ _ _ h3
  exact law_calls (f_lawCostsRight m nil nil1 nil2 es i vs fs (by simp only [maxLen] at hl; omega) hI) ⟨CsP.agg hg, val_p.2 ⟨rfl, rfl⟩, CsP.arg hv, CsP.arg hf, trivial⟩

theorem fnExactCostsRight_holds : Rows.FnExactCostsRightSaid :=
  OpenClaim.holds_of_wide 5 Try.f5 rfl rfl rfl rfl rfl rfl rfl ⟨rfl, rfl, rfl, rfl, rfl⟩ rfl rfl rfl rfl rfl (by kernel_rfl) Try.func5 (by kernel_rfl)
    (of_decide_eq_true (by kernel_rfl)) (by unfold Func.isWrapper; first | (rw [if_pos (by decide +kernel)]; kernel_rfl) | (rw [if_neg (by decide +kernel)]; exact ⟨rfl, rfl⟩))
    (fun os started H enc _ => fnExactCostsRight_lifted os started H enc)

end Go.Proofs.Ytknbeakmnkjkhaa
