/- For every graph and every edge, the law FnExactAddEdge returns true and leaves its arguments as they were; no condition. -/
import Derived.Test.YthjnidcmhegoeaaRows
import Derived.WalkKit
import Derived.ProofKit
import Derived.Lib.SmallJoins
import Derived.Handy
import Derived.Test.YthjnidcmhegoeaaLib
import Derived.Test.YthjnidcmhegoeaaOwn
import Derived.Test.YthjnidcmhegoeaaFrame
import Derived.Test.YthjnidcmhegoeaaReads
import Derived.Test.YthjnidcmhegoeaaAFrame
import Derived.Test.YthjnidcmhegoeaaLAddX
set_option linter.unusedSimpArgs false
set_option linter.unusedVariables false
namespace Go.Proofs.Ythjnidcmhegoeaa
open Go.ChangeShapes Go.WideShapes Go.ChangeAt Go.RowKit

open Abs
set_option maxRecDepth 100000 in
theorem fnExactAddEdge_lifted (os : Os) (started : os.Started) (H : Type) (enc : TypeId × Value → H) :
    ReturnsInHanded {} Try.checked os 3 .any (Rows.fnExactAddEdgeSpec.pre6 enc Try.prog Try.f3 Rows.fnExactAddEdgeRow.domain false) (Rows.fnExactAddEdgeSpec.post enc Try.prog Try.f3 false true false false) := by
  refine returnsInHanded_of_change (C := Try.checked) own_knob started (by kernel_rfl) Try.func3
    (ChangeSpec.witness6 (enc := enc) (C := Try.checked) false ⟨#[], #[.agg #[.int .i64 0, .slice none 0 0], .agg #[.int .i64 0, .int .i64 0, .int .i64 0]], []⟩ 8 (by kernel_rfl) (by kernel_rfl) (by kernel_rfl) (by kernel_rfl)) ?_
  intro W base args ds gs before hval0 hW hcnd _
  have hval : ∀ (j : Nat) t v, Try.f3.params[j]? = some t → args[j]? = some v → Value.okWide Try.prog W .any base t v := hval0
  refine law_post hW rfl rfl (fun H ds hl => by match ds, hl with | [_, _], _ => rfl) (by kernel_rfl) (of_decide_eq_true (by kernel_rfl)) Try.underlying4 ?_
  obtain ⟨p, q, hA0, _, _, _, _⟩ := hW
  have hA : DataW.TrodAll enc Try.prog W 0 (fun _ => true) true Try.f3.params.toList args.toList ds p := hA0
  rw [Try.params3] at hA hval
  clear hA0 hval0

  obtain ⟨v0, v1, d0, d1, p0, p1, rfl, rfl, rfl, h0, h1⟩ := trodAll_two hA
  obtain ⟨cs, rfl, hsz⟩ := okWide_struct Try.underlying24 (hval 0 24 v0 rfl rfl)
  obtain ⟨cs1, rfl, hsz1⟩ := okWide_struct Try.underlying26 (hval 1 26 v1 rfl rfl)
  obtain ⟨fuel, h0⟩ := h0
  obtain ⟨fuel1, h1⟩ := h1
  obtain ⟨⟨m, nil, es⟩, ⟨_, hl⟩, hg⟩ := rdr_graph _ _ _ h0
  obtain ⟨e, _, he⟩ := rdr_edge _ _ _ h1
  exact law_calls (law_addX m nil es e (by simp only [maxLen] at hl; omega)) (Glob.triv _ _) ⟨CsP.agg hg, CsP.agg he, trivial⟩

theorem fnExactAddEdge_holds : Rows.FnExactAddEdgeSaid :=
  OpenClaim.holds_of_wide 3 Try.f3 rfl rfl rfl rfl rfl rfl rfl ⟨rfl, rfl, rfl, rfl, rfl⟩ rfl rfl rfl rfl rfl (by kernel_rfl) Try.func3 (by kernel_rfl)
    (of_decide_eq_true (by kernel_rfl)) (by unfold Func.isWrapper; first | (rw [if_pos (by decide +kernel)]; kernel_rfl) | (rw [if_neg (by decide +kernel)]; exact ⟨rfl, rfl⟩))
    (fun os started H enc _ => fnExactAddEdge_lifted os started H enc)

end Go.Proofs.Ythjnidcmhegoeaa
