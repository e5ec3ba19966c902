/- For every graph and every disk, the law FnExactRecoverState returns true and leaves its arguments as they were; no condition. -/
import Derived.Test.YtmkecjamfippfaaRows
import Derived.WalkKit
import Derived.ProofKit
import Derived.Lib.SmallJoins
import Derived.Handy
import Derived.Test.YtmkecjamfippfaaRxLib
import Derived.Test.YtmkecjamfippfaaRxOwn
import Derived.Test.YtmkecjamfippfaaRxFrame
import Derived.Test.YtmkecjamfippfaaRxReads
import Derived.Test.YtmkecjamfippfaaRxRSvc
import Derived.Test.YtmkecjamfippfaaRxLRecX
set_option linter.unusedSimpArgs false
set_option linter.unusedVariables false
namespace Go.Proofs.Ytmkecjamfippfaa
open Go.ChangeShapes Go.WideShapes Go.ChangeAt Go.RowKit
open Abs
set_option maxRecDepth 100000 in
theorem fnExactRecoverState_lifted (os : Os) (started : os.Started) (H : Type) (enc : TypeId × Value → H) :
    ReturnsInHanded {} Try.checked os 4 .any (Rows.fnExactRecoverStateSpec.pre6 enc Try.prog Try.f4 Rows.fnExactRecoverStateRow.domain false) (Rows.fnExactRecoverStateSpec.post enc Try.prog Try.f4 false true false false) := by
  refine returnsInHanded_of_change (C := Try.checked) own_knob started (by kernel_rfl) Try.func4
    (ChangeSpec.witness6 (enc := enc) (C := Try.checked) false ⟨#[], #[.agg #[.int .i64 0, .slice none 0 0], .agg #[.slice none 0 0, .slice none 0 0]], []⟩ 8 (by kernel_rfl) (by kernel_rfl) (by kernel_rfl) (by kernel_rfl)) ?_
  intro W base args ds gs before hval0 hW hcnd _
  have hval : ∀ (j : Nat) t v, Try.f4.params[j]? = some t → args[j]? = some v → Value.okWide Try.prog W .any base t v := hval0
  refine law_post hW rfl rfl (fun H ds hl => by match ds, hl with | [_, _], _ => rfl) (by kernel_rfl) (of_decide_eq_true (by kernel_rfl)) Try.underlying4 ?_
  obtain ⟨p, q, hA0, _, _, _, _⟩ := hW
  have hA : DataW.TrodAll enc Try.prog W 0 (fun _ => true) true Try.f4.params.toList args.toList ds p := hA0
  rw [Try.params4] at hA hval
  clear hA0 hval0
  obtain ⟨v0, v1, d0, d1, p0, p1, rfl, rfl, rfl, h0, h1⟩ := trodAll_two hA
  obtain ⟨cs, rfl, hsz⟩ := okWide_struct Try.underlying38 (hval 0 38 v0 rfl rfl)
  obtain ⟨cs1, rfl, hsz1⟩ := okWide_struct Try.underlying40 (hval 1 40 v1 rfl rfl)
  obtain ⟨fuel, h0⟩ := h0
  obtain ⟨fuel1, h1⟩ := h1
  obtain ⟨⟨m, nil, es⟩, ⟨_, hl⟩, hg⟩ := rdr_graph _ _ _ h0
  obtain ⟨⟨⟨n1, xs⟩, ⟨n2, ys⟩⟩, ⟨hl1, hl2⟩, hd⟩ := rdr_disk _ _ _ h1
  exact law_calls (law_recX m nil n1 n2 es xs ys (by simp only [maxLen] at hl; omega) (by simp only [maxLen] at hl1; omega) (by simp only [maxLen] at hl2; omega)) (Glob.triv _ _) ⟨CsP.agg hg, CsP.agg hd, trivial⟩
theorem fnExactRecoverState_holds : Rows.FnExactRecoverStateSaid :=
  OpenClaim.holds_of_wide 4 Try.f4 rfl rfl rfl rfl rfl rfl rfl ⟨rfl, rfl, rfl, rfl, rfl⟩ rfl rfl rfl rfl rfl (by kernel_rfl) Try.func4 (by kernel_rfl)
    (of_decide_eq_true (by kernel_rfl)) (by unfold Func.isWrapper;first|(rw [if_pos (by decide +kernel)];kernel_rfl)|(rw [if_neg (by decide +kernel)];exact ⟨rfl, rfl⟩))
    (fun os started H enc _ => fnExactRecoverState_lifted os started H enc)
end Go.Proofs.Ytmkecjamfippfaa
