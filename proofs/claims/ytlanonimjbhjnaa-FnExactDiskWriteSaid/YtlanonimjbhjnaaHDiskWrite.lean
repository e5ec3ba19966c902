/- For every disk and every record, the law FnExactDiskWrite returns true and leaves its arguments as they were; no condition. -/
import Derived.Test.YtlanonimjbhjnaaRows
import Derived.WalkKit
import Derived.ProofKit
import Derived.Lib.SmallJoins
import Derived.Handy
import Derived.Test.YtlanonimjbhjnaaLib
import Derived.Test.YtlanonimjbhjnaaOwn
import Derived.Test.YtlanonimjbhjnaaFrame
import Derived.Test.YtlanonimjbhjnaaReads
import Derived.Test.YtlanonimjbhjnaaReadsD
import Derived.Test.YtlanonimjbhjnaaLDisk2
set_option linter.unusedSimpArgs false
set_option linter.unusedVariables false
namespace Go.Proofs.Ytlanonimjbhjnaa
open Go.ChangeShapes Go.WideShapes Go.ChangeAt Go.RowKit

set_option maxRecDepth 100000 in
theorem fnExactDiskWrite_lifted (os : Os) (started : os.Started) (H : Type) (enc : TypeId × Value → H) :
    ReturnsInHanded {} Try.checked os 12 .any (Rows.fnExactDiskWriteSpec.pre6 enc Try.prog Try.f12 Rows.fnExactDiskWriteRow.domain false) (Rows.fnExactDiskWriteSpec.post enc Try.prog Try.f12 false true false false) := by
  refine returnsInHanded_of_change (C := Try.checked) own_knob started (by kernel_rfl) Try.func12
    (ChangeSpec.witness6 (enc := enc) (C := Try.checked) false ⟨#[], #[.agg #[.slice none 0 0, .slice none 0 0], .slice none 0 0], []⟩ 8 (by kernel_rfl) (by kernel_rfl) (by kernel_rfl) (by kernel_rfl)) ?_
  intro W base args ds gs before hval0 hW hcnd _
  have hval : ∀ (j : Nat) t v, Try.f12.params[j]? = some t → args[j]? = some v → Value.okWide Try.prog W .any base t v := hval0
  refine law_post hW rfl rfl (fun H ds hl => by match ds, hl with | [_, _], _ => rfl) (by kernel_rfl) (of_decide_eq_true (by kernel_rfl)) Try.underlying4 ?_
  obtain ⟨p, q, hA0, _, _, _, _⟩ := hW
  have hA : DataW.TrodAll enc Try.prog W 0 (fun _ => true) true Try.f12.params.toList args.toList ds p := hA0
  rw [Try.params12] at hA hval
  clear hA0 hval0

  obtain ⟨v0, v1, d0, d1, p0, p1, rfl, rfl, rfl, h0, h1⟩ := trodAll_two hA
  obtain ⟨cs, rfl, hsz⟩ := okWide_struct Try.underlying61 (hval 0 61 v0 rfl rfl)
  obtain ⟨a0, len, cap, rfl⟩ := okWide_slice Try.underlying32 (hval 1 32 v1 rfl rfl)
  obtain ⟨fuel, h⟩ := h0
  obtain ⟨fuel1, h1⟩ := h1
  obtain ⟨a1, c1, xs, a2, c2, ys, hcs, s1, s2, m1, m2⟩ := rd_disk h
  obtain ⟨ao, c, bs, hcs1, s3, _, m3⟩ := rd_slI h1
  have hcs' : cs = #[.slice a1 xs.length c1, .slice a2 ys.length c2] := by rw [← Array.toList_inj]; exact hcs
  subst hcs'
  simp only [Value.cells, List.cons.injEq, and_true, Value.slice.injEq] at hcs1
  obtain ⟨rfl, rfl, rfl⟩ := hcs1
  exact fnExactDiskWrite a1 a2 a0 c1 c2 cap xs ys bs W m1 m2 m3 s1 s2 s3

theorem fnExactDiskWrite_holds : Rows.FnExactDiskWriteSaid :=
  OpenClaim.holds_of_wide 12 Try.f12 rfl rfl rfl rfl rfl rfl rfl ⟨rfl, rfl, rfl, rfl, rfl⟩ rfl rfl rfl rfl rfl (by kernel_rfl) Try.func12 (by kernel_rfl)
    (of_decide_eq_true (by kernel_rfl)) (by unfold Func.isWrapper; first | (rw [if_pos (by decide +kernel)]; kernel_rfl) | (rw [if_neg (by decide +kernel)]; exact ⟨rfl, rfl⟩))
    (fun os started H enc _ => fnExactDiskWrite_lifted os started H enc)

end Go.Proofs.Ytlanonimjbhjnaa
