/- For every graph and every number, the law FnExactCostParents returns true and leaves its arguments as they were; the table of math/bits stands as the program's text lays it (the card ties it). -/
import Derived.Test.YthjnidcmhegoeaaDoorCards
import Derived.Test.YthjnidcmhegoeaaDoorTie
import Derived.Test.YthjnidcmhegoeaaDoorRows
import Derived.WalkKit
import Derived.ProofKit
import Derived.Lib.SmallJoins
import Derived.Handy
import Derived.Test.YthjnidcmhegoeaaDoorDHopsA
import Derived.Test.YthjnidcmhegoeaaDoorLCostX
set_option linter.unusedSimpArgs false
set_option linter.unusedVariables false
namespace Go.Proofs.YthjnidcmhegoeaaDoor
open Go.ChangeShapes Go.WideShapes Go.ChangeAt Go.RowKit

open Go.ChangeShapes Go.WideShapes Go.ChangeAt Go.RowKit
set_option maxRecDepth 100000 in
theorem fnExactCostParents_lifted (os : Os) (started : os.Started) (H : Type) (enc : TypeId × Value → H) :
    ReturnsInHanded {} Tryd.checked os 6 .any (fun w args => (Rows.fnExactCostParentsSpec.pre enc Tryd.prog Tryd.f6 Rows.fnExactCostParentsRow.domain false w args ∧ laidMetH Tryd.prog tabL w) ∧ sizedMet enc Tryd.prog Tryd.f6 (OpenSpec.ofChange Rows.fnExactCostParentsSpec) false w args) (Rows.fnExactCostParentsSpec.post enc Tryd.prog Tryd.f6 false true false false) := by
  refine returnsInHanded_of_change_and (C := Tryd.checked) (X := fun w _ => laidMetH Tryd.prog tabL w) (fun _ _ _ hh h => h.of_heap hh) own_knob started (by kernel_rfl) Tryd.func6
    (ChangeSpec.witness_shaped (enc := enc) (C := Tryd.checked) (os := os) (X := fun w _ => laidMetH Tryd.prog tabL w) false (World.laidAll Tryd.prog os tabL) #[.agg #[.int .i64 0, .slice none 0 0], .int .i64 0] 8 (World.laidAll_os _ _ _)
      (World.shaped_of_ZipB (by kernel_rfl) (by kernel_rfl)) (by kernel_rfl) (by kernel_rfl) (by kernel_rfl)
      (by rw [MakeChecks.laidMetH_plain _ _ _ (by kernel_rfl)]; exact laidMet_laidAll _ (by kernel_rfl) (by kernel_rfl))) ?_
  intro W base args ds gs before hval0 hW _ _ hL _
  have hval : ∀ (j : Nat) t v, Tryd.f6.params[j]? = some t → args[j]? = some v → Value.okWide Tryd.prog W .any base t v := hval0
  refine law_post hW rfl rfl (fun H ds hl => by match ds, hl with | [_, _], _ => rfl) (by kernel_rfl) (of_decide_eq_true (by kernel_rfl)) Tryd.underlying4 ?_
  obtain ⟨p, q, hA0, _, _, _, _⟩ := hW
  have hA : DataW.TrodAll enc Tryd.prog W 0 (fun _ => true) true Tryd.f6.params.toList args.toList ds p := hA0
  rw [Tryd.params6] at hA hval
  clear hA0 hval0
  obtain ⟨v0, v1, d0, d1, p0, p1, rfl, rfl, rfl, h0, h1⟩ := trodAll_two hA
  obtain ⟨cs, rfl, hsz⟩ := okWide_struct Tryd.underlying42 (hval 0 42 v0 rfl rfl)
  obtain ⟨i, rfl, _, _, _⟩ := open_int Tryd.underlying3 (hval 1 3 v1 rfl rfl) h1
  obtain ⟨fuel, h0⟩ := h0
  obtain ⟨⟨m, nil, es⟩, ⟨_, hl⟩, hg⟩ := Abs.rdr_graph _ _ _ h0
  exact Abs.law_calls (Abs.f_lawCostX m nil es i (by simp only [maxLen] at hl; omega)) (glob_of hL) ⟨Abs.CsP.agg hg, Abs.val_p.2 ⟨rfl, rfl⟩, trivial⟩

theorem fnExactCostParents_row_holds : Rows.FnExactCostParentsSaid :=
  OpenClaim.holds_of_wide 6 Tryd.f6 rfl rfl rfl rfl rfl rfl rfl ⟨rfl, rfl, rfl, rfl, rfl⟩ rfl rfl rfl rfl rfl (by kernel_rfl) Tryd.func6 (by kernel_rfl)
    (of_decide_eq_true (by kernel_rfl)) (by unfold Func.isWrapper; first | (rw [if_pos (by decide +kernel)]; kernel_rfl) | (rw [if_neg (by decide +kernel)]; exact ⟨rfl, rfl⟩))
    (fun os started H enc _ => fnExactCostParents_lifted os started H enc)

theorem fnExactCostParents_holds : Rows.FnExactCostParentsCardSaid :=
  Claim7.holds_tied_plain_at .later [] [.data] true Rows.fnExactCostParentsCard.stood.harness Rows.fnExactCostParentsCard.stood.looks fnExactCostParents_row_holds (fun _ h => by cases h) (by kernel_rfl) (fun _ h => by cases h) fnExactCostParents_row_tie rfl ⟨rfl, rfl⟩ (by kernel_rfl) rfl
    (fun f fn hf hfn => by
      obtain rfl : f = 6 := Option.some.inj ((show Tryd.prog.funcNamed "loop.example/graphcluster/laws.FnExactCostParents" = some 6 by kernel_rfl).symm.trans hf) |>.symm
      obtain rfl : fn = Tryd.f6 := (Option.some.inj (Tryd.func6.symm.trans hfn)).symm
      exact ⟨by kernel_rfl, fun j t ht => by
        rw [Tryd.params6] at ht
        have hm : t ∈ [42, 3] := by simpa using Array.mem_of_getElem? ht
        have hall : ([42, 3].all fun u => !Tryd.prog.wantsStandIn u) = true := by kernel_rfl
        exact (show Tryd.prog.wantsStandIn t = false by simpa using List.all_eq_true.1 hall t hm)⟩)
    (by kernel_rfl)

end Go.Proofs.YthjnidcmhegoeaaDoor
