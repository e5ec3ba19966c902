/- Graphs by states: DropVertex of both texts, copies, sameGraph. No statement of the seat is proved here. -/
import Derived.Lib.Hide
import Derived.Laws.StructEq
import Derived.Test.YtlobefglhppbdaaGreatDoorCtTy
import Derived.Test.YtlobefglhppbdaaGreatDoorCtGNear
import Derived.Test.YtlobefglhppbdaaGreatDoorCtAHopJ
import Derived.Test.YtlobefglhppbdaaGreatDoorCtAGrH
import Derived.Test.YtlobefglhppbdaaGreatDoorCtALawG
set_option linter.unusedSimpArgs false
set_option linter.unusedVariables false
set_option maxRecDepth 100000
set_option maxHeartbeats 4000000
namespace Go.Proofs.YtlobefglhppbdaaGreatDoor.Abs
open Go.RowKit
open R (val row ref)
theorem f_implNearOf (m : Int) (nil : Bool) (es : List E3) (v : Int) (hg : gOk m es = true) (hv : hasV m v = true) : Fn Tryz.prog 11 [graphP m nil es, iP v] (.v (.one (row (decide ((nearM m.toNat es).getD v.toNat 0 = 0)) 1 (ints (bitsR ((nearM m.toNat es).getD v.toNat 0)))))) := by
  have hl40 := gOk_len hg
  have KG := f_implGraphValid m nil es (by simp only [maxLen]; omega)
  have KH := f_implHasH m nil es v
  have hm := gOk_m hg
  have hI := gOk_edges hg
  have hvv : 0 ≤ v ∧ v < m := by unfold hasV at hv; simp at hv; omega
  rw [hg] at KG
  rw [hv] at KH
  obtain ⟨M, rfl⟩ : ∃ M : Nat, m = (M : Int) := ⟨m.toNat, by omega⟩
  rw [Int.toNat_natCast]
  have hgn : ∀ e ∈ es, (0 ≤ e.1 ∧ e.1 < (M : Int)) ∧ (0 ≤ e.2.1 ∧ e.2.1 < (M : Int)) := fun e he => ⟨(hI e he).1, (hI e he).2.1⟩
  have KN := f_nearMasks M nil es oM oM hgn
  have hne := nextM_ok (m := M) oM hgn
  have hnm := near_ok M oM es hgn (nextM M es) hne.1 hne.2
  obtain ⟨hnl, hsm⟩ : (nearM M es).length = M ∧ Sm (nearM M es) := hnm
  have KL := f_list ((nearM M es).getD v.toNat 0) (hsm _)
  generalize nearM M es = NM at *
  have hnlm : (NM.map mP).length = M := by rw [List.length_map]; exact hnl
  have hx : 0 + v.toNat = v.toNat := Nat.zero_add _
  clear hgn hne hI hg hv
  refine fn_of (l := [.tmp 4]) Tryz.func11 kRf rfl Tryz.ntmps11 rfl rfl ?_; simp only [argEnv, P0.d, Nat.reduceAdd, graphP, List.map_cons, List.map_nil]
  repeat' (first|refine wk ?_|((first|refine' w_q rfl rfl ?xa rfl ?_|refine' v_q rfl rfl ?xa rfl ?_|refine' w_yes rfl rfl (lookO_spec rfl) rfl ?xa rfl ?_|refine' v_yes rfl rfl (lookO_spec rfl) rfl ?xa rfl ?_);case xa => first|exact k_call KG rfl ⟨asA_agg (evO_spec rfl) ⟨cAr_r, cAr_r, trivial⟩, trivial⟩|exact k_call KH rfl ⟨asA_agg (evO_spec rfl) ⟨cAr_r, cAr_r, trivial⟩, asA_r (evO_spec rfl), trivial⟩|exact k_indexO tbOk rfl rfl rfl rfl oM oM|exact k_loadM tbOk rfl rfl rfl rfl oM|exact k_call KL rfl ⟨by rw [evO_spec rfl, hx];exact asArg_r, trivial⟩)|((first|refine' w_e rfl ?xa ?xb ?xc ?xe ?_|refine' v_e rfl ?xa ?xb ?xc ?xe ?_);(case xa => exact e_callO KN rfl rfl ⟨asA_agg (evO_spec rfl) ⟨cAr_r, cAr_r, trivial⟩, trivial⟩);(case xb|xc|xe=>rfl);try refine wkD ?_)|(refine wkB ?_ ?_<;>intro hg_<;>try exact wkX)|fail)
  all_goals first
    | exact ret_tmp rfl (dres_one cres_new)
    | fail
end Go.Proofs.YtlobefglhppbdaaGreatDoor.Abs
