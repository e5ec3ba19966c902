/- Graphs by states: what l20Graph draws. No statement of the seat is proved here. -/
import Derived.Lib.Hide
import Derived.Test.YtlobefglhppbdaaGreatDoorCtTy
import Derived.Test.YtlobefglhppbdaaGreatDoorCtAAdd
set_option linter.unusedSimpArgs false
set_option linter.unusedVariables false
set_option maxRecDepth 100000
set_option maxHeartbeats 4000000
namespace Go.Proofs.YtlobefglhppbdaaGreatDoor.Abs
open Go.RowKit
open R (val row ref)
noncomputable def edgV (bs : List Int) (p m : Int) : E3 := (pickV bs p (if 1 < m then m else 1), pickV bs (p + 1) (if 1 < m then m else 1), dV [pickV bs (p + 1 + 1) 6, 0, 1, 20] (pickV bs (p + 1 + 1 + 1) 4))
theorem allN_ints (xs : List Int) : AllN 1 (ints xs) := fun i e he => by
  obtain ⟨x, _, rfl⟩ := List.mem_map.1 (List.mem_of_getElem? he)
  rfl
theorem f_l20Edge {bs : List Int} (p m : Int) (hm : -100 ≤ m ∧ m ≤ 100) (hB : Byte bs) (hl : bs.length ≤ 2000) (hp0 : 0 ≤ p) (hp : p ≤ 900000) (m1 m2 nb : Bool) :
    FnS Tryz.prog 31 [.one (.ptr 1000000000 0 0 0), .one (.r false (int m))] (rdH 1000000000 m1 m2 nb bs p) (.agg [.r true (int (edgV bs p m).1), .r true (int (edgV bs p m).2.1), .r true (int (edgV bs p m).2.2)]) (rdH 1000000000 m1 true nb bs (p + 1 + 1 + 1 + 1)) := by
  have K1 := f_pick p (if 1 < m then m else 1) hB hl hp0 oM m1 m2 nb
  have K2 := f_pick (p + 1) (if 1 < m then m else 1) hB hl oM oM m1 true nb
  have K3 := f_pick (p + 1 + 1) 6 hB hl oM oM m1 true nb
  have K4 := f_pick (p + 1 + 1 + 1) 4 hB hl oM oM m1 true nb
  have h4 := pickV_in bs (p + 1 + 1 + 1) 4
  unfold edgV
  generalize pickV bs (p + 1 + 1 + 1) 4 = v4 at *
  generalize pickV bs (p + 1 + 1) 6 = v3 at *
  generalize hM : (if 1 < m then m else 1) = M at *
  generalize pickV bs (p + 1) M = v2 at *
  generalize pickV bs p M = v1 at *
  unfold rdH at *
  dsimp only
  refine fnS_of (l := [.cell 4 50]) Tryz.func31 kRf rfl Tryz.ntmps31 rfl rfl ?_; simp only [dEnv, Nat.reduceAdd]
  repeat' (first|refine wk ?_|((first|refine' w_q rfl rfl ?xa rfl ?_|refine' v_q rfl rfl ?xa rfl ?_|refine' w_yes rfl rfl (lookO_spec rfl) rfl ?xa rfl ?_|refine' v_yes rfl rfl (lookO_spec rfl) rfl ?xa rfl ?_);case xa => first|exact k_indexO tbOk rfl rfl rfl rfl oM (by simp only [List.length_cons, List.length_nil];omega)|exact k_loadI (xs := [v3, 0, 1, 20]) tbOk rfl rfl rfl rfl (by simp only [List.length_cons, List.length_nil];omega))|((first|refine' w_e rfl ?xa ?xb ?xc ?xe ?_|refine' v_e rfl ?xa ?xb ?xc ?xe ?_);(case xa => first|exact at_dst 8 rfl (e_callS [] K1 rfl ⟨asD_ren (evO_spec rfl), by rw [evO_spec rfl, hM];exact asD_r rfl, trivial⟩ sbH rfl)|exact at_dst 12 rfl (e_callS [] K2 rfl ⟨asD_ren (evO_spec rfl), by rw [evO_spec rfl, hM];exact asD_r rfl, trivial⟩ sbH rfl)|exact e_callS [] K3 rfl ⟨asD_ren (evO_spec rfl), asE, trivial⟩ sbH rfl|exact e_callS [] K4 rfl ⟨asD_ren (evO_spec rfl), asE, trivial⟩ sbH rfl|exact e_build [.tmp 14, .const (.int .i64 0), .const (.int .i64 1), .const (.int .i64 20)] tlOk rfl rfl rfl rfl rfl rfl (allN_ints [v3, 0, 1, 20]) (by simp));(case xb|xc|xe=>rfl);try refine wkD ?_)|(refine wkB ?_ ?_<;>intro hg_<;>try exact wkX)|fail)
  all_goals first
    | exact ret_D [] rfl sbH (retD_cell rfl rfl tyF0 rfl rfl rfl (imp_refl (by simp only [Nat.zero_add];rfl)))
    | fail
noncomputable def esAt (bs : List Int) (p m : Int) : Nat → List E3
  | 0 => []
  | i + 1 => (addE m (esAt bs p m i) (edgV bs (p + 4 * (i : Int)) m)).1
theorem esAt_ok (bs : List Int) (p : Int) {m : Int} (h0 : 0 ≤ m) (h1 : m ≤ 16) : ∀ i, gOk m (esAt bs p m i) = true
  | 0 => gOk_nil h0 h1
  | i + 1 => addE_ok (esAt_ok bs p h0 h1 i) _
theorem byte_take2 {bs : List Int} (h : Byte bs) (n : Nat) : Byte (bs.take n) := fun z hz => h z (List.mem_of_mem_take hz)
end Go.Proofs.YtlobefglhppbdaaGreatDoor.Abs
