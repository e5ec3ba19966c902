/- Graphs by states: the reference's AddEdge, its row handed over. No statement of the seat is proved here. -/
import Derived.Lib.Hide
import Derived.Test.YtlobefglhppbdaaGreatDoorCtTy
import Derived.Test.YtlobefglhppbdaaGreatDoorCtAbsX
import Derived.Test.YtlobefglhppbdaaGreatDoorCtADrwI
import Derived.Test.YtlobefglhppbdaaGreatDoorCtAGraph
import Derived.Test.YtlobefglhppbdaaGreatDoorCtGAdd
set_option linter.unusedSimpArgs false
set_option linter.unusedVariables false
set_option maxRecDepth 100000
set_option maxHeartbeats 8000000
namespace Go.Proofs.YtlobefglhppbdaaGreatDoor.Abs
open Go.RowKit
open R (val row ref)
theorem edges_app (xs : List E3) (x : E3) : edges (xs ++ [x]) = edges xs ++ [edgeP x] := by unfold edges; rw [List.map_append]; rfl
theorem edges_plain (es : List E3) : ∀ e ∈ edges es, plain1 e = true := fun e he => by
  obtain ⟨x, _, rfl⟩ := List.mem_map.1 he
  rfl
theorem edge1_plain (a b c : Int) : ∀ x ∈ [P0.agg [int a, int b, int c]], plain1 x = true := fun x hx => by
  obtain rfl : x = P0.agg [int a, int b, int c] := by simpa using hx
  rfl
theorem f_ownGraph (m : Int) (nil : Bool) (es : List E3) (hl : es.length ≤ 1048576) : Fn Tryz.prog 41 [graphP m nil es] (.v (graphP m false es)) := by
  have hlen := edges_len es
  refine fn_of (l := [.cell 2 25]) Tryz.func41 kRf rfl Tryz.ntmps41 rfl rfl ?_; simp only [argEnv, P0.d, Nat.reduceAdd, graphP, List.map_cons, List.map_nil]
  repeat' (first|refine wk ?_|((first|refine' w_e rfl ?xa ?xb ?xc ?xe ?_|refine' v_e rfl ?xa ?xb ?xc ?xe ?_);(case xa => first|exact e_build [] tlOk rfl rfl rfl rfl rfl rfl (by simp [AllN]) (by simp)|exact e_append tlOk rfl rfl rfl rfl rfl rfl (slD_plain slD_row (edges_plain _)) rfl (by simp only [maxLen, List.length_nil];omega) (by simp only [List.length_nil];omega));(case xb|xc|xe=>rfl);try refine wkD ?_)|(refine wkB ?_ ?_<;>intro hg_<;>try exact wkX)|fail)
  all_goals first
    | exact ret_v (rv_cell rfl rfl tyF0 rfl rfl rfl (dres_agg (by refine ⟨cres_val, ?_, trivial⟩ <;> exact cres_own0 (lookHO_spec rfl) (by simp only [List.length_nil, Nat.zero_add, List.nil_append]))))
    | fail
theorem gvar2 {E : TypeId} {a b a' b' : Cell} (h1 : a = a') (h2 : b = b') : Ob.var E [a, b] = .var E [a', b'] := by rw [h1, h2]
theorem list2 {α : Type} {a b a' b' : α} (h1 : a = a') (h2 : b = b') : [a, b] = [a', b'] := by rw [h1, h2]
theorem cAr_ownE {H : Nat → Option Ob} {k n sz : Nat} {E : TypeId} {els els' : List P0} {new : Bool} (hk : H k = some (.sl E sz new els)) (hn : n = els.length) (he : els = els') : CAr H (.own k 0 n sz) (row false sz els') := he ▸ cAr_own0 hk hn
theorem f_specAddEdge (m : Int) (nil : Bool) (es : List E3) (e : E3) (hg : gOk m es = true) :
    FnS Tryz.prog 30 [.agg [.r false (int m), .r false (row nil 3 (edges es))], .agg [.r false (int e.1), .r false (int e.2.1), .r false (int e.2.2)]] [] (.tups [(true, [.r true (int m), .own 2000001 0 (addE m es e).1.length 3]), (false, [.r true (bool (addE m es e).2)])]) [(2000001, .sl 50 3 true (edges (addE m es e).1))] := by
  have hl40 := gOk_len hg
  have K1 := f_ownGraph m nil es oM
  have K2 := f_specGraphValid m false es (by simp only [maxLen]; omega)
  rw [hg] at K2
  have hN := ins_len e es
  have K3 := f_specGraphValid m false (ins e es) (by simp only [maxLen]; omega)
  have hlen := edges_len es
  have hlN := edges_len (ins e es)
  unfold addE
  obtain ⟨e1, e2, e3⟩ := e
  dsimp only
  generalize gOk m (ins (e1, e2, e3) es) = b at *
  obtain ⟨X, hX⟩ : ∃ X : List E3, X = ins (e1, e2, e3) es := ⟨_, rfl⟩
  rw [← hX] at K3 hN hlN ⊢
  refine fnS_of (l := [.cell 4 25, .tmp 5]) Tryz.func30 kRf rfl Tryz.ntmps30 rfl rfl ?_; simp only [dEnv, Nat.reduceAdd]
  repeat' (first|refine wk ?_|((first|refine' w_q rfl rfl ?xa rfl ?_|refine' v_q rfl rfl ?xa rfl ?_|refine' w_yes rfl rfl (lookO_spec rfl) rfl ?xa rfl ?_|refine' v_yes rfl rfl (lookO_spec rfl) rfl ?xa rfl ?_);case xa => first|exact k_call K1 rfl ⟨asA_agg (evO_spec rfl) ⟨cAr_r, cAr_r, trivial⟩, trivial⟩|exact k_call K2 rfl ⟨asA_agg (evO_spec rfl) ⟨cAr_r, cAr_r, trivial⟩, trivial⟩)|(refine wkB ?_ ?_<;>intro hg_<;>try exact wkX)|fail)
  obtain ⟨S0, hS0⟩ : ∃ S0 : St, S0 = mkS 82 [(8, .one (.r true (int 0))), (7, .one (.r true (bool false))), (6, .one (.ptr 6 0 0 0)), (4, .one (.ptr 4 0 0 0)), (3, .one (.ptr 3 0 0 0)), (2, .one (.ptr 2 0 0 0))] [(6, .var 25 [.r true (int m), .r true (row true 0 [])]), (4, .var 25 [.r true (int 0), .r true (row true 0 [])]), (3, .var 50 [.r false (int e1), .r false (int e2), .r false (int e3)]), (2, .var 25 [.r true (int m), .r true (row false 3 (edges es))])] := ⟨_, rfl⟩
  obtain ⟨S1, hS1⟩ : ∃ S1 : Nat → St, ∀ k : Nat, S1 k = mkS 82 [(8, .one (.r true (int ((k + 1 : Nat) : Int)))), (7, .one (.r true (bool (insF (e1, e2, e3) (es.take (k + 1))).2))), (6, .one (.ptr 6 0 0 0)), (4, .one (.ptr 4 0 0 0)), (3, .one (.ptr 3 0 0 0)), (2, .one (.ptr 2 0 0 0))] [(6, .var 25 [.r true (int m), .own 100 0 (insF (e1, e2, e3) (es.take (k + 1))).1.length 3]), (100, .sl 50 3 true (edges (insF (e1, e2, e3) (es.take (k + 1))).1)), (4, .var 25 [.r true (int 0), .r true (row true 0 [])]), (3, .var 50 [.r false (int e1), .r false (int e2), .r false (int e3)]), (2, .var 25 [.r true (int m), .r true (row false 3 (edges es))])] := ⟨_, fun _ => rfl⟩
  obtain ⟨F, hF0, hF1⟩ : ∃ F : Nat → St, F 0 = S0 ∧ ∀ k : Nat, F (k + 1) = S1 k := ⟨fun k => Nat.rec S0 (fun k _ => S1 k) k, rfl, fun _ => rfl⟩
  refine aw_loopI (fun k : Nat => k ≤ es.length) F (fun k => es.length - k) 0 (Nat.zero_le _) ?_ ?_
  · rw [hF0, hS0]
    (refine weak_ren [] rfl ?_ ?_ <;>exact wkW)
  · intro k hk
    cases k with
    | zero =>
      rw [hF0, hS0]
      by_cases hlt : 0 < es.length
      · have hix := edges_at hlt
        have hs := insF_take (e := (e1, e2, e3)) hlt
        have hw : IntKind.i64.wrap ((0 : Int) + 1) = ((0 + 1 : Nat) : Int) := by decide
        have hrow : (1 : Nat) = 1 := rfl
        have hbnd : (1 : Nat) ≤ 1 := Nat.le_refl _
        rw [show insF (e1, e2, e3) (es.take 0) = ([], false) by rfl] at hs
        have hfin : ∀ s' : St, Weak s' (S1 0) → ∃ x', x' ≤ es.length ∧ Weak s' (F x') ∧ es.length - x' < es.length - 0 := fun s' h => ⟨1, hlt, by rw [hF1]; exact h, by omega⟩
        generalize es[0] = o at *
        obtain ⟨o1, o2, o3⟩ := o
        have K4 := f_l4Before (o1, o2, o3) (e1, e2, e3)
        rw [hS1] at hfin
        rw [hs] at hfin
        clear hs hF0 hF1 hS0 hS1 K1 K2 K3
        unfold insStep at hfin
        generalize before (o1, o2, o3) (e1, e2, e3) = bf at *
        dsimp only at hfin
        cases bf <;> by_cases hq1 : o1 = e1 <;> by_cases hq2 : o2 = e2
        all_goals
          (try subst hq1); (try subst hq2)
          (try simp only [hq1] at hfin); (try simp only [hq2] at hfin)
          simp only [and_self, and_true, true_and, and_false, false_and, if_true, if_false, reduceCtorEq, Bool.true_eq_false, Bool.false_eq_true] at hfin
          repeat' (first|refine wk ?_|((first|refine' w_q rfl rfl ?xa rfl ?_|refine' v_q rfl rfl ?xa rfl ?_|refine' w_yes rfl rfl (lookO_spec rfl) rfl ?xa rfl ?_|refine' v_yes rfl rfl (lookO_spec rfl) rfl ?xa rfl ?_);case xa => first|exact k_index tbOk rfl rfl rfl rfl oM (by exact hix)|exact k_call K4 rfl ⟨asA_agg (evO_spec rfl) ⟨cAr_r, cAr_r, cAr_r, trivial⟩, asA_agg (evO_spec rfl) ⟨cAr_r, cAr_r, cAr_r, trivial⟩, trivial⟩)|((first|refine' w_e rfl ?xa ?xb ?xc ?xe ?_|refine' v_e rfl ?xa ?xb ?xc ?xe ?_);(case xa => first|exact e_build [.tmp 41] tlOk rfl rfl rfl rfl rfl rfl (allN_one rfl) (by simp)|exact e_build [.tmp 59] tlOk rfl rfl rfl rfl rfl rfl (allN_one rfl) (by simp)|exact e_append_nil tlOk rfl rfl rfl rfl rfl (slD_plain (slD_own (lookHO_spec rfl) rfl) (edge1_plain _ _ _)) (by simp) (by simp only [maxLen, List.length_cons, List.length_nil];omega) (by simp only [List.length_cons, List.length_nil];omega)|exact e_append tlOk rfl rfl rfl rfl rfl rfl (slD_plain (slD_own (lookHO_spec rfl) rfl) (edge1_plain _ _ _)) (by first|rfl|exact hrow|(simp only [List.length_append, List.length_cons, List.length_nil];done)|(simp only [List.length_append, List.length_cons, List.length_nil] at *;omega)) (by simp only [maxLen, List.length_cons, List.length_nil, List.length_append] at *;omega) (by simp only [List.length_cons, List.length_nil, List.length_append] at *;omega));(case xb|xc|xe=>rfl);try refine wkD ?_)|(refine wkB ?_ ?_<;>intro hg_<;>try exact wkX)|fail)
          all_goals first
            | (exfalso;first|contradiction|omega|(simp at *;done)|(simp at *;omega))
            | (refine hfin _ ?_
               first
                 | ((refine weak_ren [(100, 61)] rfl ?_ ?_ <;> repeat' (first|refine wkS ?_ ?_|exact wkE|exact d_int hw|exact gvar2 rfl (cell_own (by first|rfl|(simp only [List.length_cons, List.length_nil, List.length_append, edges_len, Nat.zero_add];done)|(simp only [List.length_cons, List.length_nil, List.length_append, edges_len, Nat.zero_add] <;> omega)))|exact ob_sl rfl (by rw [edges_app, edges_app] <;> rfl)|exact ob_sl rfl (by rw [edges_app] <;> rfl)));done)
                 | ((refine weak_ren [(100, 43)] rfl ?_ ?_ <;> repeat' (first|refine wkS ?_ ?_|exact wkE|exact d_int hw|exact gvar2 rfl (cell_own (by first|rfl|(simp only [List.length_cons, List.length_nil, List.length_append, edges_len, Nat.zero_add];done)|(simp only [List.length_cons, List.length_nil, List.length_append, edges_len, Nat.zero_add] <;> omega)))|exact ob_sl rfl (by rw [edges_app] <;> rfl)));done))
            | fail
      · have hes : es = [] := List.eq_nil_of_length_eq_zero oM
        have hE : [P0.agg [int e1, int e2, int e3]] = edges X := by rw [hX, hes]; rfl
        have hE2 := hE
        have hrow : (1 : Nat) = 1 := rfl
        clear hF0 hF1 hS0 hS1 K1 K2 hX
        cases b
        all_goals
          (try simp only [if_true, if_false, Bool.false_eq_true])
          repeat' (first|refine wk ?_|((first|refine' w_q rfl rfl ?xa rfl ?_|refine' v_q rfl rfl ?xa rfl ?_|refine' w_yes rfl rfl (lookO_spec rfl) rfl ?xa rfl ?_|refine' v_yes rfl rfl (lookO_spec rfl) rfl ?xa rfl ?_);case xa => first|exact k_call K3 rfl ⟨asA_agg (evO_spec rfl) ⟨cAr_r, cAr_ownE (lookHO_spec rfl) (by first|rfl|exact hrow|(simp only [List.length_append, List.length_cons, List.length_nil];done)) hE, trivial⟩, trivial⟩|exact k_call K3 rfl ⟨asA_agg (evO_spec rfl) ⟨cAr_r, cAr_ownE (lookHO_spec rfl) (by first|rfl|exact hrow|(simp only [List.length_append, List.length_cons, List.length_nil];done)) hE, trivial⟩, trivial⟩)|((first|refine' w_e rfl ?xa ?xb ?xc ?xe ?_|refine' v_e rfl ?xa ?xb ?xc ?xe ?_);(case xa => first|exact e_build [.tmp 67] tlOk rfl rfl rfl rfl rfl rfl (allN_one rfl) (by simp)|exact e_build [] tlOk rfl rfl rfl rfl rfl rfl (by simp [AllN]) (by simp)|exact e_append_nil tlOk rfl rfl rfl rfl rfl (slD_plain (slD_own (lookHO_spec rfl) rfl) (edge1_plain _ _ _)) (by simp) (by simp only [maxLen, List.length_cons, List.length_nil];omega) (by simp only [List.length_cons, List.length_nil];omega)|exact e_append tlOk rfl rfl rfl rfl rfl rfl (slD_plain (slD_own (lookHO_spec rfl) rfl) (edge1_plain _ _ _)) hrow (by simp only [maxLen, List.length_cons, List.length_nil, List.length_append] at *;omega) (by simp only [List.length_cons, List.length_nil, List.length_append] at *;omega)|exact e_append tlOk rfl rfl rfl rfl rfl rfl (slD_plain slD_row (edges_plain _)) rfl (by simp only [maxLen, List.length_nil];omega) (by simp only [List.length_nil];omega));(case xb|xc|xe=>rfl);try refine wkD ?_)|(refine wkB ?_ ?_<;>intro hg_<;>try exact wkX)|fail)
          all_goals first
            | (exfalso;first|contradiction|omega|(simp at *;done)|(simp at *;omega))
            | exact ret_D [(2000001, 69)] rfl (by (repeat' (first|exact trivial|refine subHR_cons rfl ?_ ?_|rfl|exact ob_sl rfl hE))) (retD_two (x := (true, _)) (y := (false, [_])) (ret1_cell rfl rfl tyF0 rfl rfl rfl) rfl (ret1_tmp rfl) rfl (imp_refl (tups2 (list2 rfl (cell_own (by have h := congrArg List.length hE;simp only [List.length_append, List.length_cons, List.length_nil, edges_len] at *;omega))) rfl)))
            | exact ret_D [(2000001, 100)] rfl (by (repeat' (first|exact trivial|refine subHR_cons rfl ?_ ?_|rfl|exact ob_sl rfl hE))) (retD_two (x := (true, _)) (y := (false, [_])) (ret1_cell rfl rfl tyF0 rfl rfl rfl) rfl (ret1_tmp rfl) rfl (imp_refl (tups2 (list2 rfl (cell_own (by have h := congrArg List.length hE;simp only [List.length_append, List.length_cons, List.length_nil, edges_len] at *;omega))) rfl)))
            | exact ret_D [(2000001, 79)] rfl sbH (retD_two (x := (true, _)) (y := (false, [_])) (ret1_cell rfl rfl tyF0 rfl rfl rfl) rfl (ret1_tmp rfl) rfl (imp_refl (tups2 (list2 rfl (cell_own (by simp only [List.length_append, List.length_cons, List.length_nil, edges_len] at *;omega))) rfl)))
            | fail
    | succ k =>
      rw [hF1, hS1]
      by_cases hlt : k + 1 < es.length
      · have hix := edges_at hlt
        have hs := insF_take (e := (e1, e2, e3)) hlt
        have hw : IntKind.i64.wrap (((k + 1 : Nat) : Int) + 1) = ((k + 1 + 1 : Nat) : Int) := by rw [IntWalk.i64_in _ oM]; omega
        have hfin : ∀ s' : St, Weak s' (S1 (k + 1)) → ∃ x', x' ≤ es.length ∧ Weak s' (F x') ∧ es.length - x' < es.length - (k + 1) := fun s' h => ⟨k + 1 + 1, hlt, by rw [hF1]; exact h, by omega⟩
        have hbnd := (insF_len (e1, e2, e3) (es.take (k + 1))).1
        rw [List.length_take] at hbnd
        have hbnd : (insF (e1, e2, e3) (es.take (k + 1))).1.length ≤ 42 := by split at hbnd <;> omega
        generalize es[k + 1] = o at *
        generalize insF (e1, e2, e3) (es.take (k + 1)) = r at *
        obtain ⟨xs, pl⟩ := r
        dsimp only at hbnd ⊢
        have hrow := (edges_len xs).symm
        obtain ⟨o1, o2, o3⟩ := o
        have K4 := f_l4Before (o1, o2, o3) (e1, e2, e3)
        rw [hS1] at hfin
        rw [hs] at hfin
        clear hs hF0 hF1 hS0 hS1 K1 K2 K3
        unfold insStep at hfin
        generalize before (o1, o2, o3) (e1, e2, e3) = bf at *
        dsimp only at hfin
        cases pl <;> cases bf <;> by_cases hq1 : o1 = e1 <;> by_cases hq2 : o2 = e2
        all_goals
          (try subst hq1); (try subst hq2)
          (try simp only [hq1] at hfin); (try simp only [hq2] at hfin)
          simp only [and_self, and_true, true_and, and_false, false_and, if_true, if_false, reduceCtorEq, Bool.true_eq_false, Bool.false_eq_true] at hfin
          repeat' (first|refine wk ?_|((first|refine' w_q rfl rfl ?xa rfl ?_|refine' v_q rfl rfl ?xa rfl ?_|refine' w_yes rfl rfl (lookO_spec rfl) rfl ?xa rfl ?_|refine' v_yes rfl rfl (lookO_spec rfl) rfl ?xa rfl ?_);case xa => first|exact k_index tbOk rfl rfl rfl rfl oM (by exact hix)|exact k_call K4 rfl ⟨asA_agg (evO_spec rfl) ⟨cAr_r, cAr_r, cAr_r, trivial⟩, asA_agg (evO_spec rfl) ⟨cAr_r, cAr_r, cAr_r, trivial⟩, trivial⟩)|((first|refine' w_e rfl ?xa ?xb ?xc ?xe ?_|refine' v_e rfl ?xa ?xb ?xc ?xe ?_);(case xa => first|exact e_build [.tmp 41] tlOk rfl rfl rfl rfl rfl rfl (allN_one rfl) (by simp)|exact e_build [.tmp 59] tlOk rfl rfl rfl rfl rfl rfl (allN_one rfl) (by simp)|exact e_append_nil tlOk rfl rfl rfl rfl rfl (slD_plain (slD_own (lookHO_spec rfl) rfl) (edge1_plain _ _ _)) (by simp) (by simp only [maxLen, List.length_cons, List.length_nil];omega) (by simp only [List.length_cons, List.length_nil];omega)|exact e_append tlOk rfl rfl rfl rfl rfl rfl (slD_plain (slD_own (lookHO_spec rfl) rfl) (edge1_plain _ _ _)) (by first|rfl|exact hrow|(simp only [List.length_append, List.length_cons, List.length_nil];done)|(simp only [List.length_append, List.length_cons, List.length_nil] at *;omega)) (by simp only [maxLen, List.length_cons, List.length_nil, List.length_append] at *;omega) (by simp only [List.length_cons, List.length_nil, List.length_append] at *;omega));(case xb|xc|xe=>rfl);try refine wkD ?_)|(refine wkB ?_ ?_<;>intro hg_<;>try exact wkX)|fail)
          all_goals first
            | (exfalso;first|contradiction|omega|(simp at *;done)|(simp at *;omega))
            | (refine hfin _ ?_
               first
                 | ((refine weak_ren [(100, 61)] rfl ?_ ?_ <;> repeat' (first|refine wkS ?_ ?_|exact wkE|exact d_int hw|exact gvar2 rfl (cell_own (by first|rfl|(simp only [List.length_cons, List.length_nil, List.length_append, edges_len, Nat.zero_add];done)|(simp only [List.length_cons, List.length_nil, List.length_append, edges_len, Nat.zero_add] <;> omega)))|exact ob_sl rfl (by rw [edges_app, edges_app] <;> rfl)|exact ob_sl rfl (by rw [edges_app] <;> rfl)));done)
                 | ((refine weak_ren [(100, 43)] rfl ?_ ?_ <;> repeat' (first|refine wkS ?_ ?_|exact wkE|exact d_int hw|exact gvar2 rfl (cell_own (by first|rfl|(simp only [List.length_cons, List.length_nil, List.length_append, edges_len, Nat.zero_add];done)|(simp only [List.length_cons, List.length_nil, List.length_append, edges_len, Nat.zero_add] <;> omega)))|exact ob_sl rfl (by rw [edges_app] <;> rfl)));done))
            | fail
      · have hke : k + 1 = es.length := by omega
        have hX2 : X = if (insF (e1, e2, e3) (es.take (k + 1))).2 = true then (insF (e1, e2, e3) (es.take (k + 1))).1 else (insF (e1, e2, e3) (es.take (k + 1))).1 ++ [(e1, e2, e3)] := by rw [hX, hke, List.take_length]; rfl
        have hbnd := (insF_len (e1, e2, e3) (es.take (k + 1))).1
        rw [List.length_take] at hbnd
        have hbnd : (insF (e1, e2, e3) (es.take (k + 1))).1.length ≤ 42 := by split at hbnd <;> omega
        clear hF0 hF1 hS0 hS1 K1 K2 hX
        generalize insF (e1, e2, e3) (es.take (k + 1)) = r at *
        obtain ⟨xs, pl⟩ := r
        dsimp only at hbnd hX2 ⊢
        have hrow := (edges_len xs).symm
        have hE : pl = true → edges xs = edges X := fun h => by rw [hX2, if_pos h]
        have hE2 : pl = false → edges xs ++ [P0.agg [int e1, int e2, int e3]] = edges X := fun h => by rw [hX2, if_neg (by rw [h]; simp), edges_app]
        clear hX2
        cases b <;> cases pl
        all_goals
          (try simp only [if_true, if_false, Bool.false_eq_true])
          repeat' (first|refine wk ?_|((first|refine' w_q rfl rfl ?xa rfl ?_|refine' v_q rfl rfl ?xa rfl ?_|refine' w_yes rfl rfl (lookO_spec rfl) rfl ?xa rfl ?_|refine' v_yes rfl rfl (lookO_spec rfl) rfl ?xa rfl ?_);case xa => first|exact k_call K3 rfl ⟨asA_agg (evO_spec rfl) ⟨cAr_r, cAr_ownE (lookHO_spec rfl) (by first|rfl|exact hrow|(simp only [List.length_append, List.length_cons, List.length_nil];done)) (hE2 rfl), trivial⟩, trivial⟩|exact k_call K3 rfl ⟨asA_agg (evO_spec rfl) ⟨cAr_r, cAr_ownE (lookHO_spec rfl) (by first|rfl|exact hrow|(simp only [List.length_append, List.length_cons, List.length_nil];done)) (hE rfl), trivial⟩, trivial⟩)|((first|refine' w_e rfl ?xa ?xb ?xc ?xe ?_|refine' v_e rfl ?xa ?xb ?xc ?xe ?_);(case xa => first|exact e_build [.tmp 67] tlOk rfl rfl rfl rfl rfl rfl (allN_one rfl) (by simp)|exact e_build [] tlOk rfl rfl rfl rfl rfl rfl (by simp [AllN]) (by simp)|exact e_append_nil tlOk rfl rfl rfl rfl rfl (slD_plain (slD_own (lookHO_spec rfl) rfl) (edge1_plain _ _ _)) (by simp) (by simp only [maxLen, List.length_cons, List.length_nil];omega) (by simp only [List.length_cons, List.length_nil];omega)|exact e_append tlOk rfl rfl rfl rfl rfl rfl (slD_plain (slD_own (lookHO_spec rfl) rfl) (edge1_plain _ _ _)) hrow (by simp only [maxLen, List.length_cons, List.length_nil, List.length_append] at *;omega) (by simp only [List.length_cons, List.length_nil, List.length_append] at *;omega)|exact e_append tlOk rfl rfl rfl rfl rfl rfl (slD_plain slD_row (edges_plain _)) rfl (by simp only [maxLen, List.length_nil];omega) (by simp only [List.length_nil];omega));(case xb|xc|xe=>rfl);try refine wkD ?_)|(refine wkB ?_ ?_<;>intro hg_<;>try exact wkX)|fail)
          all_goals first
            | (exfalso;first|contradiction|omega|(simp at *;done)|(simp at *;omega))
            | exact ret_D [(2000001, 69)] rfl (by (repeat' (first|exact trivial|refine subHR_cons rfl ?_ ?_|rfl|exact ob_sl rfl (hE2 rfl)))) (retD_two (x := (true, _)) (y := (false, [_])) (ret1_cell rfl rfl tyF0 rfl rfl rfl) rfl (ret1_tmp rfl) rfl (imp_refl (tups2 (list2 rfl (cell_own (by have h := congrArg List.length (hE2 rfl);simp only [List.length_append, List.length_cons, List.length_nil, edges_len] at *;omega))) rfl)))
            | exact ret_D [(2000001, 100)] rfl (by (repeat' (first|exact trivial|refine subHR_cons rfl ?_ ?_|rfl|exact ob_sl rfl (hE rfl)))) (retD_two (x := (true, _)) (y := (false, [_])) (ret1_cell rfl rfl tyF0 rfl rfl rfl) rfl (ret1_tmp rfl) rfl (imp_refl (tups2 (list2 rfl (cell_own (by have h := congrArg List.length (hE rfl);simp only [List.length_append, List.length_cons, List.length_nil, edges_len] at *;omega))) rfl)))
            | exact ret_D [(2000001, 79)] rfl sbH (retD_two (x := (true, _)) (y := (false, [_])) (ret1_cell rfl rfl tyF0 rfl rfl rfl) rfl (ret1_tmp rfl) rfl (imp_refl (tups2 (list2 rfl (cell_own (by simp only [List.length_append, List.length_cons, List.length_nil, edges_len] at *;omega))) rfl)))
            | fail
end Go.Proofs.YtlobefglhppbdaaGreatDoor.Abs
