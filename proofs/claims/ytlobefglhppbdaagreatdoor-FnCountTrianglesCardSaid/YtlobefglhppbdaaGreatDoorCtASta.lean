/- Valid states by states: both texts. No statement of the seat is proved here. -/
import Derived.Lib.Hide
import Derived.Test.YtlobefglhppbdaaGreatDoorCtTy
import Derived.Test.YtlobefglhppbdaaGreatDoorCtAbsX
import Derived.Test.YtlobefglhppbdaaGreatDoorCtAGraph
import Derived.Test.YtlobefglhppbdaaGreatDoorCtGStaCk
import Derived.Test.YtlobefglhppbdaaGreatDoorCtACallV
set_option linter.unusedSimpArgs false
set_option linter.unusedVariables false
set_option maxRecDepth 100000
set_option maxHeartbeats 4000000
namespace Go.Proofs.YtlobefglhppbdaaGreatDoor.Abs
open Go.RowKit
open R (val row ref)
theorem allN_3 {sz : Nat} {a b c : P0} (h1 : a.n = sz) (h2 : b.n = sz) (h3 : c.n = sz) : AllN sz [a, b, c] := fun i x hx => by
  match i with
  | 0 => simp at hx; subst hx; exact h1
  | 1 => simp at hx; subst hx; exact h2
  | 2 => simp at hx; subst hx; exact h3
  | n + 3 => simp at hx
theorem asA_own0M {H : Nat → Option Ob} {k n sz : Nat} {E : TypeId} {els : List P0} {new : Bool} {ev : Operand → D} {x : Operand} (h : ev x = .one (.own k 0 n sz)) (hk : H k = some (.sl E sz new els)) (hn : n = els.length) : AsArg H (ev x) (.one (row false sz els)) := by
  have h2 := asA_own h hk oM
  rwa [List.drop_zero, List.take_of_length_le oM] at h2
theorem f_isNaN (a : Int) : Fn Tryz.prog 48 [iP a] (.v (.one (bool false))) := by
  refine fn_of (l := [.tmp 2]) Tryz.func48 kRf rfl Tryz.ntmps48 rfl rfl ?_; simp only [argEnv, P0.d, Nat.reduceAdd]
  repeat' (first|refine wk ?_|(refine wkB ?_ ?_<;>intro hg_<;>try exact wkX)|fail)
  all_goals exact ret_tmp rfl (dres_bool (by simp))
theorem f_compareI (a b : Int) : Fn Tryz.prog 43 [iP a, iP b] (.v (iP (cmpI a b))) := by
  have K := fun a => f_isNaN a
  refine fn_of (l := [.tmp 4]) Tryz.func43 kRf rfl Tryz.ntmps43 rfl rfl ?_; simp only [argEnv, P0.d, Nat.reduceAdd]
  repeat' (first|refine wk ?_|((first|refine' w_q rfl rfl ?xa rfl ?_|refine' v_q rfl rfl ?xa rfl ?_|refine' w_yes rfl rfl (lookO_spec rfl) rfl ?xa rfl ?_|refine' v_yes rfl rfl (lookO_spec rfl) rfl ?xa rfl ?_);case xa => exact k_call (K _) rfl ⟨asA_r (evO_spec rfl), trivial⟩)|(refine wkB ?_ ?_<;>intro hg_<;>try exact wkX)|fail)
  all_goals first
    | (exfalso; simp_all; done)
    | exact ret_tmp rfl (dres_int (by unfold cmpI; simp_all; done))
    | exact ret_tmp rfl (dres_int (by unfold cmpI; split <;> (try split) <;> simp_all <;> omega))
    | fail
theorem f_orI (nil : Bool) (xs : List Int) (hl : xs.length ≤ 1000) : Fn Tryz.prog 42 [.one (row nil 1 (ints xs))] (.v (iP (orI xs))) := by
  have hlen := ints_len xs
  refine fn_of (l := [.tmp 2]) Tryz.func42 kRf rfl Tryz.ntmps42 rfl rfl ?_; simp only [argEnv, P0.d, Nat.reduceAdd]
  repeat' (first|refine wk ?_|(refine wkB ?_ ?_<;>intro hg_<;>try exact wkX)|fail)
  refine aw_loopI (fun k : Nat => k ≤ xs.length ∧ orI xs = orI (xs.drop k)) (fun k => mkS 18 [(8, .one (.r true (int (k : Int)))), (7, .one (.r true (int (xs.length : Int)))), (6, .one (.r false (row nil 1 (ints xs)))), (3, .one (.r true (int 0)))] []) (fun k => xs.length - k) 0 ⟨Nat.zero_le _, rfl⟩ (by (refine weak_ren [] rfl ?_ ?_ <;> repeat' (first|refine wkS ?_ ?_|exact wkE|exact d_int (by rw [hlen])))) ?_
  rintro k ⟨hk, HP⟩
  repeat' (first|refine wk ?_|((first|refine' w_q rfl rfl ?xa rfl ?_|refine' v_q rfl rfl ?xa rfl ?_|refine' w_yes rfl rfl (lookO_spec rfl) rfl ?xa rfl ?_|refine' v_yes rfl rfl (lookO_spec rfl) rfl ?xa rfl ?_);case xa => exact k_index tbOk rfl rfl rfl rfl oM (ints_at oM))|(refine wkB ?_ ?_<;>intro hg_<;>try exact wkX)|fail)
  · exact ret_tmp rfl (dres_int (by rw [HP, List.drop_eq_getElem_cons oM, orI]; simp_all))
  · exact ⟨k + 1, ⟨by omega, by rw [HP, List.drop_eq_getElem_cons oM, orI];simp_all⟩, by (refine weak_ren [] rfl ?_ ?_ <;>exact wkW), by omega⟩
  · exact ret_tmp rfl (dres_int (by rw [HP, List.drop_eq_nil_of_le oM, orI]))
theorem f_compareMessages (a b : E3) : Fn Tryz.prog 64 [edgeP a, edgeP b] (.v (iP (cmpM a b))) := by
  obtain ⟨a1, a2, a3⟩ := a
  obtain ⟨b1, b2, b3⟩ := b
  have K1 := f_compareI a1 b1
  have K2 := f_compareI a2 b2
  have K3 := f_compareI a3 b3
  have KO : Fn Tryz.prog 42 [P0.one (row false 1 [P0.one (int (cmpI a1 b1)), P0.one (int (cmpI a2 b2)), P0.one (int (cmpI a3 b3))])] (.v (iP (orI [cmpI a1 b1, cmpI a2 b2, cmpI a3 b3]))) := f_orI false [cmpI a1 b1, cmpI a2 b2, cmpI a3 b3] (by simp)
  have e : cmpM (a1, a2, a3) (b1, b2, b3) = orI [cmpI a1 b1, cmpI a2 b2, cmpI a3 b3] := rfl
  rw [e]
  clear e
  generalize orI [cmpI a1 b1, cmpI a2 b2, cmpI a3 b3] = q at *
  generalize cmpI a1 b1 = x1 at *
  generalize cmpI a2 b2 = x2 at *
  generalize cmpI a3 b3 = x3 at *
  refine fn_of (l := [.tmp 4]) Tryz.func64 kRf rfl Tryz.ntmps64 rfl rfl ?_; simp only [argEnv, P0.d, Nat.reduceAdd, edgeP, List.map_cons, List.map_nil]
  repeat' (first|refine wk ?_|((first|refine' w_q rfl rfl ?xa rfl ?_|refine' v_q rfl rfl ?xa rfl ?_|refine' w_yes rfl rfl (lookO_spec rfl) rfl ?xa rfl ?_|refine' v_yes rfl rfl (lookO_spec rfl) rfl ?xa rfl ?_);case xa => first|exact k_call K1 rfl ⟨asA_r (evO_spec rfl), asA_r (evO_spec rfl), trivial⟩|exact k_call K2 rfl ⟨asA_r (evO_spec rfl), asA_r (evO_spec rfl), trivial⟩|exact k_call K3 rfl ⟨asA_r (evO_spec rfl), asA_r (evO_spec rfl), trivial⟩|exact k_call KO rfl ⟨asA_own0M (evO_spec rfl) (lookHO_spec rfl) rfl, trivial⟩)|((first|refine' w_e rfl ?xa ?xb ?xc ?xe ?_|refine' v_e rfl ?xa ?xb ?xc ?xe ?_);(case xa => exact e_build [.tmp 9, .tmp 14, .tmp 19] tlOk rfl rfl rfl rfl rfl rfl (allN_3 rfl rfl rfl) (by simp));(case xb|xc|xe=>rfl);try refine wkD ?_)|(refine wkB ?_ ?_<;>intro hg_<;>try exact wkX)|fail)
  all_goals first
    | exact ret_tmp rfl (dres_int rfl)
    | fail
theorem f_valueFits (v : Int) : Fn Tryz.prog 65 [iP v] (.v (.one (bool (valIn v)))) := by
  refine fn_of (l := [.tmp 2]) Tryz.func65 kRf rfl Tryz.ntmps65 rfl rfl ?_; simp only [argEnv, P0.d, Nat.reduceAdd]
  repeat' (first|refine wk ?_|(refine wkB ?_ ?_<;>intro hg_<;>try exact wkX)|fail)
  all_goals exact ret_tmp rfl (dres_bool (by unfold valIn inR; rw [Bool.eq_iff_iff]; simp_all; try omega))
theorem f_roundFits (v : Int) : Fn Tryz.prog 56 [iP v] (.v (.one (bool (inR 0 100 v)))) := by
  refine fn_of (l := [.tmp 2]) Tryz.func56 kRf rfl Tryz.ntmps56 rfl rfl ?_; simp only [argEnv, P0.d, Nat.reduceAdd]
  repeat' (first|refine wk ?_|(refine wkB ?_ ?_<;>intro hg_<;>try exact wkX)|fail)
  all_goals exact ret_tmp rfl (dres_bool (by unfold inR; rw [Bool.eq_iff_iff]; simp_all; try omega))
def msgFit (many : Int) (m : E3) : Bool := decide (0 ≤ m.1 ∧ m.1 < many ∧ 0 ≤ m.2.2 ∧ m.2.2 < many ∧ 0 ≤ m.2.1 ∧ m.2.1 < 1000000)
theorem msgFit_in (many : Int) (m : E3) : msgFit many m = msgIn (many - 1) m := by
  unfold msgFit msgIn inR
  rw [Bool.eq_iff_iff]; simp only [Bool.and_eq_true, decide_eq_true_eq]; omega
theorem f_messageFits (m : E3) (many : Int) : Fn Tryz.prog 67 [edgeP m, iP many] (.v (.one (bool (msgFit many m)))) := by
  refine fn_of (l := [.tmp 4]) Tryz.func67 kRf rfl Tryz.ntmps67 rfl rfl ?_; simp only [argEnv, P0.d, Nat.reduceAdd, edgeP, List.map_cons, List.map_nil]
  repeat' (first|refine wk ?_|(refine wkB ?_ ?_<;>intro hg_<;>try exact wkX)|fail)
  all_goals exact ret_tmp rfl (dres_bool (by unfold msgFit; rw [Bool.eq_iff_iff]; simp_all <;> omega))
theorem f_valuesFit (nil : Bool) (xs : List Int) (hl : xs.length ≤ maxLen) : Fn Tryz.prog 57 [.one (row nil 1 (ints xs))] (.v (.one (bool (xs.all valIn)))) := by
  have hlen := ints_len xs
  have hml : xs.length ≤ 9223372036854775807 := hl
  have K := fun v => f_valueFits v
  refine fn_of (l := [.tmp 2]) Tryz.func57 kRf rfl Tryz.ntmps57 rfl rfl ?_; simp only [argEnv, P0.d, Nat.reduceAdd]
  repeat' (first|refine wk ?_|(refine wkB ?_ ?_<;>intro hg_<;>try exact wkX)|fail)
  refine aw_loopI (fun k : Nat => k ≤ xs.length ∧ xs.all valIn = (xs.drop k).all valIn) (fun k => mkS 15 [(7, .one (.r true (int (k : Int)))), (6, .one (.r true (int (xs.length : Int)))), (5, .one (.r false (row nil 1 (ints xs))))] []) (fun k => xs.length - k) 0 ⟨Nat.zero_le _, rfl⟩ (by (refine weak_ren [] rfl ?_ ?_ <;> repeat' (first|refine wkS ?_ ?_|exact wkE|exact d_int (by rw [hlen])))) ?_
  rintro k ⟨hk, HP⟩
  repeat' (first|refine wk ?_|((first|refine' w_q rfl rfl ?xa rfl ?_|refine' v_q rfl rfl ?xa rfl ?_|refine' w_yes rfl rfl (lookO_spec rfl) rfl ?xa rfl ?_|refine' v_yes rfl rfl (lookO_spec rfl) rfl ?xa rfl ?_);case xa => first|exact k_index tbOk rfl rfl rfl rfl oM (ints_at oM)|exact k_call (K _) rfl ⟨asA_r (evO_spec rfl), trivial⟩)|(refine wkB ?_ ?_<;>intro hg_<;>try exact wkX)|fail)
  all_goals first
    | exact ret_tmp rfl (dres_bool (by rw [HP, all_step oM]; simp_all; done))
    | exact ⟨k + 1, ⟨by omega, by rw [HP, all_step oM];simp_all⟩, by (refine weak_ren [] rfl ?_ ?_ <;>exact wkW), by omega⟩
    | exact ret_tmp rfl (dres_bool (by rw [HP, List.drop_eq_nil_of_le oM]; rfl))
    | fail
theorem f_isSorted (nil : Bool) (ms : List E3) (hl : ms.length ≤ maxLen) : Fn Tryz.prog 66 [.one (row nil 3 (edges ms)), .one (R.val (Value.func (.func 64) #[] #[]))] (.v (.one (bool (srt ms)))) := by
  have hlen := edges_len ms
  have hml : ms.length ≤ 9223372036854775807 := hl
  have KC := fun a b => f_compareMessages a b
  refine fn_of (l := [.tmp 4]) Tryz.func66 kRf rfl Tryz.ntmps66 rfl rfl ?_; simp only [argEnv, P0.d, Nat.reduceAdd]
  repeat' (first|refine wk ?_|(refine wkB ?_ ?_<;>intro hg_<;>try exact wkX)|fail)
  obtain ⟨F, hF⟩ : ∃ F : Nat → St, ∀ k, F k = mkS 25 [(5, .one (.r true (int (((ms.length - k : Nat) : Int) - 1)))), (1, .one (.r false (R.val (Value.func (.func 64) #[] #[])))), (0, .one (.r false (row nil 3 (edges ms))))] [] := ⟨_, fun _ => rfl⟩
  refine aw_loopI (fun k : Nat => (k ≤ ms.length) ∧ ∀ j (h : j + 1 < ms.length), ms.length - k ≤ j + 1 → bef ms[j + 1] ms[j] = false) F (fun k => ms.length - k) 0 ⟨Nat.zero_le _, fun j h h2 => by omega⟩ (by rw [hF];(refine weak_ren [] rfl ?_ ?_ <;> repeat' (first|refine wkS ?_ ?_|exact wkE|exact d_int (by rw [hlen, IntWalk.i64_in _ oM];omega)))) ?_
  rintro k ⟨hk, HP⟩
  rw [hF]
  by_cases hlt : k + 1 < ms.length
  · obtain ⟨i, hi⟩ : ∃ i : Nat, i + 1 + k + 1 = ms.length := ⟨ms.length - k - 2, by omega⟩
    have e1 : ((ms.length - k : Nat) : Int) - 1 = ((i + 1 : Nat) : Int) := by omega
    have e2 : IntKind.i64.wrap (((i + 1 : Nat) : Int) - 1) = (i : Int) := by rw [IntWalk.i64_in _ oM]; omega
    rw [e1]
    have KCh := KC ms[i + 1] ms[i]
    have hneg := cmpM_neg ms[i + 1] ms[i]
    have hat1 := edges_at (es := ms) (k := i + 1) oM
    have hat0 := edges_at (es := ms) (k := i) oM
    have hfin : ∀ s' : St, Weak s' (F (k + 1)) → bef ms[i + 1] ms[i] = false → ∃ x' : Nat, (x' ≤ ms.length ∧ ∀ j (h : j + 1 < ms.length), ms.length - x' ≤ j + 1 → bef ms[j + 1] ms[j] = false) ∧ Weak s' (F x') ∧ ms.length - x' < ms.length - k := fun s' hs hb => ⟨k + 1, ⟨by omega, fun j h h2 => by
      by_cases hj : j = i
      · subst hj; exact hb
      · exact HP j h oM⟩, hs, by omega⟩
    have hno : bef ms[i + 1] ms[i] = true → srt ms = false := fun hb => by
      rw [Bool.eq_false_iff]
      intro hs
      have := (srt_iff ms).1 hs i oM
      rw [hb] at this; cases this
    rw [← e2] at hat0
    have h0 : (0 : Int) ≤ IntKind.i64.wrap (((i + 1 : Nat) : Int) - 1) := by rw [e2]; omega
    have e3 : IntKind.i64.wrap (((i + 1 : Nat) : Int) - 1) = ((ms.length - (k + 1) : Nat) : Int) - 1 := by rw [e2]; omega
    rw [hF] at hfin
    clear hF HP KC
    generalize bef ms[i + 1] ms[i] = bb at *
    generalize ms[i + 1] = p at *
    generalize ms[i] = q at *
    obtain ⟨p1, p2, p3⟩ := p
    obtain ⟨q1, q2, q3⟩ := q
    generalize cmpM (p1, p2, p3) (q1, q2, q3) = c at *
    repeat' (first|refine wk ?_|((first|refine' w_q rfl rfl ?xa rfl ?_|refine' v_q rfl rfl ?xa rfl ?_|refine' w_yes rfl rfl (lookO_spec rfl) rfl ?xa rfl ?_|refine' v_yes rfl rfl (lookO_spec rfl) rfl ?xa rfl ?_);case xa => first|exact k_index tbOk rfl rfl rfl rfl (by first|exact h0|omega) (by first|exact hat0|exact hat1)|exact k_callV KCh rfl rfl ⟨asA_agg (evO_spec rfl) ⟨cAr_r, cAr_r, cAr_r, trivial⟩, asA_agg (evO_spec rfl) ⟨cAr_r, cAr_r, cAr_r, trivial⟩, trivial⟩)|(refine wkB ?_ ?_<;>intro hg_<;>try exact wkX)|fail)
    all_goals first
      | exact ret_tmp rfl (dres_bool (hno (by rw [← hneg]; simp; omega)).symm)
      | (refine hfin _ ?_ (by rw [← hneg]; simp; omega)
         (refine weak_ren [] rfl ?_ ?_ <;> repeat' (first|refine wkS ?_ ?_|exact wkE|exact d_int e3)))
      | (exfalso; omega)
      | fail
  · have hs : srt ms = true := (srt_iff ms).2 fun j h => HP j h oM
    have e1 : ¬ (((ms.length - k : Nat) : Int) - 1 > 0) := by omega
    rw [hs]
    clear hF HP
    generalize ((ms.length - k : Nat) : Int) - 1 = z at *
    repeat' (first|refine wk ?_|(refine wkB ?_ ?_<;>intro hg_<;>try exact wkX)|fail)
    all_goals first
      | (exfalso; omega)
      | exact ret_tmp rfl (dres_bool rfl)
      | fail
def fitsIn (many : Int) (ms : List E3) : Bool := decide (ms.length ≤ 2000) && srt ms && ms.all (msgFit many)
theorem fitsIn_eq (many : Int) (ms : List E3) : fitsIn many ms = (decide (ms.length ≤ 2000) && msOk (many - 1) none ms) := by
  unfold fitsIn
  rw [msOk_none, show msgFit many = msgIn (many - 1) from funext (msgFit_in many), Bool.and_assoc]
theorem f_inboxFits (nil : Bool) (ms : List E3) (many : Int) (hl : ms.length ≤ maxLen) : Fn Tryz.prog 58 [.one (row nil 3 (edges ms)), iP many] (.v (.one (bool (fitsIn many ms)))) := by
  have hlen := edges_len ms
  have hml : ms.length ≤ 9223372036854775807 := hl
  have KS := f_isSorted nil ms hl
  have K := fun m => f_messageFits m many
  refine fn_of (l := [.tmp 4]) Tryz.func58 kRf rfl Tryz.ntmps58 rfl rfl ?_; simp only [argEnv, P0.d, Nat.reduceAdd]
  repeat' (first|refine wk ?_|((first|refine' w_q rfl rfl ?xa rfl ?_|refine' v_q rfl rfl ?xa rfl ?_|refine' w_yes rfl rfl (lookO_spec rfl) rfl ?xa rfl ?_|refine' v_yes rfl rfl (lookO_spec rfl) rfl ?xa rfl ?_);case xa => exact k_call KS rfl ⟨asA_r (evO_spec rfl), asA_r (evO_spec rfl), trivial⟩)|(refine wkB ?_ ?_<;>intro hg_<;>try exact wkX)|fail)
  · exact ret_tmp rfl (dres_bool (by unfold fitsIn; simp_all; try omega))
  · exact ret_tmp rfl (dres_bool (by unfold fitsIn; simp [*]))
  refine aw_loopI (fun k : Nat => k ≤ ms.length ∧ fitsIn many ms = (ms.drop k).all (msgFit many)) (fun k => mkS 26 [(17, .one (.r true (int (k : Int)))), (16, .one (.r true (int (ms.length : Int)))), (15, .one (.r false (row nil 3 (edges ms)))), (1, .one (.r false (int many)))] []) (fun k => ms.length - k) 0 ⟨Nat.zero_le _, by unfold fitsIn;simp_all;try omega⟩ (by (refine weak_ren [] rfl ?_ ?_ <;> repeat' (first|refine wkS ?_ ?_|exact wkE|exact d_int (by rw [hlen])))) ?_
  rintro k ⟨hk, HP⟩
  repeat' (first|refine wk ?_|((first|refine' w_q rfl rfl ?xa rfl ?_|refine' v_q rfl rfl ?xa rfl ?_|refine' w_yes rfl rfl (lookO_spec rfl) rfl ?xa rfl ?_|refine' v_yes rfl rfl (lookO_spec rfl) rfl ?xa rfl ?_);case xa => first|exact k_index tbOk rfl rfl rfl rfl oM (edges_at oM)|exact k_call (K (_, _, _)) rfl ⟨asA_agg (evO_spec rfl) ⟨cAr_r, cAr_r, cAr_r, trivial⟩, asA_r (evO_spec rfl), trivial⟩)|(refine wkB ?_ ?_<;>intro hg_<;>try exact wkX)|fail)
  all_goals first
    | exact ret_tmp rfl (dres_bool (by rw [HP, all_step oM]; simp_all; done))
    | exact ⟨k + 1, ⟨by omega, by rw [HP, all_step oM];simp_all⟩, by (refine weak_ren [] rfl ?_ ?_ <;>exact wkW), by omega⟩
    | exact ret_tmp rfl (dres_bool (by rw [HP, List.drop_eq_nil_of_le oM]; rfl))
    | fail
theorem f_implStateValid (many r : Int) (nv ng nm : Bool) (vs : List Int) (gs : List Bool) (ms : List E3) (hv : vs.length ≤ maxLen) (hg : gs.length ≤ maxLen) (hl : ms.length ≤ maxLen) : Fn Tryz.prog 51 [stateP r nv vs ng gs nm ms, iP many] (.v (.one (bool (stOk many r vs gs.length ms)))) := by
  have hlenV := ints_len vs
  have hlenG := bools_len gs
  have hlenM := edges_len ms
  have K1 := f_roundFits r
  have K2 := f_valuesFit nv vs hv
  have K3 := f_inboxFits nm ms many hl
  have E : stOk many r vs gs.length ms = (inR 0 16 many && inR 0 100 r && decide ((vs.length : Int) = many) && decide ((gs.length : Int) = many) && (vs.all valIn && fitsIn many ms)) := by
    unfold stOk; rw [fitsIn_eq]
    cases decide (ms.length ≤ 2000) <;> cases vs.all valIn <;> cases msOk (many - 1) none ms <;> simp
  have E2 : inR 0 16 many = decide (0 ≤ many ∧ many ≤ 16) := rfl
  rw [E, E2]
  clear E E2
  generalize fitsIn many ms = b3 at *
  generalize vs.all valIn = b2 at *
  generalize inR 0 100 r = b1 at *
  refine fn_of (l := [.tmp 4]) Tryz.func51 kRf rfl Tryz.ntmps51 rfl rfl ?_; simp only [argEnv, P0.d, Nat.reduceAdd, stateP, List.map_cons, List.map_nil]
  repeat' (first|refine wk ?_|((first|refine' w_q rfl rfl ?xa rfl ?_|refine' v_q rfl rfl ?xa rfl ?_|refine' w_yes rfl rfl (lookO_spec rfl) rfl ?xa rfl ?_|refine' v_yes rfl rfl (lookO_spec rfl) rfl ?xa rfl ?_);case xa => first|exact k_call K1 rfl ⟨asA_r (evO_spec rfl), trivial⟩|exact k_call K2 rfl ⟨asA_r (evO_spec rfl), trivial⟩|exact k_call K3 rfl ⟨asA_r (evO_spec rfl), asA_r (evO_spec rfl), trivial⟩)|(refine wkB ?_ ?_<;>intro hg_<;>try exact wkX)|fail)
  all_goals first
    | exact ret_tmp rfl (dres_bool (by first|(simp_all;done)|(simp_all;intros;omega)|(simp_all;omega)))
    | fail
end Go.Proofs.YtlobefglhppbdaaGreatDoor.Abs
