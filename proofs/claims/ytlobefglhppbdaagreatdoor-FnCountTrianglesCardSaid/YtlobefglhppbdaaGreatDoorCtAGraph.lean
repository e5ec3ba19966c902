/- Graphs by states: small tests, GraphValid of the reference. No statement of the seat is proved here. -/
import Derived.Lib.Hide
import Derived.Test.YtlobefglhppbdaaGreatDoorCtTy
import Derived.Test.YtlobefglhppbdaaGreatDoorCtALaw0
set_option linter.unusedSimpArgs false
set_option linter.unusedVariables false
set_option maxRecDepth 100000
set_option maxHeartbeats 4000000
namespace Go.Proofs.YtlobefglhppbdaaGreatDoor.Abs
open Go.RowKit
open R (val row ref)
theorem f_l4Before (a b : E3) : Fn Tryz.prog 24 [edgeP a, edgeP b] (.v (.one (bool (before a b)))) := by
  refine fn_of (l := [.tmp 4]) Tryz.func24 kRf rfl Tryz.ntmps24 rfl rfl ?_; simp only [argEnv, P0.d, Nat.reduceAdd, edgeP, List.map_cons, List.map_nil]
  repeat' (first|refine wk ?_|(refine wkB ?_ ?_<;>intro hg_<;>try exact wkX)|fail)
  all_goals exact ret_tmp rfl (dres_bool (by unfold before;(first|(simp_all;done)|(rw [Bool.eq_iff_iff];simp_all;done)|(rw [Bool.eq_iff_iff];simp_all;omega)|(rw [Bool.eq_iff_iff];simp;omega))))
def inU (u v : Int) : Bool := decide (0 ≤ v ∧ v ≤ u)
theorem gOk_spec (m : Int) (es : List E3) : gOk m es = (decide (0 ≤ m ∧ m ≤ 16) && decide (es.length ≤ 40) && chain (inU (IntKind.i64.wrap (m - 1))) none es) := by
  unfold gOk
  by_cases h : 0 ≤ m ∧ m ≤ 16
  · rw [IntWalk.i64_in _ oM, chain_congr (P := hasV m) (Q := inU (m - 1)) (fun v => by unfold hasV inU; rw [Bool.eq_iff_iff]; simp; omega)]
  · simp [h]
theorem eOk_in (u : Int) (e : E3) : eOk (inU u) e = (inR 0 u e.1 && inR 0 u e.2.1 && decide (e.1 ≠ e.2.1) && inR 0 20 e.2.2) := rfl
theorem prevE_pos {es : List E3} {k : Nat} (h : 0 < k) (hk : k ≤ es.length) : prevE es k = some (es[k - 1]'oM) := by
  obtain ⟨j, rfl⟩ : ∃ j, k = j + 1 := ⟨k - 1, by omega⟩
  simp [prevE, show j < es.length by omega]
theorem f_specGraphValid (m : Int) (nil : Bool) (es : List E3) (hl : es.length ≤ maxLen) : Fn Tryz.prog 8 [graphP m nil es] (.v (.one (bool (gOk m es)))) := by
  have hlen := edges_len es
  have hml : es.length ≤ 9223372036854775807 := hl
  refine fn_of (l := [.tmp 2]) Tryz.func8 kRf rfl Tryz.ntmps8 rfl rfl ?_; simp only [argEnv, P0.d, Nat.reduceAdd, graphP, List.map_cons, List.map_nil]
  repeat' (first|refine wk ?_|(refine wkB ?_ ?_<;>intro hg_<;>try exact wkX)|fail)
  refine aw_loopI (fun k : Nat => k ≤ es.length ∧ chain (inU (IntKind.i64.wrap (m - 1))) none es = chain (inU (IntKind.i64.wrap (m - 1))) (prevE es k) (es.drop k)) (fun k => mkS 70 [(3, .one (.r true (int k))), (1, .one (.ptr 1 0 0 0))] [(1, .var 25 [.r false (int m), .r false (row nil 3 (edges es))])]) (fun k => es.length - k) 0 ⟨Nat.zero_le _, rfl⟩ (by (refine weak_ren [] rfl ?_ ?_ <;>exact wkW)) ?_
  rintro k ⟨hk, HP⟩
  have hixp : ∀ h : 0 < k, k ≤ es.length → (edges es)[(IntKind.i64.wrap ((k : Int) - 1)).toNat]? = some (edgeP (es[k-1]'oM)) := fun h h' => by
    rw [IntWalk.i64_in _ oM, show ((k : Int) - 1).toNat = k - 1 by omega]; exact edges_get oM
  have hw1 : 0 < k → 0 ≤ IntKind.i64.wrap ((k : Int) - 1) := fun h => by rw [IntWalk.i64_in _ oM]; omega
  repeat' (first|refine wk ?_|((first|refine' w_q rfl rfl ?xa rfl ?_|refine' v_q rfl rfl ?xa rfl ?_|refine' w_yes rfl rfl (lookO_spec rfl) rfl ?xa rfl ?_|refine' v_yes rfl rfl (lookO_spec rfl) rfl ?xa rfl ?_);case xa => first|exact k_index tbOk rfl rfl rfl rfl (by first|omega|exact hw1 oM) (by first|exact edges_at oM|exact hixp oM oM)|exact k_call (f_l1In _ _ _) rfl ⟨asA_r (evO_spec rfl), asA_r (evO_spec rfl), asA_r (evO_spec rfl), trivial⟩|exact k_call (f_l4Before (_, _, _) (_, _, _)) rfl ⟨asA_agg (evO_spec rfl) ⟨cAr_r, cAr_r, cAr_r, trivial⟩, asA_agg (evO_spec rfl) ⟨cAr_r, cAr_r, cAr_r, trivial⟩, trivial⟩)|(refine wkB ?_ ?_<;>intro hg_<;>try exact wkX)|fail)
  · exact ret_tmp rfl (dres_bool (by rw [gOk_spec, HP, chain_step oM, eOk_in]; simp_all))
  · exact ret_tmp rfl (dres_bool (by rw [gOk_spec, HP, chain_step oM, eOk_in]; simp_all))
  · exact ret_tmp rfl (dres_bool (by rw [gOk_spec, HP, chain_step oM, eOk_in]; simp_all))
  · exact ret_tmp rfl (dres_bool (by rw [gOk_spec, HP, chain_step oM, eOk_in]; simp_all))
  · exact ret_tmp rfl (dres_bool (by rw [gOk_spec, HP, chain_step oM, prevE_pos oM hk]; simp_all [ordOk]))
  · exact ⟨k + 1, ⟨by omega, by rw [HP, chain_step oM, eOk_in, prevE_pos oM hk];simp_all [ordOk]⟩, by (refine weak_ren [] rfl ?_ ?_ <;>exact wkW), by omega⟩
  · obtain rfl : k = 0 := by omega
    exact ⟨1, ⟨by omega, by rw [HP, chain_step oM, eOk_in];simp_all [ordOk, prevE]⟩, by (refine weak_ren [] rfl ?_ ?_ <;>exact wkW), by omega⟩
  · exact ret_tmp rfl (dres_bool (by rw [gOk_spec, HP, chain_end oM]; unfold inR at *; simp_all; omega))
  · exact ret_tmp rfl (dres_bool (by rw [gOk_spec]; unfold inR at *; simp_all; intros; omega))
theorem flat_edges : ∀ es : List E3, flat (edges es) = (ev es).map val
  | [] => rfl
  | e :: es => by
    have := flat_edges es
    unfold flat edges at this ⊢
    rw [List.map_cons, List.flatMap_cons, this]
    rfl
theorem src_of {c : Cx} {v : Value} {nil : Bool} {sz : Nat} {els : List P0} {us : List Value} (h : (row nil sz els).p c v) (hf : flat els = us.map val) (hn : us.length = els.length * sz) : ∃ ao cap, v = .slice ao els.length cap ∧ Src c.w ao els.length sz us ∧ els.length ≤ cap ∧ cap ≤ maxLen ∧ (ao = none → cap = 0) := by
  obtain ⟨ao, cap, h1, h2, h3, h4, h5⟩ := row_p.1 h
  refine ⟨ao, cap, h1, ⟨hn, fun hp => ?_⟩, h2.1, h2.2, h4⟩
  obtain ⟨b, o, e1, e2, e3, e4⟩ := h5 hp
  obtain ⟨f1, f2⟩ := flat_of (q := fun p r => ∃ u, c.w.cell? ⟨b, o + p, none⟩ = some u ∧ r.p c u) (fun i e hi => ⟨(e4 i e hi).1, fun j r hj => by
    obtain ⟨u, hu, hr⟩ := (e4 i e hi).2 j r hj
    exact ⟨u, by rw [← Nat.add_assoc]; exact hu, hr⟩⟩)
  refine ⟨b, o, e1, fun j u hj => ?_⟩
  obtain ⟨u', hu, hr⟩ := f2 j (val u) (by rw [hf]; simp [hj])
  rw [(val_p.1 hr).1] at hu
  exact hu
theorem edges_arg {c : Cx} {v : Value} {nil : Bool} {es : List E3} (h : (row nil 3 (edges es)).p c v) : ∃ ao cap, v = .slice ao es.length cap ∧ Se c.w ao es ∧ es.length ≤ cap ∧ cap ≤ maxLen ∧ (ao = none → cap = 0) := by
  obtain ⟨ao, cap, h1, h2, h3⟩ := src_of (us := ev es) h (flat_edges es) (by rw [ev_len, edges_len])
  rw [edges_len] at h1 h2 h3
  exact ⟨ao, cap, h1, h2, h3⟩
theorem graph_arg {c : Cx} {v : Value} {m : Int} {nil : Bool} {es : List E3} (h : (graphP m nil es).p c v) : ∃ ao cap, v = gr m ao es.length cap ∧ Se c.w ao es := by
  obtain ⟨vs, h1, h2, h3⟩ := h
  obtain ⟨u0, e0, p0⟩ := h3 0 _ rfl
  obtain ⟨u1, e1, p1⟩ := h3 1 _ rfl
  obtain ⟨ao, cap, f1, f2, _⟩ := edges_arg p1
  have hv : vs = [u0, u1] := by
    match vs, h2, e0, e1 with
    | [a, b], _, e0, e1 => simp at e0 e1; rw [e0, e1]
  have hu0 := (val_p.1 p0).1
  subst hv hu0 f1
  exact ⟨ao, cap, h1, f2⟩
theorem int_arg {c : Cx} {v : Value} {n : Int} (h : (iP n).p c v) : v = .int .i64 n := (val_p.1 h).1
theorem bool_res (c : Cx) (b : Bool) : (Res.v (.one (bool b))).p c (.bool b) := (val_p (c := c)).2 ⟨rfl, rfl⟩
theorem f_implGraphValid (m : Int) (nil : Bool) (es : List E3) (hl : es.length ≤ maxLen) : Fn Tryz.prog 16 [graphP m nil es] (.v (.one (bool (gOk m es)))) := by
  refine ⟨ent_of Tryz.func16 kRf rfl, fun w vs _ hA => ?_⟩
  match vs, hA with
  | [v], ⟨h1, _⟩ =>
    obtain ⟨ao, cap, rfl, hs⟩ := graph_arg h1
    refine (implGraphValid m ao cap es w hl hs).mono ?_
    rintro e w' ⟨rfl, hb⟩
    exact ⟨_, rfl, bool_res _ _, hb⟩
end Go.Proofs.YtlobefglhppbdaaGreatDoor.Abs
