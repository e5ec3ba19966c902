/- Graphs by states: small tests, GraphValid of the reference. No statement of the seat is proved here. -/
import Derived.Lib.Hide
import Derived.Test.YtmkecjamfippfaaRxTy
import Derived.Test.YtmkecjamfippfaaRxALaw0
set_option linter.unusedSimpArgs false
set_option linter.unusedVariables false
namespace Go.Proofs.Ytmkecjamfippfaa.Abs
open Go.RowKit
open R (val row ref)
set_option maxRecDepth 100000 in
set_option maxHeartbeats 2000000 in
theorem f_l4Before (a b : E3) : Fn Try.prog 92 [edgeP a, edgeP b] (.v (.one (bool (before a b)))) := by
  refine fn_of (l := [.tmp 4]) Try.func92 (by kernel_rfl) rfl Try.ntmps92 rfl rfl ?_; simp only [argEnv, P0.d, Nat.reduceAdd, edgeP, List.map_cons, List.map_nil]
  repeat' (first|(with_reducible first|refine aw_seq ?_|refine thn_normal ?_|refine thn_ret ?_|refine thn_exit ?_|refine blk_normal ?_|refine blk_ret ?_|refine blk_hit ?_|refine blk_miss rfl ?_|refine aw_block ?_|refine aw_ret ?_|refine aw_skip ?_|refine aw_exit ?_|refine w_nil ?_|refine x_nil (by kernel_rfl) ?_)|refine aw_region ?_|refine aw_region_draw (by kernel_rfl) ?_|refine aw_yes rfl ?_|refine aw_no rfl ?_|((with_reducible refine w_seq ?_);first|refine r_q tbOk rfl rfl rfl rfl ?_|refine r_e tbOk rfl rfl rfl rfl rfl ?_|refine r_yes tbOk rfl rfl rfl rfl rfl rfl ?_|refine w_no rfl rfl (lookO_spec rfl) rfl rfl rfl ?_|refine w_un rfl rfl (lookO_spec rfl) rfl rfl ?_)|((with_reducible refine w_drw ?_);first|refine rx_q tbOk rfl rfl rfl rfl ?_|refine rx_e tbOk rfl rfl rfl rfl rfl ?_|refine rx_yes tbOk rfl rfl rfl rfl rfl rfl ?_|refine x_no rfl rfl (lookO_spec rfl) rfl rfl rfl ?_|refine x_un rfl rfl (lookO_spec rfl) rfl rfl ?_)|((first|refine aw_ways rfl ?_ ?_|refine r_split rfl rfl rfl ?_ ?_) <;> intro hg_ <;> fail_if_success (exact Bool.noConfusion hg_)) <;> (try simp only [prn] at hg_) <;> (try first|contradiction|(exfalso;omega)))
  all_goals exact ret_tmp rfl (dres_bool (by unfold before;(first|(simp_all;done)|(rw [Bool.eq_iff_iff];simp_all;done)|(rw [Bool.eq_iff_iff];simp_all;omega)|(rw [Bool.eq_iff_iff];simp;omega))))
def inU (u v : Int) : Bool := decide (0 ≤ v ∧ v ≤ u)
theorem gOk_spec (m : Int) (es : List E3) : gOk m es = (decide (0 ≤ m ∧ m ≤ 16) && decide (es.length ≤ 40) && chain (inU (IntKind.i64.wrap (m - 1))) none es) := by
  unfold gOk
  by_cases h : 0 ≤ m ∧ m ≤ 16
  · rw [IntWalk.i64_in _ (by omega), chain_congr (P := hasV m) (Q := inU (m - 1)) (fun v => by unfold hasV inU; rw [Bool.eq_iff_iff]; simp; omega)]
  · simp [h]
theorem eOk_in (u : Int) (e : E3) : eOk (inU u) e = (inR 0 u e.1 && inR 0 u e.2.1 && decide (e.1 ≠ e.2.1) && inR 0 20 e.2.2) := rfl
theorem prevE_pos {es : List E3} {k : Nat} (h : 0 < k) (hk : k ≤ es.length) : prevE es k = some (es[k - 1]'(by omega)) := by
  obtain ⟨j, rfl⟩ : ∃ j, k = j + 1 := ⟨k - 1, by omega⟩
  simp [prevE, show j < es.length by omega]
set_option maxRecDepth 100000 in
set_option maxHeartbeats 4000000 in
theorem f_specGraphValid (m : Int) (nil : Bool) (es : List E3) (hl : es.length ≤ maxLen) : Fn Try.prog 53 [graphP m nil es] (.v (.one (bool (gOk m es)))) := by
  have hlen := edges_len es
  have hml : es.length ≤ 9223372036854775807 := hl
  refine fn_of (l := [.tmp 2]) Try.func53 (by kernel_rfl) rfl Try.ntmps53 rfl rfl ?_; simp only [argEnv, P0.d, Nat.reduceAdd, graphP, List.map_cons, List.map_nil]
  repeat' (first|(with_reducible first|refine aw_seq ?_|refine thn_normal ?_|refine thn_ret ?_|refine thn_exit ?_|refine blk_normal ?_|refine blk_ret ?_|refine blk_hit ?_|refine blk_miss rfl ?_|refine aw_block ?_|refine aw_ret ?_|refine aw_skip ?_|refine aw_exit ?_|refine w_nil ?_|refine x_nil (by kernel_rfl) ?_)|refine aw_region ?_|refine aw_region_draw (by kernel_rfl) ?_|refine aw_yes rfl ?_|refine aw_no rfl ?_|((with_reducible refine w_seq ?_);first|refine r_q tbOk rfl rfl rfl rfl ?_|refine r_e tbOk rfl rfl rfl rfl rfl ?_|refine r_yes tbOk rfl rfl rfl rfl rfl rfl ?_|refine w_no rfl rfl (lookO_spec rfl) rfl rfl rfl ?_|refine w_un rfl rfl (lookO_spec rfl) rfl rfl ?_)|((with_reducible refine w_drw ?_);first|refine rx_q tbOk rfl rfl rfl rfl ?_|refine rx_e tbOk rfl rfl rfl rfl rfl ?_|refine rx_yes tbOk rfl rfl rfl rfl rfl rfl ?_|refine x_no rfl rfl (lookO_spec rfl) rfl rfl rfl ?_|refine x_un rfl rfl (lookO_spec rfl) rfl rfl ?_)|((first|refine aw_ways rfl ?_ ?_|refine r_split rfl rfl rfl ?_ ?_) <;> intro hg_ <;> fail_if_success (exact Bool.noConfusion hg_)) <;> (try simp only [prn] at hg_) <;> (try first|contradiction|(exfalso;omega)))
  refine aw_loopI (fun k : Nat => k ≤ es.length ∧ chain (inU (IntKind.i64.wrap (m - 1))) none es = chain (inU (IntKind.i64.wrap (m - 1))) (prevE es k) (es.drop k)) (fun k => mkS 70 [(3, .one (.r true (int k))), (1, .one (.ptr 1 0 0 0))] [(1, .var 46 [.r false (int m), .r false (row nil 3 (edges es))])]) (fun k => es.length - k) 0 ⟨Nat.zero_le _, rfl⟩ (by (refine weak_ren [] rfl ?_ ?_ <;> repeat' (first|exact trivial|refine subR_cons rfl ?_ ?_|refine subHR_cons rfl ?_ ?_|rfl|(refine d_int ?_;(first|rfl|omega|(rw [IntWalk.i64_in _ (by omega)] <;> omega)|(simp;done)|(simp;omega)))|(refine d_bool ?_;(first|(simp_all;done)|(rw [Bool.eq_iff_iff];simp_all;done)|(rw [Bool.eq_iff_iff];simp_all;omega)|(rw [Bool.eq_iff_iff];simp;omega)))))) ?_
  rintro k ⟨hk, HP⟩
  have hixp : ∀ h : 0 < k, k ≤ es.length → (edges es)[(IntKind.i64.wrap ((k : Int) - 1)).toNat]? = some (edgeP (es[k-1]'(by omega))) := fun h h' => by
    rw [IntWalk.i64_in _ (by omega), show ((k : Int) - 1).toNat = k - 1 by omega]; exact edges_get (by omega)
  have hw1 : 0 < k → 0 ≤ IntKind.i64.wrap ((k : Int) - 1) := fun h => by rw [IntWalk.i64_in _ (by omega)]; omega
  repeat' (first|(with_reducible first|refine aw_seq ?_|refine thn_normal ?_|refine thn_ret ?_|refine thn_exit ?_|refine blk_normal ?_|refine blk_ret ?_|refine blk_hit ?_|refine blk_miss rfl ?_|refine aw_block ?_|refine aw_ret ?_|refine aw_skip ?_|refine aw_exit ?_|refine w_nil ?_|refine x_nil (by kernel_rfl) ?_)|refine aw_region ?_|refine aw_region_draw (by kernel_rfl) ?_|refine aw_yes rfl ?_|refine aw_no rfl ?_|((with_reducible refine w_seq ?_);first|refine r_q tbOk rfl rfl rfl rfl ?_|refine r_e tbOk rfl rfl rfl rfl rfl ?_|refine r_yes tbOk rfl rfl rfl rfl rfl rfl ?_|refine w_no rfl rfl (lookO_spec rfl) rfl rfl rfl ?_|refine w_un rfl rfl (lookO_spec rfl) rfl rfl ?_)|((with_reducible refine w_drw ?_);first|refine rx_q tbOk rfl rfl rfl rfl ?_|refine rx_e tbOk rfl rfl rfl rfl rfl ?_|refine rx_yes tbOk rfl rfl rfl rfl rfl rfl ?_|refine x_no rfl rfl (lookO_spec rfl) rfl rfl rfl ?_|refine x_un rfl rfl (lookO_spec rfl) rfl rfl ?_)|((first|refine' w_q rfl rfl ?xa rfl ?_|refine' v_q rfl rfl ?xa rfl ?_|refine' w_yes rfl rfl (lookO_spec rfl) rfl ?xa rfl ?_|refine' v_yes rfl rfl (lookO_spec rfl) rfl ?xa rfl ?_);case xa => first|exact k_index tbOk rfl rfl rfl rfl (by first|omega|exact hw1 (by omega)) (by first|exact edges_at (by omega)|exact hixp (by omega) (by omega))|exact k_call (f_l1In _ _ _) rfl ⟨asA_r (evO_spec rfl), asA_r (evO_spec rfl), asA_r (evO_spec rfl), trivial⟩|exact k_call (f_l4Before (_, _, _) (_, _, _)) rfl ⟨asA_agg (evO_spec rfl) ⟨cAr_r, cAr_r, cAr_r, trivial⟩, asA_agg (evO_spec rfl) ⟨cAr_r, cAr_r, cAr_r, trivial⟩, trivial⟩)|((first|refine aw_ways rfl ?_ ?_|refine r_split rfl rfl rfl ?_ ?_) <;> intro hg_ <;> fail_if_success (exact Bool.noConfusion hg_)) <;> (try simp only [prn] at hg_) <;> (try first|contradiction|(exfalso;omega)))
  · exact ret_tmp rfl (dres_bool (by rw [gOk_spec, HP, chain_step (by omega), eOk_in]; simp_all))
  · exact ret_tmp rfl (dres_bool (by rw [gOk_spec, HP, chain_step (by omega), eOk_in]; simp_all))
  · exact ret_tmp rfl (dres_bool (by rw [gOk_spec, HP, chain_step (by omega), eOk_in]; simp_all))
  · exact ret_tmp rfl (dres_bool (by rw [gOk_spec, HP, chain_step (by omega), eOk_in]; simp_all))
  · exact ret_tmp rfl (dres_bool (by rw [gOk_spec, HP, chain_step (by omega), prevE_pos (by omega) hk]; simp_all [ordOk]))
  · exact ⟨k + 1, ⟨by omega, by rw [HP, chain_step (by omega), eOk_in, prevE_pos (by omega) hk];simp_all [ordOk]⟩, by (refine weak_ren [] rfl ?_ ?_ <;> repeat' (first|exact trivial|refine subR_cons rfl ?_ ?_|refine subHR_cons rfl ?_ ?_|rfl|(refine d_int ?_;(first|rfl|omega|(rw [IntWalk.i64_in _ (by omega)] <;> omega)|(simp;done)|(simp;omega)))|(refine d_bool ?_;(first|(simp_all;done)|(rw [Bool.eq_iff_iff];simp_all;done)|(rw [Bool.eq_iff_iff];simp_all;omega)|(rw [Bool.eq_iff_iff];simp;omega))))), by omega⟩
  · obtain rfl : k = 0 := by omega
    exact ⟨1, ⟨by omega, by rw [HP, chain_step (by omega), eOk_in];simp_all [ordOk, prevE]⟩, by (refine weak_ren [] rfl ?_ ?_ <;> repeat' (first|exact trivial|refine subR_cons rfl ?_ ?_|refine subHR_cons rfl ?_ ?_|rfl|(refine d_int ?_;(first|rfl|omega|(rw [IntWalk.i64_in _ (by omega)] <;> omega)|(simp;done)|(simp;omega)))|(refine d_bool ?_;(first|(simp_all;done)|(rw [Bool.eq_iff_iff];simp_all;done)|(rw [Bool.eq_iff_iff];simp_all;omega)|(rw [Bool.eq_iff_iff];simp;omega))))), by omega⟩
  · exact ret_tmp rfl (dres_bool (by rw [gOk_spec, HP, chain_end (by omega)]; unfold inR at *; simp_all; omega))
  · exact ret_tmp rfl (dres_bool (by rw [gOk_spec]; unfold inR at *; simp_all; intros; omega))
theorem flat_ints (xs : List Int) : flat (ints xs) = xs.map int := by
  unfold flat ints
  rw [List.flatMap_map]
  induction xs with
  | nil => rfl
  | cons x xs ih => rw [List.flatMap_cons, ih]; rfl
theorem flat_edges : ∀ es : List E3, flat (edges es) = (ev es).map val
  | [] => rfl
  | e :: es => by
    have := flat_edges es
    unfold flat edges at this ⊢
    rw [List.map_cons, List.flatMap_cons, this]
    rfl
theorem src_of {c : Cx} {v : Value} {nil : Bool} {sz : Nat} {els : List P0} {us : List Value} (h : (row nil sz els).p c v) (hf : flat els = us.map val) (hn : us.length = els.length * sz) : ∃ ao cap, v = .slice ao els.length cap ∧ Src c.w ao els.length sz us ∧ els.length ≤ cap ∧ cap ≤ maxLen ∧ (ao = none → cap = 0) := by
  obtain ⟨ao, cap, h1, h2, h3, h4, h5⟩ := row_p.1 h
  refine ⟨ao, cap, h1, ⟨hn, fun hp => ?_⟩, h2.1, h2.2, h4⟩
  obtain ⟨b, o, e1, e2, e3, e4⟩ := h5 hp
  obtain ⟨f1, f2⟩ := flat_of (q := fun p r => ∃ u, c.w.cell? ⟨b, o + p, none⟩ = some u ∧ r.p c u) (fun i e hi => ⟨(e4 i e hi).1, fun j r hj => by
    obtain ⟨u, hu, hr⟩ := (e4 i e hi).2 j r hj
    exact ⟨u, by rw [← Nat.add_assoc]; exact hu, hr⟩⟩)
  refine ⟨b, o, e1, fun j u hj => ?_⟩
  obtain ⟨u', hu, hr⟩ := f2 j (val u) (by rw [hf]; simp [hj])
  rw [(val_p.1 hr).1] at hu
  exact hu
theorem edges_arg {c : Cx} {v : Value} {nil : Bool} {es : List E3} (h : (row nil 3 (edges es)).p c v) : ∃ ao cap, v = .slice ao es.length cap ∧ Se c.w ao es ∧ es.length ≤ cap ∧ cap ≤ maxLen ∧ (ao = none → cap = 0) := by
  obtain ⟨ao, cap, h1, h2, h3⟩ := src_of (us := ev es) h (flat_edges es) (by rw [ev_len, edges_len])
  rw [edges_len] at h1 h2 h3
  exact ⟨ao, cap, h1, h2, h3⟩
theorem ints_arg {c : Cx} {v : Value} {nil : Bool} {xs : List Int} (h : (row nil 1 (ints xs)).p c v) : ∃ ao cap, v = .slice ao xs.length cap ∧ Sl c.w ao xs ∧ xs.length ≤ cap ∧ cap ≤ maxLen ∧ (ao = none → cap = 0) := by
  obtain ⟨ao, cap, h1, h2, h3⟩ := src_of (us := iv xs) h (by rw [flat_ints]; simp [iv]) (by simp [iv, ints_len])
  rw [ints_len] at h1 h2 h3
  exact ⟨ao, cap, h1, h2, h3⟩
theorem graph_arg {c : Cx} {v : Value} {m : Int} {nil : Bool} {es : List E3} (h : (graphP m nil es).p c v) : ∃ ao cap, v = gr m ao es.length cap ∧ Se c.w ao es := by
  obtain ⟨vs, h1, h2, h3⟩ := h
  obtain ⟨u0, e0, p0⟩ := h3 0 _ rfl
  obtain ⟨u1, e1, p1⟩ := h3 1 _ rfl
  obtain ⟨ao, cap, f1, f2, _⟩ := edges_arg p1
  have hv : vs = [u0, u1] := by
    match vs, h2, e0, e1 with
    | [a, b], _, e0, e1 => simp at e0 e1; rw [e0, e1]
  have hu0 := (val_p.1 p0).1
  subst hv hu0 f1
  exact ⟨ao, cap, h1, f2⟩
theorem bool_res (c : Cx) (b : Bool) : (Res.v (.one (bool b))).p c (.bool b) := (val_p (c := c)).2 ⟨rfl, rfl⟩
theorem f_implGraphValid (m : Int) (nil : Bool) (es : List E3) (hl : es.length ≤ maxLen) : Fn Try.prog 59 [graphP m nil es] (.v (.one (bool (gOk m es)))) := by
  refine ⟨ent_of Try.func59 (by kernel_rfl) rfl, fun w vs _ hA => ?_⟩
  match vs, hA with
  | [v], ⟨h1, _⟩ =>
    obtain ⟨ao, cap, rfl, hs⟩ := graph_arg h1
    refine (implGraphValid m ao cap es w hl hs).mono ?_
    rintro e w' ⟨rfl, hb⟩
    exact ⟨_, rfl, bool_res _ _, hb⟩
end Go.Proofs.Ytmkecjamfippfaa.Abs
