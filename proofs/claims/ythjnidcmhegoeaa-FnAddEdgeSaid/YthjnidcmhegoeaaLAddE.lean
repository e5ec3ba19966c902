/- FnAddEdge by states: what AddEdge says of weights; the draw; the law. -/
import Derived.Test.YthjnidcmhegoeaaGIns
import Derived.Test.YthjnidcmhegoeaaTy
import Derived.Lib.Hide
import Derived.Test.YthjnidcmhegoeaaAImH
import Derived.Test.YthjnidcmhegoeaaAGrH
import Derived.Test.YthjnidcmhegoeaaASamG
import Derived.Test.YthjnidcmhegoeaaBCosts
import Derived.Test.YthjnidcmhegoeaaLAddX
set_option linter.unusedSimpArgs false
set_option linter.unusedVariables false
namespace Go.Proofs.Ythjnidcmhegoeaa.Abs
open Go.RowKit
open R (val row ref)

theorem same_ends {m : Int} {X : List E3} (hg : gOk m X = true) {i j : Nat} (hi : i < X.length) (hj : j < X.length) (h1 : X[i].1 = X[j].1) (h2 : X[i].2.1 = X[j].2.1) : i = j := by
  have hc : chain (hasV m) none X = true := by unfold gOk at hg; simp only [Bool.and_eq_true] at hg; exact hg.2
  rcases Nat.lt_trichotomy i j with h | h | h
  · have := chain_before X none hc i j hi hj h
    unfold before at this
    rw [decide_eq_true_eq] at this
    omega
  · exact h
  · have := chain_before X none hc j i hj hi h
    unfold before at this
    rw [decide_eq_true_eq] at this
    omega
theorem mem_ends {m : Int} {X : List E3} (hg : gOk m X = true) {x y : E3} (hx : x ∈ X) (hy : y ∈ X) (h1 : x.1 = y.1) (h2 : x.2.1 = y.2.1) : x = y := by
  obtain ⟨i, hi, rfl⟩ := List.getElem_of_mem hx
  obtain ⟨j, hj, rfl⟩ := List.getElem_of_mem hy
  have := same_ends hg hi hj h1 h2
  subst this
  rfl
theorem wOf_mem {m : Int} {X : List E3} (hg : gOk m X = true) {o : E3} (ho : o ∈ X) : wOf m X o.1 o.2.1 = o.2.2 := by
  unfold wOf
  rw [if_pos hg]
  unfold wE
  cases hf : X.find? (isE o.1 o.2.1) with
  | none =>
    have := List.find?_eq_none.1 hf o ho
    unfold isE at this
    simp at this
  | some x =>
    have h1 := List.find?_some hf
    have h2 := List.mem_of_find?_eq_some hf
    unfold isE at h1
    simp only [Bool.and_eq_true, decide_eq_true_eq] at h1
    rw [mem_ends hg h2 ho h1.1 h1.2]
theorem ins_mem (e : E3) (es : List E3) : e ∈ ins e es := by
  rw [ins_pos]
  split
  · rename_i h
    exact List.mem_set (fnd_lt h) e
  · simp
theorem ins_old {e o : E3} {es : List E3} (ho : o ∈ es) (hne : ¬ (o.1 = e.1 ∧ o.2.1 = e.2.1)) : o ∈ ins e es := by
  rw [ins_pos]
  split
  · rename_i h
    have hp := fnd_lt h
    obtain ⟨i, hi, rfl⟩ := List.getElem_of_mem ho
    have hip : posE e es ≠ i := fun c => by
      subst c
      unfold fndE at h
      rw [List.getElem?_eq_getElem hp] at h
      simp only [decide_eq_true_eq] at h
      exact hne ((cmpE_zero _ _).1 h)
    refine List.mem_iff_getElem.2 ⟨i, by rw [List.length_set]; exact hi, ?_⟩
    rw [List.getElem_set_ne hip]
  · have h2 : o ∈ es.take (posE e es) ++ es.drop (posE e es) := by rw [List.take_append_drop]; exact ho
    rcases List.mem_append.1 h2 with h3 | h3
    · exact List.mem_append_left _ h3
    · exact List.mem_append_right _ (List.mem_cons_of_mem _ h3)
theorem ins_again {m : Int} {e : E3} {es : List E3} (hg : gOk m (ins e es) = true) : ins e (ins e es) = ins e es := by
  have hm := ins_mem e es
  generalize ins e es = X at *
  obtain ⟨k, hk, hke⟩ := List.getElem_of_mem hm
  have hc : chain (hasV m) none X = true := by unfold gOk at hg; simp only [Bool.and_eq_true] at hg; exact hg.2
  have hp : posE e X = k := by
    have h1 := pos_iff hg e k hk
    rw [hke] at h1
    have h2 : before e e = false := by unfold before; simp
    rw [h2] at h1
    have h3 : ¬ k < posE e X := by simpa using h1.symm
    rcases Nat.eq_or_lt_of_le (show posE e X ≤ k by omega) with h4 | h4
    · exact h4
    · have h5 := chain_before X none hc (posE e X) k (by omega) hk h4
      have h6 := pos_iff hg e (posE e X) (by omega)
      rw [hke] at h5
      rw [h5] at h6
      simp at h6
  have hf : fndE e X = true := by
    unfold fndE
    rw [hp, List.getElem?_eq_getElem hk, hke]
    simp only [decide_eq_true_eq]
    exact (cmpE_zero _ _).2 ⟨rfl, rfl⟩
  rw [ins_pos, if_pos hf, hp]
  have h7 := List.set_getElem_self hk
  rwa [hke] at h7
theorem addE_lenE {m : Int} {es : List E3} (e : E3) (hl : es.length ≤ 40) : (addE m es e).1.length ≤ 41 := by
  unfold addE
  have := ins_len e es
  split
  · dsimp only; omega
  · dsimp only; omega
theorem addE_again {m : Int} {e : E3} {es : List E3} (h : (addE m es e).2 = true) : gOk m (addE m es e).1 = true ∧ (addE m es e).1 = ins e es ∧ addE m (ins e es) e = (ins e es, true) := by
  unfold addE at *
  split at h
  · rename_i hg
    rw [if_pos hg]
    refine ⟨hg, rfl, ?_⟩
    rw [ins_again hg, if_pos hg]
  · cases h
theorem addE_no {m : Int} {e : E3} {es : List E3} (h : (addE m es e).2 = false) : (addE m es e).1 = es := by
  unfold addE at *
  split at h
  · cases h
  · rename_i hg; rw [if_neg hg]
theorem allN_4 {sz : Nat} {a b c d : P0} (h1 : a.n = sz) (h2 : b.n = sz) (h3 : c.n = sz) (h4 : d.n = sz) : AllN sz [a, b, c, d] := fun i x hx => by
  match i, hx with
  | 0, hx => obtain rfl : a = x := by simpa using hx
             exact h1
  | 1, hx => obtain rfl : b = x := by simpa using hx
             exact h2
  | 2, hx => obtain rfl : c = x := by simpa using hx
             exact h3
  | 3, hx => obtain rfl : d = x := by simpa using hx
             exact h4
  | i + 4, hx => simp at hx
set_option maxRecDepth 100000 in
set_option maxHeartbeats 4000000 in
theorem f_drawAdd (nb : Bool) (code : List Int) (hB : Byte code) (hl : code.length ≤ 1048576) :
    ∃ (nE : Bool) (m : Int) (es : List E3) (e : E3), ((nE = true → es = []) ∧ -1 ≤ m ∧ m ≤ 17 ∧ es.length ≤ 41) ∧ Fn Try.prog 16 [.one (row nb 1 (bys code))] (.tup [graphP m nE es, edgeP e]) := by
  have K0 := f_open nb code hl
  have hB2 := byte_take2 hB 2000
  have hl2 : (code.take 2000).length ≤ 2000 := by rw [List.length_take]; omega
  obtain ⟨nE, m, es, p', ⟨e1, e2, e3, e4, e5, e6⟩, KG0⟩ := f_l20Graph (bs := code.take 2000) 0 12 (by omega) (by omega) hB2 hl2 (by omega) (by omega)
  have KG := KG0 false true nb
  have KE := f_l20Edge (bs := code.take 2000) p' m (by omega) hB2 hl2 (by omega) (by omega) false true nb
  have KO := f_odd (bs := code.take 2000) (p' + 1 + 1 + 1 + 1) 9 (by omega) (by omega) hB2 hl2 (by omega) (by omega) false true nb
  have KP := f_pick (bs := code.take 2000) (p' + 1 + 1 + 1 + 1 + 1) 4 hB2 hl2 (by omega) (by omega) false true nb
  have hv := pickV_in (code.take 2000) (p' + 1 + 1 + 1 + 1 + 1) 4
  generalize pickV (code.take 2000) (p' + 1 + 1 + 1 + 1 + 1) 4 = V at *
  generalize edgV (code.take 2000) p' m = ed at *
  generalize oddV (code.take 2000) (p' + 1 + 1 + 1 + 1) 9 = od at *
  obtain ⟨ea, eb, ec⟩ := ed
  have hq : ∃ q : E3, [P0.agg [int (-1), int 0, int 0], P0.agg [int 0, int 16, int 0], P0.agg [int 0, int 1, int (-1)], P0.agg [int 1, int 1, int 0]][V.toNat]? = some (edgeP q) := by
    have : V = 0 ∨ V = 1 ∨ V = 2 ∨ V = 3 := by omega
    rcases this with rfl | rfl | rfl | rfl
    · exact ⟨(-1, 0, 0), rfl⟩
    · exact ⟨(0, 16, 0), rfl⟩
    · exact ⟨(0, 1, -1), rfl⟩
    · exact ⟨(1, 1, 0), rfl⟩
  obtain ⟨⟨qa, qb, qc⟩, hq⟩ := hq
  refine ⟨nE, m, es, if od = true then (qa, qb, qc) else (ea, eb, ec), ⟨e1, e2, e3, e4⟩, ?_⟩
  clear KG0 hB2 hl2 hB
  generalize code.take 2000 = bs at *
  unfold rdH at *
  cases od
  all_goals
    (try simp only [if_true, if_false, Bool.false_eq_true])
    refine fn_of (l := [.cell 2 30, .cell 3 34]) Try.func16 (by kernel_rfl) rfl Try.ntmps16 rfl rfl ?_; simp only [argEnv, P0.d, Nat.reduceAdd, graphP, edgeP, List.map_cons, List.map_nil]
    repeat' (first | (with_reducible first | refine aw_seq ?_ | refine thn_normal ?_ | refine thn_ret ?_ | refine thn_exit ?_ | refine blk_normal ?_ | refine blk_ret ?_ | refine blk_hit ?_ | refine blk_miss rfl ?_ | refine aw_block ?_ | refine aw_ret ?_ | refine aw_skip ?_ | refine aw_exit ?_ | refine w_nil ?_ | refine x_nil (by kernel_rfl) ?_) | refine aw_region ?_ | refine aw_region_draw (by kernel_rfl) ?_ | refine aw_yes rfl ?_ | refine aw_no rfl ?_ | ((with_reducible refine w_seq ?_); first | refine r_q tbOk rfl rfl rfl rfl ?_ | refine r_e tbOk rfl rfl rfl rfl rfl ?_ | refine r_yes tbOk rfl rfl rfl rfl rfl rfl ?_ | refine w_no rfl rfl (lookO_spec rfl) rfl rfl rfl ?_ | refine w_un rfl rfl (lookO_spec rfl) rfl rfl ?_) | ((with_reducible refine w_drw ?_); first | refine rx_q tbOk rfl rfl rfl rfl ?_ | refine rx_e tbOk rfl rfl rfl rfl rfl ?_ | refine rx_yes tbOk rfl rfl rfl rfl rfl rfl ?_ | refine x_no rfl rfl (lookO_spec rfl) rfl rfl rfl ?_ | refine x_un rfl rfl (lookO_spec rfl) rfl rfl ?_) | ((first | refine' w_q rfl rfl ?xa rfl ?_ | refine' v_q rfl rfl ?xa rfl ?_ | refine' w_yes rfl rfl (lookO_spec rfl) rfl ?xa rfl ?_ | refine' v_yes rfl rfl (lookO_spec rfl) rfl ?xa rfl ?_); case xa => first | exact k_indexO tbOk rfl rfl rfl rfl (by omega) (by simp only [List.length_cons, List.length_nil]; omega) | exact k_loadS (e := edgeP (qa, qb, qc)) tbOk rfl rfl rfl rfl (by rw [Nat.zero_add]; exact hq) rfl (Nat.le_refl 3) (.inl rfl)) | ((first | refine' w_e rfl ?xa ?xb ?xc ?xe ?_ | refine' v_e rfl ?xa ?xb ?xc ?xe ?_); (case xa => first | exact e_callS [(2000001, 600)] K0 rfl ⟨by rw [evO_spec rfl]; exact asD_r rfl, trivial⟩ trivial rfl | exact e_callS [(1000000000, 600)] KG rfl ⟨asD_ren (evO_spec rfl), by rw [evO_spec rfl]; exact asD_r rfl, trivial⟩ (by (repeat' (first | exact trivial | refine subHR_cons rfl ?_ ?_ | rfl))) rfl | exact e_callS [(1000000000, 600)] KE rfl ⟨asD_ren (evO_spec rfl), by rw [evO_spec rfl]; exact asD_r rfl, trivial⟩ (by (repeat' (first | exact trivial | refine subHR_cons rfl ?_ ?_ | rfl))) rfl | exact e_callS [(1000000000, 600)] KO rfl ⟨asD_ren (evO_spec rfl), by rw [evO_spec rfl]; exact asD_r rfl, trivial⟩ (by (repeat' (first | exact trivial | refine subHR_cons rfl ?_ ?_ | rfl))) rfl | exact e_callS [(1000000000, 600)] KP rfl ⟨asD_ren (evO_spec rfl), by rw [evO_spec rfl]; exact asD_r rfl, trivial⟩ (by (repeat' (first | exact trivial | refine subHR_cons rfl ?_ ?_ | rfl))) rfl | exact e_build [.tmp 17, .tmp 18, .tmp 19, .tmp 20] tlOk rfl rfl rfl rfl rfl rfl (allN_4 rfl rfl rfl rfl) (by simp)); (case xb => rfl); (case xc => rfl); (case xe => rfl); try dsimp only [P0.d, Res.d, List.map_cons, List.map_nil, List.set_cons_zero, List.set_cons_succ, Nat.reduceAdd]) | ((first | refine aw_ways rfl ?_ ?_ | refine r_split rfl rfl rfl ?_ ?_) <;> intro hg_ <;> fail_if_success (exact Bool.noConfusion hg_)) <;> (try simp only [prn] at hg_) <;> (try first | contradiction | (exfalso; omega)))
    all_goals first
      | exact ret_2 (rv_cell rfl rfl (by (with_reducible first | exact ty3 | exact ty4 | exact ty5 | exact ty9 | exact ty17 | exact ty19 | exact ty22 | exact ty24 | exact ty26 | exact ty28 | exact ty30 | exact ty34 | exact ty39 | exact ty47 | exact ty49 | exact ty54 | exact ty56 | exact ty57 | exact ty58 | exact ty60 | exact ty69 | exact ty72 | exact ty83 | exact ty88 | exact ty119 | exact ty124 | exact ty125 | exact ty133 | exact ty145 | exact ty146 | exact ty149 | exact ty156 | exact ty157 | exact ty161 | exact ty165 | exact ty167 | exact ty168)) rfl rfl rfl (dres_agg (by exact ⟨cres_val, cres_new, trivial⟩))) (rv_cell rfl rfl (by (with_reducible first | exact ty3 | exact ty4 | exact ty5 | exact ty9 | exact ty17 | exact ty19 | exact ty22 | exact ty24 | exact ty26 | exact ty28 | exact ty30 | exact ty34 | exact ty39 | exact ty47 | exact ty49 | exact ty54 | exact ty56 | exact ty57 | exact ty58 | exact ty60 | exact ty69 | exact ty72 | exact ty83 | exact ty88 | exact ty119 | exact ty124 | exact ty125 | exact ty133 | exact ty145 | exact ty146 | exact ty149 | exact ty156 | exact ty157 | exact ty161 | exact ty165 | exact ty167 | exact ty168)) rfl rfl rfl (dres_agg (by exact ⟨cres_val, cres_val, cres_val, trivial⟩)))
      | trace_state
set_option maxRecDepth 100000 in
set_option maxHeartbeats 8000000 in
theorem f_lawAddE (nb : Bool) (code : List Int) (hB : Byte code) (hl : code.length ≤ 1048576) : Fn Try.prog 4 [.one (row nb 1 (bys code))] (.v (.one (bool true))) := by
  have hlb := bys_len code
  obtain ⟨nE, m, es, e, ⟨g1, g2, g3, g4⟩, KD⟩ := f_drawAdd nb code hB hl
  have KA := f_alive2
  cases hg : gOk m es with
  | false =>
    have KI := f_implAddBad m nE es e (by omega) hg
    have KS := f_specAddBad m nE es e (by omega) hg
    have KQ := f_sameGraphR 0 true true [] (by simp)
    obtain ⟨e1, e2, e3⟩ := e
    refine fn_of (l := [.tmp 2]) Try.func4 (by kernel_rfl) rfl Try.ntmps4 rfl rfl ?_; simp only [argEnv, P0.d, Nat.reduceAdd]
    repeat' (first | (with_reducible first | refine aw_seq ?_ | refine thn_normal ?_ | refine thn_ret ?_ | refine thn_exit ?_ | refine blk_normal ?_ | refine blk_ret ?_ | refine blk_hit ?_ | refine blk_miss rfl ?_ | refine aw_block ?_ | refine aw_ret ?_ | refine aw_skip ?_ | refine aw_exit ?_ | refine w_nil ?_ | refine x_nil (by kernel_rfl) ?_) | refine aw_region ?_ | refine aw_region_draw (by kernel_rfl) ?_ | refine aw_yes rfl ?_ | refine aw_no rfl ?_ | ((with_reducible refine w_seq ?_); first | refine r_q tbOk rfl rfl rfl rfl ?_ | refine r_e tbOk rfl rfl rfl rfl rfl ?_ | refine r_yes tbOk rfl rfl rfl rfl rfl rfl ?_ | refine w_no rfl rfl (lookO_spec rfl) rfl rfl rfl ?_ | refine w_un rfl rfl (lookO_spec rfl) rfl rfl ?_) | ((with_reducible refine w_drw ?_); first | refine rx_q tbOk rfl rfl rfl rfl ?_ | refine rx_e tbOk rfl rfl rfl rfl rfl ?_ | refine rx_yes tbOk rfl rfl rfl rfl rfl rfl ?_ | refine x_no rfl rfl (lookO_spec rfl) rfl rfl rfl ?_ | refine x_un rfl rfl (lookO_spec rfl) rfl rfl ?_) | ((first | refine' w_q rfl rfl ?xa rfl ?_ | refine' v_q rfl rfl ?xa rfl ?_ | refine' w_yes rfl rfl (lookO_spec rfl) rfl ?xa rfl ?_ | refine' v_yes rfl rfl (lookO_spec rfl) rfl ?xa rfl ?_); case xa => first | exact k_call KD rfl ⟨asA_r (evO_spec rfl), trivial⟩ | exact k_call KI rfl ⟨asA_agg (evO_spec rfl) ⟨cAr_r, cAr_r, trivial⟩, asA_agg (evO_spec rfl) ⟨cAr_r, cAr_r, cAr_r, trivial⟩, trivial⟩ | exact k_call KS rfl ⟨asA_agg (evO_spec rfl) ⟨cAr_r, cAr_r, trivial⟩, asA_agg (evO_spec rfl) ⟨cAr_r, cAr_r, cAr_r, trivial⟩, trivial⟩ | exact k_call KQ rfl ⟨asA_agg (evO_spec rfl) ⟨cAr_r, cAr_r, trivial⟩, asA_agg (evO_spec rfl) ⟨cAr_r, cAr_r, trivial⟩, trivial⟩ | exact k_call KA rfl trivial | exact k_neB bo4 rfl rfl rfl) | ((first | refine aw_ways rfl ?_ ?_ | refine r_split rfl rfl rfl ?_ ?_) <;> intro hg_ <;> fail_if_success (exact Bool.noConfusion hg_)) <;> (try simp only [prn] at hg_) <;> (try first | contradiction | (exfalso; omega)))
    all_goals first
      | exact ret_tmp rfl (dres_bool rfl)
      | (exfalso; first | omega | (simp at hg_; done) | (simp at hg_; omega))
      | trace_state
  | true =>
    have h40 := gOk_len hg
    have hA := addE_len (m := m) e h40
    have hN := ins_len e es
    obtain ⟨nx, hnx, KI⟩ := f_implAddF m nE es e hg g1
    have KS := f_specAddEdge m nE es e hg
    have hlen := edges_len es
    have hle := edges_len (addE m es e).1
    cases hb : (addE m es e).2 with
    | false =>
      have h1 := addE_no hb
      rw [h1, hb] at KI KS
      have KQ := f_sameGraphR m nx false es (by omega)
      have KQ2 := f_sameGraphR m nx nE es (by omega)
      obtain ⟨e1, e2, e3⟩ := e
      refine fn_of (l := [.tmp 2]) Try.func4 (by kernel_rfl) rfl Try.ntmps4 rfl rfl ?_; simp only [argEnv, P0.d, Nat.reduceAdd]
      repeat' (first | (with_reducible first | refine aw_seq ?_ | refine thn_normal ?_ | refine thn_ret ?_ | refine thn_exit ?_ | refine blk_normal ?_ | refine blk_ret ?_ | refine blk_hit ?_ | refine blk_miss rfl ?_ | refine aw_block ?_ | refine aw_ret ?_ | refine aw_skip ?_ | refine aw_exit ?_ | refine w_nil ?_ | refine x_nil (by kernel_rfl) ?_) | refine aw_region ?_ | refine aw_region_draw (by kernel_rfl) ?_ | refine aw_yes rfl ?_ | refine aw_no rfl ?_ | ((with_reducible refine w_seq ?_); first | refine r_q tbOk rfl rfl rfl rfl ?_ | refine r_e tbOk rfl rfl rfl rfl rfl ?_ | refine r_yes tbOk rfl rfl rfl rfl rfl rfl ?_ | refine w_no rfl rfl (lookO_spec rfl) rfl rfl rfl ?_ | refine w_un rfl rfl (lookO_spec rfl) rfl rfl ?_) | ((with_reducible refine w_drw ?_); first | refine rx_q tbOk rfl rfl rfl rfl ?_ | refine rx_e tbOk rfl rfl rfl rfl rfl ?_ | refine rx_yes tbOk rfl rfl rfl rfl rfl rfl ?_ | refine x_no rfl rfl (lookO_spec rfl) rfl rfl rfl ?_ | refine x_un rfl rfl (lookO_spec rfl) rfl rfl ?_) | ((first | refine' w_q rfl rfl ?xa rfl ?_ | refine' v_q rfl rfl ?xa rfl ?_ | refine' w_yes rfl rfl (lookO_spec rfl) rfl ?xa rfl ?_ | refine' v_yes rfl rfl (lookO_spec rfl) rfl ?xa rfl ?_); case xa => first | exact k_call KD rfl ⟨asA_r (evO_spec rfl), trivial⟩ | exact k_call KI rfl ⟨asA_agg (evO_spec rfl) ⟨cAr_r, cAr_r, trivial⟩, asA_agg (evO_spec rfl) ⟨cAr_r, cAr_r, cAr_r, trivial⟩, trivial⟩ | exact k_call KQ rfl ⟨asA_agg (evO_spec rfl) ⟨cAr_r, cAr_r, trivial⟩, asA_agg (evO_spec rfl) ⟨cAr_r, cAr_own0 (lookHO_spec rfl) hlen.symm, trivial⟩, trivial⟩ | exact k_call KQ2 rfl ⟨asA_agg (evO_spec rfl) ⟨cAr_r, cAr_r, trivial⟩, asA_agg (evO_spec rfl) ⟨cAr_r, cAr_r, trivial⟩, trivial⟩ | exact k_call KA rfl trivial | exact k_neB bo4 rfl rfl rfl) | ((first | refine' w_e rfl ?xa ?xb ?xc ?xe ?_ | refine' v_e rfl ?xa ?xb ?xc ?xe ?_); (case xa => exact at_dst 30 rfl (e_callS0 (ys := [graphP m nE es, edgeP (e1, e2, e3)]) [(2000001, 600)] KS rfl rfl ⟨asA_agg (evO_spec rfl) ⟨cAr_r, cAr_r, trivial⟩, asA_agg (evO_spec rfl) ⟨cAr_r, cAr_r, cAr_r, trivial⟩, trivial⟩ rfl rfl)); (case xb => rfl); (case xc => rfl); (case xe => rfl); try dsimp only [P0.d, Res.d, List.map_cons, List.map_nil, List.set_cons_zero, List.set_cons_succ, Nat.reduceAdd]) | ((first | refine aw_ways rfl ?_ ?_ | refine r_split rfl rfl rfl ?_ ?_) <;> intro hg_ <;> fail_if_success (exact Bool.noConfusion hg_)) <;> (try simp only [prn] at hg_) <;> (try first | contradiction | (exfalso; omega)))
      all_goals first
        | exact ret_tmp rfl (dres_bool rfl)
        | (exfalso; first | omega | (simp at hg_; done) | (simp at hg_; omega))
        | trace_state
    | true =>
      obtain ⟨h1, h2, h3⟩ := addE_again hb
      obtain rfl := hnx hb
      rw [h2] at h1 hA
      rw [h2, hb] at KI KS
      have KI2 := f_implAddO m (ins e es) e h1
      rw [h3] at KI2
      dsimp only at KI2
      have hlX := edges_len (ins e es)
      have KQ := f_sameGraphR m false false (ins e es) (by omega)
      have KV := f_implGraphValid m false (ins e es) (by simp only [maxLen]; omega)
      rw [h1] at KV
      have KW := fun a b => f_implWeightOf m false (ins e es) a b (by simp only [maxLen]; omega)
      have hWe := wOf_mem h1 (ins_mem e es)
      have hWo : ∀ o : E3, o ∈ es → ¬ (o.1 = e.1 ∧ o.2.1 = e.2.1) → wOf m (ins e es) o.1 o.2.1 = o.2.2 := fun o ho hne => wOf_mem h1 (ins_old ho hne)
      have hXl : ((edges (ins e es)).length : Int) ≤ IntKind.i64.wrap (((edges es).length : Int) + 1) := by rw [IntWalk.i64_in _ (by omega)]; omega
      clear hle h2 h3 hb h1
      generalize ins e es = X at *
      have KWe := KW e.1 e.2.1
      rw [hWe] at KWe
      obtain ⟨e1, e2, e3⟩ := e
      dsimp only at *
      refine fn_of (l := [.tmp 2]) Try.func4 (by kernel_rfl) rfl Try.ntmps4 rfl rfl ?_; simp only [argEnv, P0.d, Nat.reduceAdd]
      repeat' (first | (with_reducible first | refine aw_seq ?_ | refine thn_normal ?_ | refine thn_ret ?_ | refine thn_exit ?_ | refine blk_normal ?_ | refine blk_ret ?_ | refine blk_hit ?_ | refine blk_miss rfl ?_ | refine aw_block ?_ | refine aw_ret ?_ | refine aw_skip ?_ | refine aw_exit ?_ | refine w_nil ?_ | refine x_nil (by kernel_rfl) ?_) | refine aw_region ?_ | refine aw_region_draw (by kernel_rfl) ?_ | refine aw_yes rfl ?_ | refine aw_no rfl ?_ | ((with_reducible refine w_seq ?_); first | refine r_q tbOk rfl rfl rfl rfl ?_ | refine r_e tbOk rfl rfl rfl rfl rfl ?_ | refine r_yes tbOk rfl rfl rfl rfl rfl rfl ?_ | refine w_no rfl rfl (lookO_spec rfl) rfl rfl rfl ?_ | refine w_un rfl rfl (lookO_spec rfl) rfl rfl ?_) | ((with_reducible refine w_drw ?_); first | refine rx_q tbOk rfl rfl rfl rfl ?_ | refine rx_e tbOk rfl rfl rfl rfl rfl ?_ | refine rx_yes tbOk rfl rfl rfl rfl rfl rfl ?_ | refine x_no rfl rfl (lookO_spec rfl) rfl rfl rfl ?_ | refine x_un rfl rfl (lookO_spec rfl) rfl rfl ?_) | ((first | refine' w_q rfl rfl ?xa rfl ?_ | refine' v_q rfl rfl ?xa rfl ?_ | refine' w_yes rfl rfl (lookO_spec rfl) rfl ?xa rfl ?_ | refine' v_yes rfl rfl (lookO_spec rfl) rfl ?xa rfl ?_); case xa => first | exact k_call KD rfl ⟨asA_r (evO_spec rfl), trivial⟩ | exact k_call KI rfl ⟨asA_agg (evO_spec rfl) ⟨cAr_r, cAr_r, trivial⟩, asA_agg (evO_spec rfl) ⟨cAr_r, cAr_r, cAr_r, trivial⟩, trivial⟩ | exact k_call KQ rfl ⟨asA_agg (evO_spec rfl) ⟨cAr_r, cAr_r, trivial⟩, asA_agg (evO_spec rfl) ⟨cAr_r, cAr_own0 (lookHO_spec rfl) hlX.symm, trivial⟩, trivial⟩ | exact k_call KI2 rfl ⟨asA_agg (evO_spec rfl) ⟨cAr_r, cAr_r, trivial⟩, asA_agg (evO_spec rfl) ⟨cAr_r, cAr_r, cAr_r, trivial⟩, trivial⟩ | exact k_neB bo4 rfl rfl rfl) | ((first | refine' w_e rfl ?xa ?xb ?xc ?xe ?_ | refine' v_e rfl ?xa ?xb ?xc ?xe ?_); (case xa => exact at_dst 30 rfl (e_callS0 (ys := [graphP m nE es, edgeP (e1, e2, e3)]) [(2000001, 600)] KS rfl rfl ⟨asA_agg (evO_spec rfl) ⟨cAr_r, cAr_r, trivial⟩, asA_agg (evO_spec rfl) ⟨cAr_r, cAr_r, cAr_r, trivial⟩, trivial⟩ rfl rfl)); (case xb => rfl); (case xc => rfl); (case xe => rfl); try dsimp only [P0.d, Res.d, List.map_cons, List.map_nil, List.set_cons_zero, List.set_cons_succ, Nat.reduceAdd]) | ((first | refine aw_ways rfl ?_ ?_ | refine r_split rfl rfl rfl ?_ ?_) <;> intro hg_ <;> fail_if_success (exact Bool.noConfusion hg_)) <;> (try simp only [prn] at hg_) <;> (try first | contradiction | (exfalso; omega)))
      all_goals try (exfalso; first | omega | (simp at hg_; done) | (simp at hg_; omega))
      refine aw_loopI (fun k : Nat => k ≤ es.length) (fun k => mkS 133 [(11, .one (.r true (int k))), (10, .one (.r true (bool true))), (9, .one (.ptr 9 0 0 0)), (5, .one (.ptr 5 0 0 0)), (4, .one (.ptr 4 0 0 0)), (3, .one (.ptr 3 0 0 0))] [(9, .var 30 [.r true (int m), .r true (row false 3 (edges X))]), (5, .var 30 [.r true (int m), .r true (row false 3 (edges X))]), (4, .var 34 [.r true (int e1), .r true (int e2), .r true (int e3)]), (3, .var 30 [.r true (int m), .r true (row nE 3 (edges es))])]) (fun k => es.length - k) 0 (Nat.zero_le _) (by (refine weak_ren [] rfl ?_ ?_ <;> repeat' (first | exact trivial | refine subR_cons rfl ?_ ?_ | refine subHR_cons rfl ?_ ?_ | rfl | (refine d_int ?_; (first | rfl | omega | (rw [IntWalk.i64_in _ (by omega)] <;> omega) | (simp; done) | (simp; omega))) | (refine d_bool ?_; (first | (simp_all; done) | (rw [Bool.eq_iff_iff]; simp_all; done) | (rw [Bool.eq_iff_iff]; simp_all; omega) | (rw [Bool.eq_iff_iff]; simp; omega)))))) ?_
      intro k hk
      by_cases hlt : k < es.length
      · have hix := edges_at hlt
        have hw : IntKind.i64.wrap ((k : Int) + 1) = ((k + 1 : Nat) : Int) := by rw [IntWalk.i64_in _ (by omega)]; omega
        have hWk := hWo es[k] (List.getElem_mem hlt)
        have KWk := KW es[k].1 es[k].2.1
        generalize es[k] = o at *
        obtain ⟨o1, o2, o3⟩ := o
        dsimp only at *
        clear hWo KI KS KI2 KD
        generalize wOf m X o1 o2 = wv at *
        repeat' (first | (with_reducible first | refine aw_seq ?_ | refine thn_normal ?_ | refine thn_ret ?_ | refine thn_exit ?_ | refine blk_normal ?_ | refine blk_ret ?_ | refine blk_hit ?_ | refine blk_miss rfl ?_ | refine aw_block ?_ | refine aw_ret ?_ | refine aw_skip ?_ | refine aw_exit ?_ | refine w_nil ?_ | refine x_nil (by kernel_rfl) ?_) | refine aw_region ?_ | refine aw_region_draw (by kernel_rfl) ?_ | refine aw_yes rfl ?_ | refine aw_no rfl ?_ | ((with_reducible refine w_seq ?_); first | refine r_q tbOk rfl rfl rfl rfl ?_ | refine r_e tbOk rfl rfl rfl rfl rfl ?_ | refine r_yes tbOk rfl rfl rfl rfl rfl rfl ?_ | refine w_no rfl rfl (lookO_spec rfl) rfl rfl rfl ?_ | refine w_un rfl rfl (lookO_spec rfl) rfl rfl ?_) | ((with_reducible refine w_drw ?_); first | refine rx_q tbOk rfl rfl rfl rfl ?_ | refine rx_e tbOk rfl rfl rfl rfl rfl ?_ | refine rx_yes tbOk rfl rfl rfl rfl rfl rfl ?_ | refine x_no rfl rfl (lookO_spec rfl) rfl rfl rfl ?_ | refine x_un rfl rfl (lookO_spec rfl) rfl rfl ?_) | ((first | refine' w_q rfl rfl ?xa rfl ?_ | refine' v_q rfl rfl ?xa rfl ?_ | refine' w_yes rfl rfl (lookO_spec rfl) rfl ?xa rfl ?_ | refine' v_yes rfl rfl (lookO_spec rfl) rfl ?xa rfl ?_); case xa => first | exact k_index tbOk rfl rfl rfl rfl (by omega) (by exact hix) | exact k_call KWk rfl ⟨asA_agg (evO_spec rfl) ⟨cAr_r, cAr_r, trivial⟩, asA_r (evO_spec rfl), asA_r (evO_spec rfl), trivial⟩) | ((first | refine aw_ways rfl ?_ ?_ | refine r_split rfl rfl rfl ?_ ?_) <;> intro hg_ <;> fail_if_success (exact Bool.noConfusion hg_)) <;> (try simp only [prn] at hg_) <;> (try first | contradiction | (exfalso; omega)))
        all_goals first
          | (exfalso; simp_all; done)
          | (exfalso; simp_all; omega)
          | exact ⟨k + 1, by omega, by (refine weak_ren [] rfl ?_ ?_ <;> repeat' (first | exact trivial | refine subR_cons rfl ?_ ?_ | refine subHR_cons rfl ?_ ?_ | rfl | (refine d_int ?_; (first | rfl | omega | (rw [IntWalk.i64_in _ (by omega)] <;> omega) | (simp; done) | (simp; omega))) | (refine d_bool ?_; (first | (simp_all; done) | (rw [Bool.eq_iff_iff]; simp_all; done) | (rw [Bool.eq_iff_iff]; simp_all; omega) | (rw [Bool.eq_iff_iff]; simp; omega))) | exact d_int hw)), by omega⟩
          | trace_state
      · obtain rfl : k = es.length := by omega
        clear hWo KI KS KI2 KD
        repeat' (first | (with_reducible first | refine aw_seq ?_ | refine thn_normal ?_ | refine thn_ret ?_ | refine thn_exit ?_ | refine blk_normal ?_ | refine blk_ret ?_ | refine blk_hit ?_ | refine blk_miss rfl ?_ | refine aw_block ?_ | refine aw_ret ?_ | refine aw_skip ?_ | refine aw_exit ?_ | refine w_nil ?_ | refine x_nil (by kernel_rfl) ?_) | refine aw_region ?_ | refine aw_region_draw (by kernel_rfl) ?_ | refine aw_yes rfl ?_ | refine aw_no rfl ?_ | ((with_reducible refine w_seq ?_); first | refine r_q tbOk rfl rfl rfl rfl ?_ | refine r_e tbOk rfl rfl rfl rfl rfl ?_ | refine r_yes tbOk rfl rfl rfl rfl rfl rfl ?_ | refine w_no rfl rfl (lookO_spec rfl) rfl rfl rfl ?_ | refine w_un rfl rfl (lookO_spec rfl) rfl rfl ?_) | ((with_reducible refine w_drw ?_); first | refine rx_q tbOk rfl rfl rfl rfl ?_ | refine rx_e tbOk rfl rfl rfl rfl rfl ?_ | refine rx_yes tbOk rfl rfl rfl rfl rfl rfl ?_ | refine x_no rfl rfl (lookO_spec rfl) rfl rfl rfl ?_ | refine x_un rfl rfl (lookO_spec rfl) rfl rfl ?_) | ((first | refine' w_q rfl rfl ?xa rfl ?_ | refine' v_q rfl rfl ?xa rfl ?_ | refine' w_yes rfl rfl (lookO_spec rfl) rfl ?xa rfl ?_ | refine' v_yes rfl rfl (lookO_spec rfl) rfl ?xa rfl ?_); case xa => first | exact k_call KV rfl ⟨asA_agg (evO_spec rfl) ⟨cAr_r, cAr_r, trivial⟩, trivial⟩ | exact k_call KQ rfl ⟨asA_agg (evO_spec rfl) ⟨cAr_r, cAr_r, trivial⟩, asA_agg (evO_spec rfl) ⟨cAr_r, cAr_r, trivial⟩, trivial⟩ | exact k_call KWe rfl ⟨asA_agg (evO_spec rfl) ⟨cAr_r, cAr_r, trivial⟩, asA_r (evO_spec rfl), asA_r (evO_spec rfl), trivial⟩) | ((first | refine aw_ways rfl ?_ ?_ | refine r_split rfl rfl rfl ?_ ?_) <;> intro hg_ <;> fail_if_success (exact Bool.noConfusion hg_)) <;> (try simp only [prn] at hg_) <;> (try first | contradiction | (exfalso; omega)))
        all_goals first
          | exact ret_tmp rfl (dres_bool rfl)
          | exact ret_tmp rfl (dres_bool (by simp; omega))
          | (exfalso; simp_all; done)
          | trace_state
set_option maxRecDepth 100000 in
set_option maxHeartbeats 4000000 in
theorem law_addE (nb : Bool) (code : List Int) (hB : Byte code) : Fn Try.prog 4 [.one (row nb 1 (bys code))] (.v (.one (bool true))) := by
  have hlb := bys_len code
  by_cases hl : code.length ≤ 1048576
  · exact f_lawAddE nb code hB hl
  · refine fn_of (l := [.tmp 2]) Try.func4 (by kernel_rfl) rfl Try.ntmps4 rfl rfl ?_; simp only [argEnv, P0.d, Nat.reduceAdd]
    repeat' (first | (with_reducible first | refine aw_seq ?_ | refine thn_normal ?_ | refine thn_ret ?_ | refine thn_exit ?_ | refine blk_normal ?_ | refine blk_ret ?_ | refine blk_hit ?_ | refine blk_miss rfl ?_ | refine aw_block ?_ | refine aw_ret ?_ | refine aw_skip ?_ | refine aw_exit ?_ | refine w_nil ?_ | refine x_nil (by kernel_rfl) ?_) | refine aw_region ?_ | refine aw_region_draw (by kernel_rfl) ?_ | refine aw_yes rfl ?_ | refine aw_no rfl ?_ | ((with_reducible refine w_seq ?_); first | refine r_q tbOk rfl rfl rfl rfl ?_ | refine r_e tbOk rfl rfl rfl rfl rfl ?_ | refine r_yes tbOk rfl rfl rfl rfl rfl rfl ?_ | refine w_no rfl rfl (lookO_spec rfl) rfl rfl rfl ?_ | refine w_un rfl rfl (lookO_spec rfl) rfl rfl ?_) | ((with_reducible refine w_drw ?_); first | refine rx_q tbOk rfl rfl rfl rfl ?_ | refine rx_e tbOk rfl rfl rfl rfl rfl ?_ | refine rx_yes tbOk rfl rfl rfl rfl rfl rfl ?_ | refine x_no rfl rfl (lookO_spec rfl) rfl rfl rfl ?_ | refine x_un rfl rfl (lookO_spec rfl) rfl rfl ?_) | ((first | refine aw_ways rfl ?_ ?_ | refine r_split rfl rfl rfl ?_ ?_) <;> intro hg_ <;> fail_if_success (exact Bool.noConfusion hg_)) <;> (try simp only [prn] at hg_) <;> (try first | contradiction | (exfalso; omega)))
    all_goals first
      | exact ret_tmp rfl (dres_bool rfl)
      | (exfalso; omega)
      | trace_state
end Go.Proofs.Ythjnidcmhegoeaa.Abs
