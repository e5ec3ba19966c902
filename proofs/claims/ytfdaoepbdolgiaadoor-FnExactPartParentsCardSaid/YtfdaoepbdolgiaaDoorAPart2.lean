/- Parts of graphs by states: LeastInPart and PartParents of the program. No statement of the seat is proved here. -/
import Derived.Test.YtfdaoepbdolgiaaDoorTy
import Derived.Lib.Hide
import Derived.Test.YtfdaoepbdolgiaaDoorAHopJ
import Derived.Test.YtfdaoepbdolgiaaDoorGPart2
import Derived.Test.YtfdaoepbdolgiaaDoorAGrH
set_option linter.unusedSimpArgs false
set_option linter.unusedVariables false
namespace Go.Proofs.YtfdaoepbdolgiaaDoor.Abs
open Go.RowKit
open R (val row ref)

/-! ## APart -/
open Classical in
/-- The least vertex below f in the part of v; -1 if there is none. -/
noncomputable def lpV (es : List E3) : Nat → Int → Int
  | 0, _ => -1
  | f + 1, v => if lpV es f v ≠ -1 then lpV es f v else if cn es (f : Int) v then (f : Int) else -1
open Classical in
theorem lpV_succ (es : List E3) (f : Nat) (v : Int) : lpV es (f + 1) v = if lpV es f v ≠ -1 then lpV es f v else if cn es (f : Int) v then (f : Int) else -1 := rfl
theorem lpV_val (es : List E3) (v : Int) : ∀ f : Nat, (lpV es f v = -1 ∧ ∀ w : Nat, w < f → ¬ cn es (w : Int) v) ∨ ∃ u : Nat, lpV es f v = (u : Int) ∧ u < f ∧ cn es (u : Int) v ∧ ∀ w : Nat, w < f → cn es (w : Int) v → u ≤ w
  | 0 => .inl ⟨rfl, fun w hw => by omega⟩
  | f + 1 => by
    rcases lpV_val es v f with ⟨h1, h2⟩ | ⟨u, h1, h2, h3, h4⟩
    · by_cases hc : cn es (f : Int) v
      · refine .inr ⟨f, ?_, by omega, hc, fun w hw hcw => ?_⟩
        · rw [lpV_succ, if_neg (by simp [h1]), if_pos hc]
        · apply Decidable.byContradiction
          intro hn
          exact h2 w (by omega) hcw
      · refine .inl ⟨?_, fun w hw hcw => ?_⟩
        · rw [lpV_succ, if_neg (by simp [h1]), if_neg hc]
        · by_cases hwf : w = f
          · subst hwf; exact hc hcw
          · exact h2 w (by omega) hcw
    · refine .inr ⟨u, ?_, by omega, h3, fun w hw hcw => ?_⟩
      · rw [lpV_succ, if_pos (by omega)]; exact h1
      · by_cases hwf : w = f
        · omega
        · exact h4 w (by omega) hcw
noncomputable def leastP (m : Nat) (es : List E3) : List Int := tab m (lpV es m)
theorem leastP_ok {m : Nat} {es : List E3} (hI : Inside m es) : IsL m es (leastP m es) := by
  refine ⟨tab_len _ _, fun v h0 h1 => ?_, fun v h0 h1 u hc hu => ?_⟩
  · unfold leastP; rw [tab_val h0 h1]
    rcases lpV_val es v m with ⟨e1, e2⟩ | ⟨w, e1, e2, e3, e4⟩
    · exact absurd (cn_refl es v) (by have := e2 v.toNat (by omega); rwa [Int.toNat_of_nonneg h0] at this)
    · rw [e1]; exact ⟨by omega, e3⟩
  · unfold leastP; rw [tab_val h0 h1]
    have hui := cn_in hI ⟨h0, h1⟩ (cn_symm hc)
    rcases lpV_val es v m with ⟨e1, e2⟩ | ⟨w, e1, e2, e3, e4⟩
    · omega
    · have := e4 u.toNat (by omega) (by rwa [Int.toNat_of_nonneg hu])
      omega
theorem lpV_skip {es : List E3} {f : Nat} (h : lpV es f (f : Int) ≠ -1) (v : Int) : lpV es (f + 1) v = lpV es f v := by
  rw [lpV_succ]
  rcases lpV_val es (f : Int) f with ⟨e1, _⟩ | ⟨u, e1, e2, e3, _⟩
  · exact absurd e1 h
  · by_cases hv : lpV es f v = -1
    · rw [if_neg (by simp [hv]), if_neg, hv]
      intro hc
      rcases lpV_val es v f with ⟨_, d2⟩ | ⟨w, d1, _⟩
      · exact d2 u e2 (cn_trans e3 hc)
      · omega
    · rw [if_pos hv]
theorem lpV_in {es : List E3} {f : Nat} (h : lpV es f (f : Int) = -1) {v : Int} (hc : cn es (f : Int) v) : lpV es (f + 1) v = (f : Int) := by
  rw [lpV_succ]
  have hv : lpV es f v = -1 := by
    rcases lpV_val es v f with ⟨d1, _⟩ | ⟨w, d1, d2, d3, _⟩
    · exact d1
    · rcases lpV_val es (f : Int) f with ⟨_, e2⟩ | ⟨u, e1, _⟩
      · exact absurd (cn_trans d3 (cn_symm hc)) (e2 w d2)
      · omega
  rw [if_neg (by simp [hv]), if_pos hc]
theorem lpV_out {es : List E3} {f : Nat} {v : Int} (hc : ¬ cn es (f : Int) v) : lpV es (f + 1) v = lpV es f v := by
  rw [lpV_succ]
  by_cases hv : lpV es f v = -1
  · rw [if_neg (by simp [hv]), if_neg hc, hv]
  · rw [if_pos hv]
theorem hops_cn {m : Nat} {es : List E3} (hI : Inside m es) {s v : Int} (hs : 0 ≤ s ∧ s < (m : Int)) (h0 : 0 ≤ v) (h1 : v < (m : Int)) : Go.Proofs.YtfdaoepbdolgiaaDoor.val (hopsN m (symE es) s m) v ≠ -1 ↔ cn es s v := by
  have hH := hopsN_isH (symE_in hI) hs
  rcases hH.cases h0 h1 with ⟨k, hk, hv⟩ | ⟨hn, hv⟩
  · exact ⟨fun _ => ⟨k, hk.1⟩, fun _ => by omega⟩
  · exact ⟨fun h => absurd hv h, fun ⟨k, hk⟩ => absurd hk (hn k)⟩
set_option maxRecDepth 100000 in
set_option maxHeartbeats 8000000 in
theorem f_implLeast (m : Nat) (nil : Bool) (es : List E3) (hg : gOk (m : Int) es = true) : FnO Tryd.prog 28 [graphP m nil es] 3 1 (ints (leastP m es)) := by
  have hl40 := gOk_len hg
  have KG := f_implGraphValid m nil es (by simp only [maxLen]; omega)
  rw [hg] at KG
  have hm := gOk_m hg
  have hIn : Inside m es := fun e he => by have := gOk_edges hg e he; exact ⟨this.1, this.2.1⟩
  have KN := f_nearMasks m nil es (by omega) (by omega) hIn
  have KU := f_unknowns m (by omega)
  have hne := nextM_ok (m := m) (by omega) hIn
  obtain ⟨hnl, hsm⟩ : (nearM m es).length = m ∧ Sm (nearM m es) := near_ok m (by omega) es hIn (nextM m es) hne.1 hne.2
  have KS := fun s hs => f_stepsOver m (symE es) s false (nearM m es) (by omega) (symE_in hIn) hs hnl hsm (fun v h0 h1 u => nearM_mem (by omega) hIn v h0 h1 u)
  rw [← tab_rep] at KU
  unfold leastP
  generalize hNM : nearM m es = NM at *
  have hnlm : (NM.map mP).length = m := by rw [List.length_map]; exact hnl
  clear hne
  refine fn_ofO Tryd.func28 (by kernel_rfl) rfl Tryd.ntmps28 rfl rfl ?_
  simp only [argEnv, P0.d, Nat.reduceAdd, List.map_cons, List.map_nil, graphP]
  repeat' (first | (with_reducible first | refine aw_seq ?_ | refine thn_normal ?_ | refine thn_ret ?_ | refine thn_exit ?_ | refine blk_normal ?_ | refine blk_ret ?_ | refine blk_hit ?_ | refine blk_miss rfl ?_ | refine aw_block ?_ | refine aw_ret ?_ | refine aw_skip ?_ | refine aw_exit ?_ | refine w_nil ?_ | refine x_nil (by kernel_rfl) ?_) | refine aw_region ?_ | refine aw_region_draw (by kernel_rfl) ?_ | refine aw_yes rfl ?_ | refine aw_no rfl ?_ | ((with_reducible refine w_seq ?_); first | refine r_q tbOk rfl rfl rfl rfl ?_ | refine r_e tbOk rfl rfl rfl rfl rfl ?_ | refine r_yes tbOk rfl rfl rfl rfl rfl rfl ?_ | refine w_no rfl rfl (lookO_spec rfl) rfl rfl rfl ?_ | refine w_un rfl rfl (lookO_spec rfl) rfl rfl ?_) | ((with_reducible refine w_drw ?_); first | refine rx_q tbOk rfl rfl rfl rfl ?_ | refine rx_e tbOk rfl rfl rfl rfl rfl ?_ | refine rx_yes tbOk rfl rfl rfl rfl rfl rfl ?_ | refine x_no rfl rfl (lookO_spec rfl) rfl rfl rfl ?_ | refine x_un rfl rfl (lookO_spec rfl) rfl rfl ?_) | ((first | refine' w_q rfl rfl ?xa rfl ?_ | refine' v_q rfl rfl ?xa rfl ?_ | refine' w_yes rfl rfl (lookO_spec rfl) rfl ?xa rfl ?_ | refine' v_yes rfl rfl (lookO_spec rfl) rfl ?xa rfl ?_); case xa => exact k_call KG rfl ⟨asA_agg (evO_spec rfl) ⟨cAr_r, cAr_r, trivial⟩, trivial⟩) | ((first | refine' w_e rfl ?xa ?xb ?xc ?xe ?_ | refine' v_e rfl ?xa ?xb ?xc ?xe ?_); (case xa => first | exact e_callO KN rfl rfl ⟨asA_agg (evO_spec rfl) ⟨cAr_r, cAr_r, trivial⟩, trivial⟩ | exact e_callO KU rfl rfl ⟨asA_r (evO_spec rfl), trivial⟩); (case xb => rfl); (case xc => rfl); (case xe => rfl); try dsimp only [P0.d, Res.d, List.map_cons, List.map_nil, List.set_cons_zero, List.set_cons_succ, Nat.reduceAdd]) | ((first | refine aw_ways rfl ?_ ?_ | refine r_split rfl rfl rfl ?_ ?_) <;> intro hg_ <;> fail_if_success (exact Bool.noConfusion hg_)) <;> (try simp only [prn] at hg_) <;> (try first | contradiction | (exfalso; omega)))
  have hT0 : ints (tab m (fun _ => -1)) = ints (tab m (lpV es 0)) := rfl
  refine aw_loopI (fun f : Nat => f ≤ m) (fun f => mkS 44 [(18, .one (.r true (int f))), (17, .one (.r true (int m))), (4, .one (.own 101 0 m 1)), (3, .one (.own 100 0 m 1))] [(101, .sl 3 1 true (ints (tab m (lpV es f)))), (100, .sl 69 1 true (NM.map mP))]) (fun f => m - f) 0 (Nat.zero_le _) (by (refine weak_ren [(100, 12), (101, 15)] rfl ?_ ?_ <;> repeat' (first | exact trivial | refine subR_cons rfl ?_ ?_ | refine subHR_cons rfl ?_ ?_ | rfl | (refine d_int ?_; (first | rfl | omega | (rw [IntWalk.i64_in _ (by omega)] <;> omega) | (simp; done) | (simp; omega))) | (refine d_bool ?_; (first | (simp_all; done) | (rw [Bool.eq_iff_iff]; simp_all; done) | (rw [Bool.eq_iff_iff]; simp_all; omega) | (rw [Bool.eq_iff_iff]; simp; omega))) | exact d_own hnlm | exact d_own (by rw [ints_len, tab_len]) | exact d_int (by rw [ints_len, tab_len])))) ?_
  intro f hf
  have hlen1 : (ints (tab m (lpV es f))).length = m := by rw [ints_len, tab_len]
  by_cases hlt : f < m
  · have hw : IntKind.i64.wrap ((f : Int) + 1) = ((f + 1 : Nat) : Int) := by rw [IntWalk.i64_in _ (by omega)]; omega
    have hfi : 0 ≤ (f : Int) ∧ (f : Int) < (m : Int) := by omega
    have hat : (tab m (lpV es f)).getD (0 + ((f : Nat) : Int).toNat) 0 = lpV es f (f : Int) := tab_at hfi.1 hfi.2
    by_cases hskip : lpV es f (f : Int) = -1
    · have K := KS (f : Int) hfi
      have hlS : (ints (hopsN m (symE es) (f : Int) m)).length = m := by rw [ints_len, hopsN_len]
      have hcn := fun (v : Int) h0 h1 => hops_cn hIn hfi (v := v) h0 h1
      have hat' : (tab m (lpV es f)).getD (0 + ((f : Nat) : Int).toNat) 0 = -1 := by rw [hat, hskip]
      generalize hopsN m (symE es) (f : Int) m = S at *
      have hsl : S.length = m := by rw [← ints_len]; exact hlS
      repeat' (first | (with_reducible first | refine aw_seq ?_ | refine thn_normal ?_ | refine thn_ret ?_ | refine thn_exit ?_ | refine blk_normal ?_ | refine blk_ret ?_ | refine blk_hit ?_ | refine blk_miss rfl ?_ | refine aw_block ?_ | refine aw_ret ?_ | refine aw_skip ?_ | refine aw_exit ?_ | refine w_nil ?_ | refine x_nil (by kernel_rfl) ?_) | refine aw_region ?_ | refine aw_region_draw (by kernel_rfl) ?_ | refine aw_yes rfl ?_ | refine aw_no rfl ?_ | ((with_reducible refine w_seq ?_); first | refine r_q tbOk rfl rfl rfl rfl ?_ | refine r_e tbOk rfl rfl rfl rfl rfl ?_ | refine r_yes tbOk rfl rfl rfl rfl rfl rfl ?_ | refine w_no rfl rfl (lookO_spec rfl) rfl rfl rfl ?_ | refine w_un rfl rfl (lookO_spec rfl) rfl rfl ?_) | ((with_reducible refine w_drw ?_); first | refine rx_q tbOk rfl rfl rfl rfl ?_ | refine rx_e tbOk rfl rfl rfl rfl rfl ?_ | refine rx_yes tbOk rfl rfl rfl rfl rfl rfl ?_ | refine x_no rfl rfl (lookO_spec rfl) rfl rfl rfl ?_ | refine x_un rfl rfl (lookO_spec rfl) rfl rfl ?_) | ((first | refine' w_q rfl rfl ?xa rfl ?_ | refine' v_q rfl rfl ?xa rfl ?_ | refine' w_yes rfl rfl (lookO_spec rfl) rfl ?xa rfl ?_ | refine' v_yes rfl rfl (lookO_spec rfl) rfl ?xa rfl ?_); case xa => first | exact k_indexO tbOk rfl rfl rfl rfl (by omega) (by omega) | exact k_loadI tbOk rfl rfl rfl rfl (by rw [tab_len]; omega)) | ((first | refine' w_e rfl ?xa ?xb ?xc ?xe ?_ | refine' v_e rfl ?xa ?xb ?xc ?xe ?_); (case xa => exact e_callO K rfl rfl ⟨asA_own0H (evO_spec rfl) (lookHO_spec rfl) hnlm.symm, asA_r (evO_spec rfl), trivial⟩); (case xb => rfl); (case xc => rfl); (case xe => rfl); try dsimp only [P0.d, Res.d, List.map_cons, List.map_nil, List.set_cons_zero, List.set_cons_succ, Nat.reduceAdd]) | ((first | refine aw_ways rfl ?_ ?_ | refine r_split rfl rfl rfl ?_ ?_) <;> intro hg_ <;> fail_if_success (exact Bool.noConfusion hg_)) <;> (try simp only [prn] at hg_) <;> (try first | contradiction | (exfalso; omega)))
      all_goals (try (exfalso; simp [hat'] at hg_; done))
      clear K KS KG KN KU hat hat' hg_
      refine aw_loopI (fun k : Nat => k ≤ m) (fun k => mkS 44 [(30, .one (.r true (int k))), (29, .one (.r true (int m))), (28, .one (.own 102 0 m 1)), (5, .one (.r true (int f))), (18, .one (.r true (int f))), (17, .one (.r true (int m))), (4, .one (.own 101 0 m 1)), (3, .one (.own 100 0 m 1))] [(102, .sl 3 1 true (ints S)), (101, .sl 3 1 true (ints (tab m (fun i => if i < (k : Int) then lpV es (f + 1) i else lpV es f i)))), (100, .sl 69 1 true (NM.map mP))]) (fun k => m - k) 0 (Nat.zero_le _) (by (refine weak_ren [(100, 100), (101, 101), (102, 28)] rfl ?_ ?_ <;> repeat' (first | exact trivial | refine subR_cons rfl ?_ ?_ | refine subHR_cons rfl ?_ ?_ | rfl | (refine d_int ?_; (first | rfl | omega | (rw [IntWalk.i64_in _ (by omega)] <;> omega) | (simp; done) | (simp; omega))) | (refine d_bool ?_; (first | (simp_all; done) | (rw [Bool.eq_iff_iff]; simp_all; done) | (rw [Bool.eq_iff_iff]; simp_all; omega) | (rw [Bool.eq_iff_iff]; simp; omega))) | exact d_own hlS | exact d_int (by rw [hlS]) | exact ob_sl rfl (congrArg ints (tab_congr fun i h0 _ => by rw [if_neg (by omega)]))))) ?_
      intro k hk
      have hlen2 : (ints (tab m (fun i => if i < (k : Int) then lpV es (f + 1) i else lpV es f i))).length = m := by rw [ints_len, tab_len]
      by_cases hlt2 : k < m
      · have hw2 : IntKind.i64.wrap ((k : Int) + 1) = ((k + 1 : Nat) : Int) := by rw [IntWalk.i64_in _ (by omega)]; omega
        have hc := hcn (k : Int) (by omega) (by omega)
        rw [← val_at] at hc
        have hset : (ints (tab m (fun i => if i < (k : Int) then lpV es (f + 1) i else lpV es f i))).set (0 + ((k : Nat) : Int).toNat) (iP (f : Int)) = ints (tab m (fun i => if i = (k : Int) then (f : Int) else if i < (k : Int) then lpV es (f + 1) i else lpV es f i)) := by
          rw [Nat.zero_add, Int.toNat_natCast, ints_set, tab_set _ hlt2]
        by_cases hS : S.getD (0 + ((k : Nat) : Int).toNat) 0 = -1
        · have hout := lpV_out (es := es) (f := f) (v := (k : Int)) (fun h => (hc.2 h) hS)
          have hE : tab m (fun i => if i < (k : Int) then lpV es (f + 1) i else lpV es f i) = tab m (fun i => if i < ((k + 1 : Nat) : Int) then lpV es (f + 1) i else lpV es f i) := tab_congr fun i h0 _ => by
            by_cases hik : i = (k : Int)
            · subst hik; rw [if_neg (by omega), if_pos (by omega), hout]
            · by_cases h : i < (k : Int)
              · rw [if_pos h, if_pos (by omega)]
              · rw [if_neg h, if_neg (by omega)]
          clear hcn hc
          repeat' (first | (with_reducible first | refine aw_seq ?_ | refine thn_normal ?_ | refine thn_ret ?_ | refine thn_exit ?_ | refine blk_normal ?_ | refine blk_ret ?_ | refine blk_hit ?_ | refine blk_miss rfl ?_ | refine aw_block ?_ | refine aw_ret ?_ | refine aw_skip ?_ | refine aw_exit ?_ | refine w_nil ?_ | refine x_nil (by kernel_rfl) ?_) | refine aw_region ?_ | refine aw_region_draw (by kernel_rfl) ?_ | refine aw_yes rfl ?_ | refine aw_no rfl ?_ | ((with_reducible refine w_seq ?_); first | refine r_q tbOk rfl rfl rfl rfl ?_ | refine r_e tbOk rfl rfl rfl rfl rfl ?_ | refine r_yes tbOk rfl rfl rfl rfl rfl rfl ?_ | refine w_no rfl rfl (lookO_spec rfl) rfl rfl rfl ?_ | refine w_un rfl rfl (lookO_spec rfl) rfl rfl ?_) | ((with_reducible refine w_drw ?_); first | refine rx_q tbOk rfl rfl rfl rfl ?_ | refine rx_e tbOk rfl rfl rfl rfl rfl ?_ | refine rx_yes tbOk rfl rfl rfl rfl rfl rfl ?_ | refine x_no rfl rfl (lookO_spec rfl) rfl rfl rfl ?_ | refine x_un rfl rfl (lookO_spec rfl) rfl rfl ?_) | ((first | refine' w_q rfl rfl ?xa rfl ?_ | refine' v_q rfl rfl ?xa rfl ?_ | refine' w_yes rfl rfl (lookO_spec rfl) rfl ?xa rfl ?_ | refine' v_yes rfl rfl (lookO_spec rfl) rfl ?xa rfl ?_); case xa => first | exact k_indexO tbOk rfl rfl rfl rfl (by omega) (by omega) | exact k_loadI tbOk rfl rfl rfl rfl (by omega)) | ((first | refine' w_e rfl ?xa ?xb ?xc ?xe ?_ | refine' v_e rfl ?xa ?xb ?xc ?xe ?_); (case xa => exact e_storeS tbOk rfl rfl rfl rfl rfl rfl rfl rfl (by omega)); (case xb => rfl); (case xc => rfl); (case xe => rfl); try dsimp only [P0.d, Res.d, List.map_cons, List.map_nil, List.set_cons_zero, List.set_cons_succ, Nat.reduceAdd]) | ((first | refine aw_ways rfl ?_ ?_ | refine r_split rfl rfl rfl ?_ ?_) <;> intro hg_ <;> fail_if_success (exact Bool.noConfusion hg_)) <;> (try simp only [prn] at hg_) <;> (try first | contradiction | (exfalso; omega)))
          all_goals first
            | (exfalso; simp [hS] at hg_; done)
            | exact ⟨k + 1, by omega, by (refine weak_ren [(100, 100), (101, 101), (102, 102)] rfl ?_ ?_ <;> repeat' (first | exact trivial | refine subR_cons rfl ?_ ?_ | refine subHR_cons rfl ?_ ?_ | rfl | (refine d_int ?_; (first | rfl | omega | (rw [IntWalk.i64_in _ (by omega)] <;> omega) | (simp; done) | (simp; omega))) | (refine d_bool ?_; (first | (simp_all; done) | (rw [Bool.eq_iff_iff]; simp_all; done) | (rw [Bool.eq_iff_iff]; simp_all; omega) | (rw [Bool.eq_iff_iff]; simp; omega))) | exact d_int hw2 | exact ob_sl rfl (congrArg ints hE))), by omega⟩
            | trace_state
        · have hin := lpV_in hskip (hc.1 hS)
          have hE : tab m (fun i => if i = (k : Int) then (f : Int) else if i < (k : Int) then lpV es (f + 1) i else lpV es f i) = tab m (fun i => if i < ((k + 1 : Nat) : Int) then lpV es (f + 1) i else lpV es f i) := tab_congr fun i h0 _ => by
            by_cases hik : i = (k : Int)
            · subst hik; rw [if_pos rfl, if_pos (by omega), hin]
            · rw [if_neg hik]
              by_cases h : i < (k : Int)
              · rw [if_pos h, if_pos (by omega)]
              · rw [if_neg h, if_neg (by omega)]
          clear hcn hc
          repeat' (first | (with_reducible first | refine aw_seq ?_ | refine thn_normal ?_ | refine thn_ret ?_ | refine thn_exit ?_ | refine blk_normal ?_ | refine blk_ret ?_ | refine blk_hit ?_ | refine blk_miss rfl ?_ | refine aw_block ?_ | refine aw_ret ?_ | refine aw_skip ?_ | refine aw_exit ?_ | refine w_nil ?_ | refine x_nil (by kernel_rfl) ?_) | refine aw_region ?_ | refine aw_region_draw (by kernel_rfl) ?_ | refine aw_yes rfl ?_ | refine aw_no rfl ?_ | ((with_reducible refine w_seq ?_); first | refine r_q tbOk rfl rfl rfl rfl ?_ | refine r_e tbOk rfl rfl rfl rfl rfl ?_ | refine r_yes tbOk rfl rfl rfl rfl rfl rfl ?_ | refine w_no rfl rfl (lookO_spec rfl) rfl rfl rfl ?_ | refine w_un rfl rfl (lookO_spec rfl) rfl rfl ?_) | ((with_reducible refine w_drw ?_); first | refine rx_q tbOk rfl rfl rfl rfl ?_ | refine rx_e tbOk rfl rfl rfl rfl rfl ?_ | refine rx_yes tbOk rfl rfl rfl rfl rfl rfl ?_ | refine x_no rfl rfl (lookO_spec rfl) rfl rfl rfl ?_ | refine x_un rfl rfl (lookO_spec rfl) rfl rfl ?_) | ((first | refine' w_q rfl rfl ?xa rfl ?_ | refine' v_q rfl rfl ?xa rfl ?_ | refine' w_yes rfl rfl (lookO_spec rfl) rfl ?xa rfl ?_ | refine' v_yes rfl rfl (lookO_spec rfl) rfl ?xa rfl ?_); case xa => first | exact k_indexO tbOk rfl rfl rfl rfl (by omega) (by omega) | exact k_loadI tbOk rfl rfl rfl rfl (by omega)) | ((first | refine' w_e rfl ?xa ?xb ?xc ?xe ?_ | refine' v_e rfl ?xa ?xb ?xc ?xe ?_); (case xa => exact e_storeS tbOk rfl rfl rfl rfl rfl rfl rfl rfl (by omega)); (case xb => rfl); (case xc => rfl); (case xe => rfl); try dsimp only [P0.d, Res.d, List.map_cons, List.map_nil, List.set_cons_zero, List.set_cons_succ, Nat.reduceAdd]) | ((first | refine aw_ways rfl ?_ ?_ | refine r_split rfl rfl rfl ?_ ?_) <;> intro hg_ <;> fail_if_success (exact Bool.noConfusion hg_)) <;> (try simp only [prn] at hg_) <;> (try first | contradiction | (exfalso; omega)))
          all_goals first
            | (exfalso; simp [hS] at hg_; done)
            | exact ⟨k + 1, by omega, by (refine weak_ren [(100, 100), (101, 101), (102, 102)] rfl ?_ ?_ <;> repeat' (first | exact trivial | refine subR_cons rfl ?_ ?_ | refine subHR_cons rfl ?_ ?_ | rfl | (refine d_int ?_; (first | rfl | omega | (rw [IntWalk.i64_in _ (by omega)] <;> omega) | (simp; done) | (simp; omega))) | (refine d_bool ?_; (first | (simp_all; done) | (rw [Bool.eq_iff_iff]; simp_all; done) | (rw [Bool.eq_iff_iff]; simp_all; omega) | (rw [Bool.eq_iff_iff]; simp; omega))) | exact d_int hw2 | exact ob_sl rfl (hset.trans (congrArg ints hE)))), by omega⟩
            | trace_state
      · obtain rfl : k = m := by omega
        have hE : tab k (fun i => if i < (k : Int) then lpV es (f + 1) i else lpV es f i) = tab k (lpV es (f + 1)) := tab_congr fun i h0 h1 => by rw [if_pos h1]
        rw [hE]
        clear hcn
        repeat' (first | (with_reducible first | refine aw_seq ?_ | refine thn_normal ?_ | refine thn_ret ?_ | refine thn_exit ?_ | refine blk_normal ?_ | refine blk_ret ?_ | refine blk_hit ?_ | refine blk_miss rfl ?_ | refine aw_block ?_ | refine aw_ret ?_ | refine aw_skip ?_ | refine aw_exit ?_ | refine w_nil ?_ | refine x_nil (by kernel_rfl) ?_) | refine aw_region ?_ | refine aw_region_draw (by kernel_rfl) ?_ | refine aw_yes rfl ?_ | refine aw_no rfl ?_ | ((with_reducible refine w_seq ?_); first | refine r_q tbOk rfl rfl rfl rfl ?_ | refine r_e tbOk rfl rfl rfl rfl rfl ?_ | refine r_yes tbOk rfl rfl rfl rfl rfl rfl ?_ | refine w_no rfl rfl (lookO_spec rfl) rfl rfl rfl ?_ | refine w_un rfl rfl (lookO_spec rfl) rfl rfl ?_) | ((with_reducible refine w_drw ?_); first | refine rx_q tbOk rfl rfl rfl rfl ?_ | refine rx_e tbOk rfl rfl rfl rfl rfl ?_ | refine rx_yes tbOk rfl rfl rfl rfl rfl rfl ?_ | refine x_no rfl rfl (lookO_spec rfl) rfl rfl rfl ?_ | refine x_un rfl rfl (lookO_spec rfl) rfl rfl ?_) | ((first | refine aw_ways rfl ?_ ?_ | refine r_split rfl rfl rfl ?_ ?_) <;> intro hg_ <;> fail_if_success (exact Bool.noConfusion hg_)) <;> (try simp only [prn] at hg_) <;> (try first | contradiction | (exfalso; omega)))
        all_goals first
          | exact ⟨f + 1, by omega, by (refine weak_ren [(100, 100), (101, 101)] rfl ?_ ?_ <;> repeat' (first | exact trivial | refine subR_cons rfl ?_ ?_ | refine subHR_cons rfl ?_ ?_ | rfl | (refine d_int ?_; (first | rfl | omega | (rw [IntWalk.i64_in _ (by omega)] <;> omega) | (simp; done) | (simp; omega))) | (refine d_bool ?_; (first | (simp_all; done) | (rw [Bool.eq_iff_iff]; simp_all; done) | (rw [Bool.eq_iff_iff]; simp_all; omega) | (rw [Bool.eq_iff_iff]; simp; omega))) | exact d_int hw)), by omega⟩
          | trace_state
    · have hE : tab m (lpV es f) = tab m (lpV es (f + 1)) := tab_congr fun i _ _ => (lpV_skip hskip i).symm
      have hat' : ¬ (tab m (lpV es f)).getD (0 + ((f : Nat) : Int).toNat) 0 = -1 := by rw [hat]; exact hskip
      clear KS KG KN KU
      repeat' (first | (with_reducible first | refine aw_seq ?_ | refine thn_normal ?_ | refine thn_ret ?_ | refine thn_exit ?_ | refine blk_normal ?_ | refine blk_ret ?_ | refine blk_hit ?_ | refine blk_miss rfl ?_ | refine aw_block ?_ | refine aw_ret ?_ | refine aw_skip ?_ | refine aw_exit ?_ | refine w_nil ?_ | refine x_nil (by kernel_rfl) ?_) | refine aw_region ?_ | refine aw_region_draw (by kernel_rfl) ?_ | refine aw_yes rfl ?_ | refine aw_no rfl ?_ | ((with_reducible refine w_seq ?_); first | refine r_q tbOk rfl rfl rfl rfl ?_ | refine r_e tbOk rfl rfl rfl rfl rfl ?_ | refine r_yes tbOk rfl rfl rfl rfl rfl rfl ?_ | refine w_no rfl rfl (lookO_spec rfl) rfl rfl rfl ?_ | refine w_un rfl rfl (lookO_spec rfl) rfl rfl ?_) | ((with_reducible refine w_drw ?_); first | refine rx_q tbOk rfl rfl rfl rfl ?_ | refine rx_e tbOk rfl rfl rfl rfl rfl ?_ | refine rx_yes tbOk rfl rfl rfl rfl rfl rfl ?_ | refine x_no rfl rfl (lookO_spec rfl) rfl rfl rfl ?_ | refine x_un rfl rfl (lookO_spec rfl) rfl rfl ?_) | ((first | refine' w_q rfl rfl ?xa rfl ?_ | refine' v_q rfl rfl ?xa rfl ?_ | refine' w_yes rfl rfl (lookO_spec rfl) rfl ?xa rfl ?_ | refine' v_yes rfl rfl (lookO_spec rfl) rfl ?xa rfl ?_); case xa => first | exact k_indexO tbOk rfl rfl rfl rfl (by omega) (by omega) | exact k_loadI tbOk rfl rfl rfl rfl (by rw [tab_len]; omega)) | ((first | refine aw_ways rfl ?_ ?_ | refine r_split rfl rfl rfl ?_ ?_) <;> intro hg_ <;> fail_if_success (exact Bool.noConfusion hg_)) <;> (try simp only [prn] at hg_) <;> (try first | contradiction | (exfalso; omega)))
      all_goals first
        | (exfalso; simp [hat'] at hg_; done)
        | exact ⟨f + 1, by omega, by (refine weak_ren [(100, 100), (101, 101)] rfl ?_ ?_ <;> repeat' (first | exact trivial | refine subR_cons rfl ?_ ?_ | refine subHR_cons rfl ?_ ?_ | rfl | (refine d_int ?_; (first | rfl | omega | (rw [IntWalk.i64_in _ (by omega)] <;> omega) | (simp; done) | (simp; omega))) | (refine d_bool ?_; (first | (simp_all; done) | (rw [Bool.eq_iff_iff]; simp_all; done) | (rw [Bool.eq_iff_iff]; simp_all; omega) | (rw [Bool.eq_iff_iff]; simp; omega))) | exact d_int hw | exact ob_sl rfl (congrArg ints hE))), by omega⟩
        | trace_state
  · obtain rfl : f = m := by omega
    repeat' (first | (with_reducible first | refine aw_seq ?_ | refine thn_normal ?_ | refine thn_ret ?_ | refine thn_exit ?_ | refine blk_normal ?_ | refine blk_ret ?_ | refine blk_hit ?_ | refine blk_miss rfl ?_ | refine aw_block ?_ | refine aw_ret ?_ | refine aw_skip ?_ | refine aw_exit ?_ | refine w_nil ?_ | refine x_nil (by kernel_rfl) ?_) | refine aw_region ?_ | refine aw_region_draw (by kernel_rfl) ?_ | refine aw_yes rfl ?_ | refine aw_no rfl ?_ | ((with_reducible refine w_seq ?_); first | refine r_q tbOk rfl rfl rfl rfl ?_ | refine r_e tbOk rfl rfl rfl rfl rfl ?_ | refine r_yes tbOk rfl rfl rfl rfl rfl rfl ?_ | refine w_no rfl rfl (lookO_spec rfl) rfl rfl rfl ?_ | refine w_un rfl rfl (lookO_spec rfl) rfl rfl ?_) | ((with_reducible refine w_drw ?_); first | refine rx_q tbOk rfl rfl rfl rfl ?_ | refine rx_e tbOk rfl rfl rfl rfl rfl ?_ | refine rx_yes tbOk rfl rfl rfl rfl rfl rfl ?_ | refine x_no rfl rfl (lookO_spec rfl) rfl rfl rfl ?_ | refine x_un rfl rfl (lookO_spec rfl) rfl rfl ?_) | ((first | refine aw_ways rfl ?_ ?_ | refine r_split rfl rfl rfl ?_ ?_) <;> intro hg_ <;> fail_if_success (exact Bool.noConfusion hg_)) <;> (try simp only [prn] at hg_) <;> (try first | contradiction | (exfalso; omega)))
    all_goals first
      | exact ret_own rfl rfl hlen1.symm
      | trace_state
set_option maxRecDepth 100000 in
set_option maxHeartbeats 2000000 in
theorem f_implLeastNo (m : Int) (nil : Bool) (es : List E3) (hl : es.length ≤ 1048576) (hg : gOk m es = false) : Fn Tryd.prog 28 [graphP m nil es] (.v (.one (row true 1 []))) := by
  have KG := f_implGraphValid m nil es (by simp only [maxLen]; omega)
  rw [hg] at KG
  refine fn_of (l := [.tmp 2]) Tryd.func28 (by kernel_rfl) rfl Tryd.ntmps28 rfl rfl ?_; simp only [argEnv, P0.d, Nat.reduceAdd, graphP, List.map_cons, List.map_nil]
  repeat' (first | (with_reducible first | refine aw_seq ?_ | refine thn_normal ?_ | refine thn_ret ?_ | refine thn_exit ?_ | refine blk_normal ?_ | refine blk_ret ?_ | refine blk_hit ?_ | refine blk_miss rfl ?_ | refine aw_block ?_ | refine aw_ret ?_ | refine aw_skip ?_ | refine aw_exit ?_ | refine w_nil ?_ | refine x_nil (by kernel_rfl) ?_) | refine aw_region ?_ | refine aw_region_draw (by kernel_rfl) ?_ | refine aw_yes rfl ?_ | refine aw_no rfl ?_ | ((with_reducible refine w_seq ?_); first | refine r_q tbOk rfl rfl rfl rfl ?_ | refine r_e tbOk rfl rfl rfl rfl rfl ?_ | refine r_yes tbOk rfl rfl rfl rfl rfl rfl ?_ | refine w_no rfl rfl (lookO_spec rfl) rfl rfl rfl ?_ | refine w_un rfl rfl (lookO_spec rfl) rfl rfl ?_) | ((with_reducible refine w_drw ?_); first | refine rx_q tbOk rfl rfl rfl rfl ?_ | refine rx_e tbOk rfl rfl rfl rfl rfl ?_ | refine rx_yes tbOk rfl rfl rfl rfl rfl rfl ?_ | refine x_no rfl rfl (lookO_spec rfl) rfl rfl rfl ?_ | refine x_un rfl rfl (lookO_spec rfl) rfl rfl ?_) | ((first | refine' w_q rfl rfl ?xa rfl ?_ | refine' v_q rfl rfl ?xa rfl ?_ | refine' w_yes rfl rfl (lookO_spec rfl) rfl ?xa rfl ?_ | refine' v_yes rfl rfl (lookO_spec rfl) rfl ?xa rfl ?_); case xa => exact k_call KG rfl ⟨asA_agg (evO_spec rfl) ⟨cAr_r, cAr_r, trivial⟩, trivial⟩) | ((first | refine aw_ways rfl ?_ ?_ | refine r_split rfl rfl rfl ?_ ?_) <;> intro hg_ <;> fail_if_success (exact Bool.noConfusion hg_)) <;> (try simp only [prn] at hg_) <;> (try first | contradiction | (exfalso; omega)))
  all_goals first
    | exact ret_tmp rfl (dres_one cres_nil)
    | trace_state
/-! ## APart2 -/
theorem pm_mem (S : List Int) : ∀ (ws : List Int) (p : Int), ws.foldl (pm S) p = p ∨ ws.foldl (pm S) p ∈ ws
  | [], _ => .inl rfl
  | w :: ws, p => by
    rw [List.foldl_cons]
    rcases pm_mem S ws (pm S p w) with h | h
    · rw [h]
      unfold pm
      split
      · exact .inr (by simp)
      · exact .inl rfl
    · exact .inr (List.mem_cons_of_mem _ h)
theorem pmF_snoc (S ws : List Int) (w : Int) : pmF S (ws ++ [w]) = pm S (pmF S ws) w := by unfold pmF; rw [List.foldl_append]; rfl
set_option maxRecDepth 100000 in
set_option maxHeartbeats 8000000 in
theorem f_implPartPar (m : Nat) (nil : Bool) (es : List E3) (hg : gOk (m : Int) es = true) : FnO Tryd.prog 30 [graphP m nil es] 3 1 (ints (tab m (parI m es (leastP m es)))) := by
  have hl40 := gOk_len hg
  have KG := f_implGraphValid m nil es (by simp only [maxLen]; omega)
  have KL := f_implLeast m nil es hg
  rw [hg] at KG
  have hm := gOk_m hg
  have hIn : Inside m es := fun e he => by have := gOk_edges hg e he; exact ⟨this.1, this.2.1⟩
  have KN := f_nearMasks m nil es (by omega) (by omega) hIn
  have KU := f_unknowns m (by omega)
  have hne := nextM_ok (m := m) (by omega) hIn
  obtain ⟨hnl, hsm⟩ : (nearM m es).length = m ∧ Sm (nearM m es) := near_ok m (by omega) es hIn (nextM m es) hne.1 hne.2
  have KS := fun s hs => f_stepsOver m (symE es) s false (nearM m es) (by omega) (symE_in hIn) hs hnl hsm (fun v h0 h1 u => nearM_mem (by omega) hIn v h0 h1 u)
  have hIsL := leastP_ok hIn
  have hpar : ∀ v : Int, parI m es (leastP m es) v = if Go.Proofs.YtfdaoepbdolgiaaDoor.val (leastP m es) v = v then -1 else pmF (hopsN m (symE es) (Go.Proofs.YtfdaoepbdolgiaaDoor.val (leastP m es) v) m) (bitsR ((nearM m es).getD v.toNat 0)) := fun v => rfl
  have hmem := fun (v : Int) h0 h1 (u : Int) => nearM_mem (m := m) (es := es) (by omega) hIn v h0 h1 u
  have hLin := fun (v : Int) h0 h1 => (hIsL.con v h0 h1).1
  have hLl := hIsL.len
  rw [← tab_rep] at KU
  generalize parI m es (leastP m es) = PF at *
  generalize leastP m es = L at *
  generalize hNM : nearM m es = NM at *
  have hnlm : (NM.map mP).length = m := by rw [List.length_map]; exact hnl
  have hlL : (ints L).length = m := by rw [ints_len, hLl]
  clear hne hIsL
  refine fn_ofO Tryd.func30 (by kernel_rfl) rfl Tryd.ntmps30 rfl rfl ?_
  simp only [argEnv, P0.d, Nat.reduceAdd, List.map_cons, List.map_nil, graphP]
  repeat' (first | (with_reducible first | refine aw_seq ?_ | refine thn_normal ?_ | refine thn_ret ?_ | refine thn_exit ?_ | refine blk_normal ?_ | refine blk_ret ?_ | refine blk_hit ?_ | refine blk_miss rfl ?_ | refine aw_block ?_ | refine aw_ret ?_ | refine aw_skip ?_ | refine aw_exit ?_ | refine w_nil ?_ | refine x_nil (by kernel_rfl) ?_) | refine aw_region ?_ | refine aw_region_draw (by kernel_rfl) ?_ | refine aw_yes rfl ?_ | refine aw_no rfl ?_ | ((with_reducible refine w_seq ?_); first | refine r_q tbOk rfl rfl rfl rfl ?_ | refine r_e tbOk rfl rfl rfl rfl rfl ?_ | refine r_yes tbOk rfl rfl rfl rfl rfl rfl ?_ | refine w_no rfl rfl (lookO_spec rfl) rfl rfl rfl ?_ | refine w_un rfl rfl (lookO_spec rfl) rfl rfl ?_) | ((with_reducible refine w_drw ?_); first | refine rx_q tbOk rfl rfl rfl rfl ?_ | refine rx_e tbOk rfl rfl rfl rfl rfl ?_ | refine rx_yes tbOk rfl rfl rfl rfl rfl rfl ?_ | refine x_no rfl rfl (lookO_spec rfl) rfl rfl rfl ?_ | refine x_un rfl rfl (lookO_spec rfl) rfl rfl ?_) | ((first | refine' w_q rfl rfl ?xa rfl ?_ | refine' v_q rfl rfl ?xa rfl ?_ | refine' w_yes rfl rfl (lookO_spec rfl) rfl ?xa rfl ?_ | refine' v_yes rfl rfl (lookO_spec rfl) rfl ?xa rfl ?_); case xa => exact k_call KG rfl ⟨asA_agg (evO_spec rfl) ⟨cAr_r, cAr_r, trivial⟩, trivial⟩) | ((first | refine' w_e rfl ?xa ?xb ?xc ?xe ?_ | refine' v_e rfl ?xa ?xb ?xc ?xe ?_); (case xa => first | exact e_callO KN rfl rfl ⟨asA_agg (evO_spec rfl) ⟨cAr_r, cAr_r, trivial⟩, trivial⟩ | exact e_callO KL rfl rfl ⟨asA_agg (evO_spec rfl) ⟨cAr_r, cAr_r, trivial⟩, trivial⟩ | exact e_callO KU rfl rfl ⟨asA_r (evO_spec rfl), trivial⟩); (case xb => rfl); (case xc => rfl); (case xe => rfl); try dsimp only [P0.d, Res.d, List.map_cons, List.map_nil, List.set_cons_zero, List.set_cons_succ, Nat.reduceAdd]) | ((first | refine aw_ways rfl ?_ ?_ | refine r_split rfl rfl rfl ?_ ?_) <;> intro hg_ <;> fail_if_success (exact Bool.noConfusion hg_)) <;> (try simp only [prn] at hg_) <;> (try first | contradiction | (exfalso; omega)))
  refine aw_loopI (fun v : Nat => v ≤ m) (fun v => mkS 68 [(21, .one (.r true (int v))), (20, .one (.r true (int m))), (19, .one (.own 102 0 m 1)), (4, .one (.own 101 0 m 1)), (3, .one (.own 100 0 m 1))] [(102, .sl 3 1 true (ints L)), (101, .sl 3 1 true (ints (tab m (fun i => if i < (v : Int) then PF i else -1)))), (100, .sl 69 1 true (NM.map mP))]) (fun v => m - v) 0 (Nat.zero_le _) (by (refine weak_ren [(100, 14), (101, 17), (102, 19)] rfl ?_ ?_ <;> repeat' (first | exact trivial | refine subR_cons rfl ?_ ?_ | refine subHR_cons rfl ?_ ?_ | rfl | (refine d_int ?_; (first | rfl | omega | (rw [IntWalk.i64_in _ (by omega)] <;> omega) | (simp; done) | (simp; omega))) | (refine d_bool ?_; (first | (simp_all; done) | (rw [Bool.eq_iff_iff]; simp_all; done) | (rw [Bool.eq_iff_iff]; simp_all; omega) | (rw [Bool.eq_iff_iff]; simp; omega))) | exact d_own hnlm | exact d_own hlL | exact d_own (by rw [ints_len, tab_len]) | exact d_int (by rw [hlL]) | exact ob_sl rfl (congrArg ints (tab_congr fun i h0 _ => by rw [if_neg (by omega)]))))) ?_
  intro v hv
  have hlen1 : (ints (tab m (fun i => if i < (v : Int) then PF i else -1))).length = m := by rw [ints_len, tab_len]
  by_cases hlt : v < m
  · have hw : IntKind.i64.wrap ((v : Int) + 1) = ((v + 1 : Nat) : Int) := by rw [IntWalk.i64_in _ (by omega)]; omega
    have hvi : 0 ≤ (v : Int) ∧ (v : Int) < (m : Int) := by omega
    have hLv := hLin (v : Int) hvi.1 hvi.2
    have hpv := hpar (v : Int)
    have hmv := hmem (v : Int) hvi.1 hvi.2
    have hatL : L.getD (0 + ((v : Nat) : Int).toNat) 0 = Go.Proofs.YtfdaoepbdolgiaaDoor.val L (v : Int) := val_at L (v : Int)
    clear hpar hmem hLin
    rw [show ((v : Nat) : Int).toNat = v from Int.toNat_natCast v] at hpv hmv
    generalize Go.Proofs.YtfdaoepbdolgiaaDoor.val L (v : Int) = first at *
    by_cases hroot : first = (v : Int)
    · rw [if_pos hroot] at hpv
      have hE : tab m (fun i => if i < (v : Int) then PF i else -1) = tab m (fun i => if i < ((v + 1 : Nat) : Int) then PF i else -1) := tab_congr fun i h0 _ => by
        by_cases hik : i = (v : Int)
        · subst hik; rw [if_neg (by omega), if_pos (by omega), hpv]
        · by_cases h : i < (v : Int)
          · rw [if_pos h, if_pos (by omega)]
          · rw [if_neg h, if_neg (by omega)]
      clear KS KG KN KU KL
      repeat' (first | (with_reducible first | refine aw_seq ?_ | refine thn_normal ?_ | refine thn_ret ?_ | refine thn_exit ?_ | refine blk_normal ?_ | refine blk_ret ?_ | refine blk_hit ?_ | refine blk_miss rfl ?_ | refine aw_block ?_ | refine aw_ret ?_ | refine aw_skip ?_ | refine aw_exit ?_ | refine w_nil ?_ | refine x_nil (by kernel_rfl) ?_) | refine aw_region ?_ | refine aw_region_draw (by kernel_rfl) ?_ | refine aw_yes rfl ?_ | refine aw_no rfl ?_ | ((with_reducible refine w_seq ?_); first | refine r_q tbOk rfl rfl rfl rfl ?_ | refine r_e tbOk rfl rfl rfl rfl rfl ?_ | refine r_yes tbOk rfl rfl rfl rfl rfl rfl ?_ | refine w_no rfl rfl (lookO_spec rfl) rfl rfl rfl ?_ | refine w_un rfl rfl (lookO_spec rfl) rfl rfl ?_) | ((with_reducible refine w_drw ?_); first | refine rx_q tbOk rfl rfl rfl rfl ?_ | refine rx_e tbOk rfl rfl rfl rfl rfl ?_ | refine rx_yes tbOk rfl rfl rfl rfl rfl rfl ?_ | refine x_no rfl rfl (lookO_spec rfl) rfl rfl rfl ?_ | refine x_un rfl rfl (lookO_spec rfl) rfl rfl ?_) | ((first | refine' w_q rfl rfl ?xa rfl ?_ | refine' v_q rfl rfl ?xa rfl ?_ | refine' w_yes rfl rfl (lookO_spec rfl) rfl ?xa rfl ?_ | refine' v_yes rfl rfl (lookO_spec rfl) rfl ?xa rfl ?_); case xa => first | exact k_indexO tbOk rfl rfl rfl rfl (by omega) (by omega) | exact k_loadI tbOk rfl rfl rfl rfl (by omega)) | ((first | refine aw_ways rfl ?_ ?_ | refine r_split rfl rfl rfl ?_ ?_) <;> intro hg_ <;> fail_if_success (exact Bool.noConfusion hg_)) <;> (try simp only [prn] at hg_) <;> (try first | contradiction | (exfalso; omega)))
      all_goals first
        | (exfalso; rw [hatL, hroot] at hg_; exact hg_ rfl)
        | exact ⟨v + 1, by omega, by (refine weak_ren [(100, 100), (101, 101), (102, 102)] rfl ?_ ?_ <;> repeat' (first | exact trivial | refine subR_cons rfl ?_ ?_ | refine subHR_cons rfl ?_ ?_ | rfl | (refine d_int ?_; (first | rfl | omega | (rw [IntWalk.i64_in _ (by omega)] <;> omega) | (simp; done) | (simp; omega))) | (refine d_bool ?_; (first | (simp_all; done) | (rw [Bool.eq_iff_iff]; simp_all; done) | (rw [Bool.eq_iff_iff]; simp_all; omega) | (rw [Bool.eq_iff_iff]; simp; omega))) | exact d_int hw | exact ob_sl rfl (congrArg ints hE))), by omega⟩
        | trace_state
    · rw [if_neg hroot] at hpv
      have K := KS first hLv
      have hsl : (hopsN m (symE es) first m).length = m := hopsN_len _ _ _ _
      have hlS : (ints (hopsN m (symE es) first m)).length = m := by rw [ints_len, hsl]
      generalize hopsN m (symE es) first m = S at *
      have KB := f_list (NM.getD v 0) (hsm _)
      have hWin : ∀ u ∈ bitsR (NM.getD v 0), 0 ≤ u ∧ u < (m : Int) := fun u hu => by
        obtain ⟨e, he, _, rfl⟩ := (hmv u).1 hu
        exact (symE_in hIn e he).2
      have hWl : (bitsR (NM.getD v 0)).length ≤ 4294967296 := Nat.le_trans (bitsR_len _) (Nat.le_of_lt (hsm v))
      have hix : (NM.map mP)[((v : Nat) : Int).toNat]? = some (mP (NM.getD v 0)) := by rw [Int.toNat_natCast]; exact mP_get (by omega)
      generalize decide (NM.getD v 0 = 0) = nb at *
      generalize hx : NM.getD v 0 = x at *
      generalize bitsR x = W at *
      have hlW := ints_len W
      have hxv : NM.getD (0 + ((v : Nat) : Int).toNat) 0 = x := by rw [Nat.zero_add, Int.toNat_natCast]; exact hx
      clear KS KG KN KU KL
      repeat' (first | (with_reducible first | refine aw_seq ?_ | refine thn_normal ?_ | refine thn_ret ?_ | refine thn_exit ?_ | refine blk_normal ?_ | refine blk_ret ?_ | refine blk_hit ?_ | refine blk_miss rfl ?_ | refine aw_block ?_ | refine aw_ret ?_ | refine aw_skip ?_ | refine aw_exit ?_ | refine w_nil ?_ | refine x_nil (by kernel_rfl) ?_) | refine aw_region ?_ | refine aw_region_draw (by kernel_rfl) ?_ | refine aw_yes rfl ?_ | refine aw_no rfl ?_ | ((with_reducible refine w_seq ?_); first | refine r_q tbOk rfl rfl rfl rfl ?_ | refine r_e tbOk rfl rfl rfl rfl rfl ?_ | refine r_yes tbOk rfl rfl rfl rfl rfl rfl ?_ | refine w_no rfl rfl (lookO_spec rfl) rfl rfl rfl ?_ | refine w_un rfl rfl (lookO_spec rfl) rfl rfl ?_) | ((with_reducible refine w_drw ?_); first | refine rx_q tbOk rfl rfl rfl rfl ?_ | refine rx_e tbOk rfl rfl rfl rfl rfl ?_ | refine rx_yes tbOk rfl rfl rfl rfl rfl rfl ?_ | refine x_no rfl rfl (lookO_spec rfl) rfl rfl rfl ?_ | refine x_un rfl rfl (lookO_spec rfl) rfl rfl ?_) | ((first | refine' w_q rfl rfl ?xa rfl ?_ | refine' v_q rfl rfl ?xa rfl ?_ | refine' w_yes rfl rfl (lookO_spec rfl) rfl ?xa rfl ?_ | refine' v_yes rfl rfl (lookO_spec rfl) rfl ?xa rfl ?_); case xa => first | exact k_indexO tbOk rfl rfl rfl rfl (by omega) (by omega) | exact k_loadI tbOk rfl rfl rfl rfl (by omega) | exact k_loadM tbOk rfl rfl rfl rfl (by omega) | exact k_call KB rfl ⟨by rw [evO_spec rfl, hxv]; exact asArg_r, trivial⟩) | ((first | refine' w_e rfl ?xa ?xb ?xc ?xe ?_ | refine' v_e rfl ?xa ?xb ?xc ?xe ?_); (case xa => exact e_callO K rfl rfl ⟨asA_own0H (evO_spec rfl) (lookHO_spec rfl) hnlm.symm, by rw [evO_spec rfl, hatL]; exact asArg_r, trivial⟩); (case xb => rfl); (case xc => rfl); (case xe => rfl); try dsimp only [P0.d, Res.d, List.map_cons, List.map_nil, List.set_cons_zero, List.set_cons_succ, Nat.reduceAdd]) | ((first | refine aw_ways rfl ?_ ?_ | refine r_split rfl rfl rfl ?_ ?_) <;> intro hg_ <;> fail_if_success (exact Bool.noConfusion hg_)) <;> (try simp only [prn] at hg_) <;> (try first | contradiction | (exfalso; omega)))
      all_goals (try (exfalso; rw [hatL] at hg_; exact hroot hg_.symm))
      clear K KB hix hmv hIn hg_
      refine aw_loopI (fun j : Nat => j ≤ W.length) (fun j => mkS 68 [(38, .one (.r true (int j))), (37, .one (.r true (int W.length))), (36, .one (.r true (row nb 1 (ints W)))), (7, .one (.own 103 0 m 1)), (5, .one (.r true (int v))), (21, .one (.r true (int v))), (20, .one (.r true (int m))), (19, .one (.own 102 0 m 1)), (4, .one (.own 101 0 m 1)), (3, .one (.own 100 0 m 1))] [(103, .sl 3 1 true (ints S)), (102, .sl 3 1 true (ints L)), (101, .sl 3 1 true (ints (tab m (fun i => if i < (v : Int) then PF i else if i = (v : Int) then pmF S (W.take j) else -1)))), (100, .sl 69 1 true (NM.map mP))]) (fun j => W.length - j) 0 (Nat.zero_le _) (by (refine weak_ren [(100, 100), (101, 101), (102, 102), (103, 31)] rfl ?_ ?_ <;> repeat' (first | exact trivial | refine subR_cons rfl ?_ ?_ | refine subHR_cons rfl ?_ ?_ | rfl | (refine d_int ?_; (first | rfl | omega | (rw [IntWalk.i64_in _ (by omega)] <;> omega) | (simp; done) | (simp; omega))) | (refine d_bool ?_; (first | (simp_all; done) | (rw [Bool.eq_iff_iff]; simp_all; done) | (rw [Bool.eq_iff_iff]; simp_all; omega) | (rw [Bool.eq_iff_iff]; simp; omega))) | exact d_own hlS | exact d_int (by rw [hlW]) | exact ob_sl rfl (congrArg ints (tab_congr fun i h0 _ => by (repeat' split) <;> rfl))))) ?_
      intro j hj
      have hlen2 : (ints (tab m (fun i => if i < (v : Int) then PF i else if i = (v : Int) then pmF S (W.take j) else -1))).length = m := by rw [ints_len, tab_len]
      have hlen3 : (tab m (fun i => if i < (v : Int) then PF i else if i = (v : Int) then pmF S (W.take j) else -1)).length = m := by rw [tab_len]
      have hatP : (tab m (fun i => if i < (v : Int) then PF i else if i = (v : Int) then pmF S (W.take j) else -1)).getD (0 + ((v : Nat) : Int).toNat) 0 = pmF S (W.take j) := by
        rw [tab_at hvi.1 hvi.2, if_neg (by omega), if_pos rfl]
      by_cases hltj : j < W.length
      · have hwj : IntKind.i64.wrap ((j : Int) + 1) = ((j + 1 : Nat) : Int) := by rw [IntWalk.i64_in _ (by omega)]; omega
        have hsn : pmF S (W.take (j + 1)) = pm S (pmF S (W.take j)) W[j] := by rw [List.take_succ_eq_append_getElem hltj, pmF_snoc]
        have hwi := hWin W[j] (List.getElem_mem hltj)
        have hpm : pmF S (W.take j) = -1 ∨ (0 ≤ pmF S (W.take j) ∧ pmF S (W.take j) < (m : Int)) := by
          rcases pm_mem S (W.take j) (-1) with h | h
          · exact .inl h
          · exact .inr (hWin _ (List.mem_of_mem_take h))
        have hixj := ints_at (xs := W) hltj
        have hset := fun x => (show (ints (tab m (fun i => if i < (v : Int) then PF i else if i = (v : Int) then pmF S (W.take j) else -1))).set (0 + ((v : Nat) : Int).toNat) (iP x) = ints (tab m (fun i => if i = (v : Int) then x else if i < (v : Int) then PF i else if i = (v : Int) then pmF S (W.take j) else -1)) by
          rw [Nat.zero_add, Int.toNat_natCast, ints_set, tab_set _ hlt])
        have hE : ∀ x, pmF S (W.take (j + 1)) = x → tab m (fun i => if i = (v : Int) then x else if i < (v : Int) then PF i else if i = (v : Int) then pmF S (W.take j) else -1) = tab m (fun i => if i < (v : Int) then PF i else if i = (v : Int) then pmF S (W.take (j + 1)) else -1) := fun x hx => tab_congr fun i h0 _ => by
          by_cases hik : i = (v : Int)
          · subst hik; rw [if_pos rfl, if_neg (by omega), if_pos rfl, hx]
          · rw [if_neg hik]
            by_cases h : i < (v : Int)
            · rw [if_pos h, if_pos h]
            · rw [if_neg h, if_neg h, if_neg hik, if_neg hik]
        have hE2 : pmF S (W.take (j + 1)) = pmF S (W.take j) → tab m (fun i => if i < (v : Int) then PF i else if i = (v : Int) then pmF S (W.take j) else -1) = tab m (fun i => if i < (v : Int) then PF i else if i = (v : Int) then pmF S (W.take (j + 1)) else -1) := fun hx => by rw [hx]
        generalize W[j] = u at *
        generalize hp0 : pmF S (W.take j) = p at *
        unfold pm at hsn
        rw [← val_at, ← val_at] at hsn
        clear hWin hp0
        by_cases hp : p = -1
        · subst hp
          rw [if_pos (.inl rfl)] at hsn
          have hE' := hE u hsn
          clear hE hE2 hsn
          repeat' (first | (with_reducible first | refine aw_seq ?_ | refine thn_normal ?_ | refine thn_ret ?_ | refine thn_exit ?_ | refine blk_normal ?_ | refine blk_ret ?_ | refine blk_hit ?_ | refine blk_miss rfl ?_ | refine aw_block ?_ | refine aw_ret ?_ | refine aw_skip ?_ | refine aw_exit ?_ | refine w_nil ?_ | refine x_nil (by kernel_rfl) ?_) | refine aw_region ?_ | refine aw_region_draw (by kernel_rfl) ?_ | refine aw_yes rfl ?_ | refine aw_no rfl ?_ | ((with_reducible refine w_seq ?_); first | refine r_q tbOk rfl rfl rfl rfl ?_ | refine r_e tbOk rfl rfl rfl rfl rfl ?_ | refine r_yes tbOk rfl rfl rfl rfl rfl rfl ?_ | refine w_no rfl rfl (lookO_spec rfl) rfl rfl rfl ?_ | refine w_un rfl rfl (lookO_spec rfl) rfl rfl ?_) | ((with_reducible refine w_drw ?_); first | refine rx_q tbOk rfl rfl rfl rfl ?_ | refine rx_e tbOk rfl rfl rfl rfl rfl ?_ | refine rx_yes tbOk rfl rfl rfl rfl rfl rfl ?_ | refine x_no rfl rfl (lookO_spec rfl) rfl rfl rfl ?_ | refine x_un rfl rfl (lookO_spec rfl) rfl rfl ?_) | ((first | refine' w_q rfl rfl ?xa rfl ?_ | refine' v_q rfl rfl ?xa rfl ?_ | refine' w_yes rfl rfl (lookO_spec rfl) rfl ?xa rfl ?_ | refine' v_yes rfl rfl (lookO_spec rfl) rfl ?xa rfl ?_); case xa => first | exact k_index tbOk rfl rfl rfl rfl (by omega) (by exact hixj) | exact k_indexO tbOk rfl rfl rfl rfl (by omega) (by omega) | exact k_loadI tbOk rfl rfl rfl rfl (by omega)) | ((first | refine' w_e rfl ?xa ?xb ?xc ?xe ?_ | refine' v_e rfl ?xa ?xb ?xc ?xe ?_); (case xa => exact e_storeS tbOk rfl rfl rfl rfl rfl rfl rfl rfl (by omega)); (case xb => rfl); (case xc => rfl); (case xe => rfl); try dsimp only [P0.d, Res.d, List.map_cons, List.map_nil, List.set_cons_zero, List.set_cons_succ, Nat.reduceAdd]) | ((first | refine aw_ways rfl ?_ ?_ | refine r_split rfl rfl rfl ?_ ?_) <;> intro hg_ <;> fail_if_success (exact Bool.noConfusion hg_)) <;> (try simp only [prn] at hg_) <;> (try first | contradiction | (exfalso; omega)))
          all_goals first
            | (exfalso; simp [hatP] at hg_; done)
            | exact ⟨j + 1, by omega, by (refine weak_ren [(100, 100), (101, 101), (102, 102), (103, 103)] rfl ?_ ?_ <;> repeat' (first | exact trivial | refine subR_cons rfl ?_ ?_ | refine subHR_cons rfl ?_ ?_ | rfl | (refine d_int ?_; (first | rfl | omega | (rw [IntWalk.i64_in _ (by omega)] <;> omega) | (simp; done) | (simp; omega))) | (refine d_bool ?_; (first | (simp_all; done) | (rw [Bool.eq_iff_iff]; simp_all; done) | (rw [Bool.eq_iff_iff]; simp_all; omega) | (rw [Bool.eq_iff_iff]; simp; omega))) | exact d_int hwj | exact ob_sl rfl ((hset u).trans (congrArg ints hE')))), by omega⟩
            | trace_state
        · have hpi : 0 ≤ p ∧ p < (m : Int) := by omega
          have hatPn : ¬ (tab m (fun i => if i < (v : Int) then PF i else if i = (v : Int) then p else -1)).getD (0 + ((v : Nat) : Int).toNat) 0 = -1 := by rw [hatP]; exact hp
          have hidx : 0 ≤ (tab m (fun i => if i < (v : Int) then PF i else if i = (v : Int) then p else -1)).getD (0 + ((v : Nat) : Int).toNat) 0 ∧ (tab m (fun i => if i < (v : Int) then PF i else if i = (v : Int) then p else -1)).getD (0 + ((v : Nat) : Int).toNat) 0 < (m : Int) := by rw [hatP]; exact hpi
          by_cases hlt3 : S.getD (0 + u.toNat) 0 < S.getD (0 + p.toNat) 0
          · rw [if_pos (.inr hlt3)] at hsn
            have hE' := hE u hsn
            clear hE hE2 hsn
            repeat' (first | (with_reducible first | refine aw_seq ?_ | refine thn_normal ?_ | refine thn_ret ?_ | refine thn_exit ?_ | refine blk_normal ?_ | refine blk_ret ?_ | refine blk_hit ?_ | refine blk_miss rfl ?_ | refine aw_block ?_ | refine aw_ret ?_ | refine aw_skip ?_ | refine aw_exit ?_ | refine w_nil ?_ | refine x_nil (by kernel_rfl) ?_) | refine aw_region ?_ | refine aw_region_draw (by kernel_rfl) ?_ | refine aw_yes rfl ?_ | refine aw_no rfl ?_ | ((with_reducible refine w_seq ?_); first | refine r_q tbOk rfl rfl rfl rfl ?_ | refine r_e tbOk rfl rfl rfl rfl rfl ?_ | refine r_yes tbOk rfl rfl rfl rfl rfl rfl ?_ | refine w_no rfl rfl (lookO_spec rfl) rfl rfl rfl ?_ | refine w_un rfl rfl (lookO_spec rfl) rfl rfl ?_) | ((with_reducible refine w_drw ?_); first | refine rx_q tbOk rfl rfl rfl rfl ?_ | refine rx_e tbOk rfl rfl rfl rfl rfl ?_ | refine rx_yes tbOk rfl rfl rfl rfl rfl rfl ?_ | refine x_no rfl rfl (lookO_spec rfl) rfl rfl rfl ?_ | refine x_un rfl rfl (lookO_spec rfl) rfl rfl ?_) | ((first | refine' w_q rfl rfl ?xa rfl ?_ | refine' v_q rfl rfl ?xa rfl ?_ | refine' w_yes rfl rfl (lookO_spec rfl) rfl ?xa rfl ?_ | refine' v_yes rfl rfl (lookO_spec rfl) rfl ?xa rfl ?_); case xa => first | exact k_index tbOk rfl rfl rfl rfl (by omega) (by exact hixj) | exact k_indexO tbOk rfl rfl rfl rfl (by first | omega | exact hidx.1) (by first | omega | exact hidx.2) | exact k_loadI tbOk rfl rfl rfl rfl (by omega)) | ((first | refine' w_e rfl ?xa ?xb ?xc ?xe ?_ | refine' v_e rfl ?xa ?xb ?xc ?xe ?_); (case xa => exact e_storeS tbOk rfl rfl rfl rfl rfl rfl rfl rfl (by omega)); (case xb => rfl); (case xc => rfl); (case xe => rfl); try dsimp only [P0.d, Res.d, List.map_cons, List.map_nil, List.set_cons_zero, List.set_cons_succ, Nat.reduceAdd]) | ((first | refine aw_ways rfl ?_ ?_ | refine r_split rfl rfl rfl ?_ ?_) <;> intro hg_ <;> fail_if_success (exact Bool.noConfusion hg_)) <;> (try simp only [prn] at hg_) <;> (try first | contradiction | (exfalso; omega)))
            all_goals first
              | (exfalso; rw [hatP] at hg_; omega)
              | exact ⟨j + 1, by omega, by (refine weak_ren [(100, 100), (101, 101), (102, 102), (103, 103)] rfl ?_ ?_ <;> repeat' (first | exact trivial | refine subR_cons rfl ?_ ?_ | refine subHR_cons rfl ?_ ?_ | rfl | (refine d_int ?_; (first | rfl | omega | (rw [IntWalk.i64_in _ (by omega)] <;> omega) | (simp; done) | (simp; omega))) | (refine d_bool ?_; (first | (simp_all; done) | (rw [Bool.eq_iff_iff]; simp_all; done) | (rw [Bool.eq_iff_iff]; simp_all; omega) | (rw [Bool.eq_iff_iff]; simp; omega))) | exact d_int hwj | exact ob_sl rfl ((hset u).trans (congrArg ints hE')))), by omega⟩
              | trace_state
          · rw [if_neg (by omega)] at hsn
            have hE' := hE2 hsn
            clear hE hE2 hsn
            repeat' (first | (with_reducible first | refine aw_seq ?_ | refine thn_normal ?_ | refine thn_ret ?_ | refine thn_exit ?_ | refine blk_normal ?_ | refine blk_ret ?_ | refine blk_hit ?_ | refine blk_miss rfl ?_ | refine aw_block ?_ | refine aw_ret ?_ | refine aw_skip ?_ | refine aw_exit ?_ | refine w_nil ?_ | refine x_nil (by kernel_rfl) ?_) | refine aw_region ?_ | refine aw_region_draw (by kernel_rfl) ?_ | refine aw_yes rfl ?_ | refine aw_no rfl ?_ | ((with_reducible refine w_seq ?_); first | refine r_q tbOk rfl rfl rfl rfl ?_ | refine r_e tbOk rfl rfl rfl rfl rfl ?_ | refine r_yes tbOk rfl rfl rfl rfl rfl rfl ?_ | refine w_no rfl rfl (lookO_spec rfl) rfl rfl rfl ?_ | refine w_un rfl rfl (lookO_spec rfl) rfl rfl ?_) | ((with_reducible refine w_drw ?_); first | refine rx_q tbOk rfl rfl rfl rfl ?_ | refine rx_e tbOk rfl rfl rfl rfl rfl ?_ | refine rx_yes tbOk rfl rfl rfl rfl rfl rfl ?_ | refine x_no rfl rfl (lookO_spec rfl) rfl rfl rfl ?_ | refine x_un rfl rfl (lookO_spec rfl) rfl rfl ?_) | ((first | refine' w_q rfl rfl ?xa rfl ?_ | refine' v_q rfl rfl ?xa rfl ?_ | refine' w_yes rfl rfl (lookO_spec rfl) rfl ?xa rfl ?_ | refine' v_yes rfl rfl (lookO_spec rfl) rfl ?xa rfl ?_); case xa => first | exact k_index tbOk rfl rfl rfl rfl (by omega) (by exact hixj) | exact k_indexO tbOk rfl rfl rfl rfl (by first | omega | exact hidx.1) (by first | omega | exact hidx.2) | exact k_loadI tbOk rfl rfl rfl rfl (by omega)) | ((first | refine' w_e rfl ?xa ?xb ?xc ?xe ?_ | refine' v_e rfl ?xa ?xb ?xc ?xe ?_); (case xa => exact e_storeS tbOk rfl rfl rfl rfl rfl rfl rfl rfl (by omega)); (case xb => rfl); (case xc => rfl); (case xe => rfl); try dsimp only [P0.d, Res.d, List.map_cons, List.map_nil, List.set_cons_zero, List.set_cons_succ, Nat.reduceAdd]) | ((first | refine aw_ways rfl ?_ ?_ | refine r_split rfl rfl rfl ?_ ?_) <;> intro hg_ <;> fail_if_success (exact Bool.noConfusion hg_)) <;> (try simp only [prn] at hg_) <;> (try first | contradiction | (exfalso; omega)))
            all_goals first
              | (exfalso; rw [hatP] at hg_; omega)
              | exact ⟨j + 1, by omega, by (refine weak_ren [(100, 100), (101, 101), (102, 102), (103, 103)] rfl ?_ ?_ <;> repeat' (first | exact trivial | refine subR_cons rfl ?_ ?_ | refine subHR_cons rfl ?_ ?_ | rfl | (refine d_int ?_; (first | rfl | omega | (rw [IntWalk.i64_in _ (by omega)] <;> omega) | (simp; done) | (simp; omega))) | (refine d_bool ?_; (first | (simp_all; done) | (rw [Bool.eq_iff_iff]; simp_all; done) | (rw [Bool.eq_iff_iff]; simp_all; omega) | (rw [Bool.eq_iff_iff]; simp; omega))) | exact d_int hwj | exact ob_sl rfl (congrArg ints hE'))), by omega⟩
              | trace_state
      · obtain rfl : j = W.length := by omega
        rw [List.take_length] at *
        have hE : tab m (fun i => if i < (v : Int) then PF i else if i = (v : Int) then pmF S W else -1) = tab m (fun i => if i < ((v + 1 : Nat) : Int) then PF i else -1) := tab_congr fun i h0 _ => by
          by_cases hik : i = (v : Int)
          · subst hik; rw [if_neg (by omega), if_pos rfl, if_pos (by omega), hpv]
          · by_cases h : i < (v : Int)
            · rw [if_pos h, if_pos (by omega)]
            · rw [if_neg h, if_neg hik, if_neg (by omega)]
        rw [hE]
        clear hWin
        repeat' (first | (with_reducible first | refine aw_seq ?_ | refine thn_normal ?_ | refine thn_ret ?_ | refine thn_exit ?_ | refine blk_normal ?_ | refine blk_ret ?_ | refine blk_hit ?_ | refine blk_miss rfl ?_ | refine aw_block ?_ | refine aw_ret ?_ | refine aw_skip ?_ | refine aw_exit ?_ | refine w_nil ?_ | refine x_nil (by kernel_rfl) ?_) | refine aw_region ?_ | refine aw_region_draw (by kernel_rfl) ?_ | refine aw_yes rfl ?_ | refine aw_no rfl ?_ | ((with_reducible refine w_seq ?_); first | refine r_q tbOk rfl rfl rfl rfl ?_ | refine r_e tbOk rfl rfl rfl rfl rfl ?_ | refine r_yes tbOk rfl rfl rfl rfl rfl rfl ?_ | refine w_no rfl rfl (lookO_spec rfl) rfl rfl rfl ?_ | refine w_un rfl rfl (lookO_spec rfl) rfl rfl ?_) | ((with_reducible refine w_drw ?_); first | refine rx_q tbOk rfl rfl rfl rfl ?_ | refine rx_e tbOk rfl rfl rfl rfl rfl ?_ | refine rx_yes tbOk rfl rfl rfl rfl rfl rfl ?_ | refine x_no rfl rfl (lookO_spec rfl) rfl rfl rfl ?_ | refine x_un rfl rfl (lookO_spec rfl) rfl rfl ?_) | ((first | refine aw_ways rfl ?_ ?_ | refine r_split rfl rfl rfl ?_ ?_) <;> intro hg_ <;> fail_if_success (exact Bool.noConfusion hg_)) <;> (try simp only [prn] at hg_) <;> (try first | contradiction | (exfalso; omega)))
        all_goals first
          | exact ⟨v + 1, by omega, by (refine weak_ren [(100, 100), (101, 101), (102, 102)] rfl ?_ ?_ <;> repeat' (first | exact trivial | refine subR_cons rfl ?_ ?_ | refine subHR_cons rfl ?_ ?_ | rfl | (refine d_int ?_; (first | rfl | omega | (rw [IntWalk.i64_in _ (by omega)] <;> omega) | (simp; done) | (simp; omega))) | (refine d_bool ?_; (first | (simp_all; done) | (rw [Bool.eq_iff_iff]; simp_all; done) | (rw [Bool.eq_iff_iff]; simp_all; omega) | (rw [Bool.eq_iff_iff]; simp; omega))) | exact d_int hw)), by omega⟩
          | trace_state
  · obtain rfl : v = m := by omega
    have hE : tab v (fun i => if i < (v : Int) then PF i else -1) = tab v PF := tab_congr fun i _ h1 => by rw [if_pos h1]
    rw [hE]
    rw [hE] at hlen1
    repeat' (first | (with_reducible first | refine aw_seq ?_ | refine thn_normal ?_ | refine thn_ret ?_ | refine thn_exit ?_ | refine blk_normal ?_ | refine blk_ret ?_ | refine blk_hit ?_ | refine blk_miss rfl ?_ | refine aw_block ?_ | refine aw_ret ?_ | refine aw_skip ?_ | refine aw_exit ?_ | refine w_nil ?_ | refine x_nil (by kernel_rfl) ?_) | refine aw_region ?_ | refine aw_region_draw (by kernel_rfl) ?_ | refine aw_yes rfl ?_ | refine aw_no rfl ?_ | ((with_reducible refine w_seq ?_); first | refine r_q tbOk rfl rfl rfl rfl ?_ | refine r_e tbOk rfl rfl rfl rfl rfl ?_ | refine r_yes tbOk rfl rfl rfl rfl rfl rfl ?_ | refine w_no rfl rfl (lookO_spec rfl) rfl rfl rfl ?_ | refine w_un rfl rfl (lookO_spec rfl) rfl rfl ?_) | ((with_reducible refine w_drw ?_); first | refine rx_q tbOk rfl rfl rfl rfl ?_ | refine rx_e tbOk rfl rfl rfl rfl rfl ?_ | refine rx_yes tbOk rfl rfl rfl rfl rfl rfl ?_ | refine x_no rfl rfl (lookO_spec rfl) rfl rfl rfl ?_ | refine x_un rfl rfl (lookO_spec rfl) rfl rfl ?_) | ((first | refine aw_ways rfl ?_ ?_ | refine r_split rfl rfl rfl ?_ ?_) <;> intro hg_ <;> fail_if_success (exact Bool.noConfusion hg_)) <;> (try simp only [prn] at hg_) <;> (try first | contradiction | (exfalso; omega)))
    all_goals first
      | exact ret_own rfl rfl hlen1.symm
      | trace_state
set_option maxRecDepth 100000 in
set_option maxHeartbeats 2000000 in
theorem f_implPartParNo (m : Int) (nil : Bool) (es : List E3) (hl : es.length ≤ 1048576) (hg : gOk m es = false) : Fn Tryd.prog 30 [graphP m nil es] (.v (.one (row true 1 []))) := by
  have KG := f_implGraphValid m nil es (by simp only [maxLen]; omega)
  rw [hg] at KG
  refine fn_of (l := [.tmp 2]) Tryd.func30 (by kernel_rfl) rfl Tryd.ntmps30 rfl rfl ?_; simp only [argEnv, P0.d, Nat.reduceAdd, graphP, List.map_cons, List.map_nil]
  repeat' (first | (with_reducible first | refine aw_seq ?_ | refine thn_normal ?_ | refine thn_ret ?_ | refine thn_exit ?_ | refine blk_normal ?_ | refine blk_ret ?_ | refine blk_hit ?_ | refine blk_miss rfl ?_ | refine aw_block ?_ | refine aw_ret ?_ | refine aw_skip ?_ | refine aw_exit ?_ | refine w_nil ?_ | refine x_nil (by kernel_rfl) ?_) | refine aw_region ?_ | refine aw_region_draw (by kernel_rfl) ?_ | refine aw_yes rfl ?_ | refine aw_no rfl ?_ | ((with_reducible refine w_seq ?_); first | refine r_q tbOk rfl rfl rfl rfl ?_ | refine r_e tbOk rfl rfl rfl rfl rfl ?_ | refine r_yes tbOk rfl rfl rfl rfl rfl rfl ?_ | refine w_no rfl rfl (lookO_spec rfl) rfl rfl rfl ?_ | refine w_un rfl rfl (lookO_spec rfl) rfl rfl ?_) | ((with_reducible refine w_drw ?_); first | refine rx_q tbOk rfl rfl rfl rfl ?_ | refine rx_e tbOk rfl rfl rfl rfl rfl ?_ | refine rx_yes tbOk rfl rfl rfl rfl rfl rfl ?_ | refine x_no rfl rfl (lookO_spec rfl) rfl rfl rfl ?_ | refine x_un rfl rfl (lookO_spec rfl) rfl rfl ?_) | ((first | refine' w_q rfl rfl ?xa rfl ?_ | refine' v_q rfl rfl ?xa rfl ?_ | refine' w_yes rfl rfl (lookO_spec rfl) rfl ?xa rfl ?_ | refine' v_yes rfl rfl (lookO_spec rfl) rfl ?xa rfl ?_); case xa => exact k_call KG rfl ⟨asA_agg (evO_spec rfl) ⟨cAr_r, cAr_r, trivial⟩, trivial⟩) | ((first | refine aw_ways rfl ?_ ?_ | refine r_split rfl rfl rfl ?_ ?_) <;> intro hg_ <;> fail_if_success (exact Bool.noConfusion hg_)) <;> (try simp only [prn] at hg_) <;> (try first | contradiction | (exfalso; omega)))
  all_goals first
    | exact ret_tmp rfl (dres_one cres_nil)
    | trace_state
end Go.Proofs.YtfdaoepbdolgiaaDoor.Abs
