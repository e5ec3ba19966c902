/- Parents on least ways by states: CostParents of both texts. No statement of the seat is proved here. -/
import Derived.Test.YthjnidcmhegoeaaDoorGPar
import Derived.Test.YthjnidcmhegoeaaDoorTy
import Derived.Lib.Hide
import Derived.Test.YthjnidcmhegoeaaDoorACostF
set_option linter.unusedSimpArgs false
set_option linter.unusedVariables false
namespace Go.Proofs.YthjnidcmhegoeaaDoor.Abs
open Go.RowKit
open R (val row ref)

/-- What CostParents gives. -/
def parF (m : Int) (es : List E3) (s : Int) : List Int := if gOk m es && inR 0 (m - 1) s then (parS (costsN m.toNat es s m.toNat) m.toNat es s m.toNat).2 else []
theorem stepPS_at (cs : List Int) (n : Int) (x : List Int × List Int) (es : List E3) {k : Nat} (h : k < es.length) : stepPS cs n (es.take (k + 1)) x = stepP cs n (stepPS cs n (es.take k) x) es[k] := by
  rw [List.take_succ_eq_append_getElem h, stepPS_snoc]
theorem stepP_len (cs : List Int) (n : Int) (x : List Int × List Int) (e : E3) : (stepP cs n x e).1.length = x.1.length ∧ (stepP cs n x e).2.length = x.2.length := by
  unfold stepP
  split <;> simp [setv_len]
theorem stepPS_len (cs : List Int) (n : Int) : ∀ (es : List E3) (x : List Int × List Int), (stepPS cs n es x).1.length = x.1.length ∧ (stepPS cs n es x).2.length = x.2.length
  | [], x => ⟨rfl, rfl⟩
  | e :: es, x => by
    have := stepPS_len cs n es (stepP cs n x e)
    have h2 := stepP_len cs n x e
    have hs : stepPS cs n (e :: es) x = stepPS cs n es (stepP cs n x e) := by unfold stepPS; rw [List.foldl_cons]
    rw [hs]
    exact ⟨this.1.trans h2.1, this.2.trans h2.2⟩
theorem parS_len (cs : List Int) (m : Nat) (es : List E3) (s : Int) : ∀ n, (parS cs m es s n).1.length = m ∧ (parS cs m es s n).2.length = m
  | 0 => by simp [parS, hops0, setv_len]
  | n + 1 => by
    have h1 := stepPS_len cs n es (parS cs m es s n)
    have h2 := parS_len cs m es s n
    rw [parS]
    exact ⟨h1.1.trans h2.1, h1.2.trans h2.2⟩
set_option maxRecDepth 100000 in
set_option maxHeartbeats 16000000 in
theorem f_specCostParents (m : Int) (nil : Bool) (es : List E3) (s : Int) (hl : es.length ≤ 1048576) : FnO Tryd.prog 22 [graphP m nil es, iP s] 3 1 (ints (parF m es s)) := by
  have KC := f_specCostsFrom m nil es s hl
  have hlen := edges_len es
  cases hgv : (gOk m es && inR 0 (m - 1) s)
  · have e : parF m es s = [] := by unfold parF; rw [hgv]; rfl
    have e2 : costsF m es s = [] := by unfold costsF; rw [hgv]; rfl
    rw [e]
    rw [e2] at KC
    have KF := f_l8Fill 0 (-1) (by omega)
    have h0 : (ints ([] : List Int)).length = 0 := rfl
    refine fn_ofO Tryd.func22 (by kernel_rfl) rfl Tryd.ntmps22 rfl rfl ?_
    simp only [argEnv, P0.d, Nat.reduceAdd, List.map_cons, List.map_nil, graphP]
    repeat' (first | (with_reducible first | refine aw_seq ?_ | refine thn_normal ?_ | refine thn_ret ?_ | refine thn_exit ?_ | refine blk_normal ?_ | refine blk_ret ?_ | refine blk_hit ?_ | refine blk_miss rfl ?_ | refine aw_block ?_ | refine aw_ret ?_ | refine aw_skip ?_ | refine aw_exit ?_ | refine w_nil ?_ | refine x_nil (by kernel_rfl) ?_) | refine aw_region ?_ | refine aw_region_draw (by kernel_rfl) ?_ | refine aw_yes rfl ?_ | refine aw_no rfl ?_ | ((with_reducible refine w_seq ?_); first | refine r_q tbOk rfl rfl rfl rfl ?_ | refine r_e tbOk rfl rfl rfl rfl rfl ?_ | refine r_yes tbOk rfl rfl rfl rfl rfl rfl ?_ | refine w_no rfl rfl (lookO_spec rfl) rfl rfl rfl ?_ | refine w_un rfl rfl (lookO_spec rfl) rfl rfl ?_) | ((with_reducible refine w_drw ?_); first | refine rx_q tbOk rfl rfl rfl rfl ?_ | refine rx_e tbOk rfl rfl rfl rfl rfl ?_ | refine rx_yes tbOk rfl rfl rfl rfl rfl rfl ?_ | refine x_no rfl rfl (lookO_spec rfl) rfl rfl rfl ?_ | refine x_un rfl rfl (lookO_spec rfl) rfl rfl ?_) | ((first | refine' w_e rfl ?xa ?xb ?xc ?xe ?_ | refine' v_e rfl ?xa ?xb ?xc ?xe ?_); (case xa => first | exact at_dst 13 rfl (e_callO KC rfl rfl ⟨asA_agg (evO_spec rfl) ⟨cAr_r, cAr_r, trivial⟩, asA_r (evO_spec rfl), trivial⟩) | exact e_callO KF rfl rfl ⟨asA_r (evO_spec rfl), asA_r (evO_spec rfl), trivial⟩); (case xb => rfl); (case xc => rfl); (case xe => rfl); try dsimp only [P0.d, Res.d, List.map_cons, List.map_nil, List.set_cons_zero, List.set_cons_succ, Nat.reduceAdd]) | ((first | refine aw_ways rfl ?_ ?_ | refine r_split rfl rfl rfl ?_ ?_) <;> intro hg_ <;> fail_if_success (exact Bool.noConfusion hg_)) <;> (try simp only [prn] at hg_) <;> (try first | contradiction | (exfalso; omega)))
    refine aw_loopI (fun _ : Nat => True) (fun _ => mkS 108 [(8, .one (.r true (int 0))), (6, .one (.own 101 0 0 1)), (5, .one (.own 100 0 0 1))] [(100, .sl 3 1 true (ints [])), (101, .sl 3 1 true (ints []))]) (fun _ => 0) 0 trivial (by (refine weak_ren [(100, 13), (101, 16)] rfl ?_ ?_ <;> repeat' (first | exact trivial | refine subR_cons rfl ?_ ?_ | refine subHR_cons rfl ?_ ?_ | rfl | (refine d_int ?_; (first | rfl | omega | (rw [IntWalk.i64_in _ (by omega)] <;> omega) | (simp; done) | (simp; omega))) | (refine d_bool ?_; (first | (simp_all; done) | (rw [Bool.eq_iff_iff]; simp_all; done) | (rw [Bool.eq_iff_iff]; simp_all; omega) | (rw [Bool.eq_iff_iff]; simp; omega)))))) ?_
    intro _ _
    repeat' (first | (with_reducible first | refine aw_seq ?_ | refine thn_normal ?_ | refine thn_ret ?_ | refine thn_exit ?_ | refine blk_normal ?_ | refine blk_ret ?_ | refine blk_hit ?_ | refine blk_miss rfl ?_ | refine aw_block ?_ | refine aw_ret ?_ | refine aw_skip ?_ | refine aw_exit ?_ | refine w_nil ?_ | refine x_nil (by kernel_rfl) ?_) | refine aw_region ?_ | refine aw_region_draw (by kernel_rfl) ?_ | refine aw_yes rfl ?_ | refine aw_no rfl ?_ | ((with_reducible refine w_seq ?_); first | refine r_q tbOk rfl rfl rfl rfl ?_ | refine r_e tbOk rfl rfl rfl rfl rfl ?_ | refine r_yes tbOk rfl rfl rfl rfl rfl rfl ?_ | refine w_no rfl rfl (lookO_spec rfl) rfl rfl rfl ?_ | refine w_un rfl rfl (lookO_spec rfl) rfl rfl ?_) | ((with_reducible refine w_drw ?_); first | refine rx_q tbOk rfl rfl rfl rfl ?_ | refine rx_e tbOk rfl rfl rfl rfl rfl ?_ | refine rx_yes tbOk rfl rfl rfl rfl rfl rfl ?_ | refine x_no rfl rfl (lookO_spec rfl) rfl rfl rfl ?_ | refine x_un rfl rfl (lookO_spec rfl) rfl rfl ?_) | ((first | refine aw_ways rfl ?_ ?_ | refine r_split rfl rfl rfl ?_ ?_) <;> intro hg_ <;> fail_if_success (exact Bool.noConfusion hg_)) <;> (try simp only [prn] at hg_) <;> (try first | contradiction | (exfalso; omega)))
    all_goals first
      | exact ret_own rfl rfl rfl
      | (exfalso; simp at *; done)
      | trace_state
  · have hgk : gOk m es = true := by cases h : gOk m es <;> simp_all
    have hR : inR 0 (m - 1) s = true := by cases h : inR 0 (m - 1) s <;> simp_all
    have hm := gOk_m hgk
    have hI := gOk_edges hgk
    have hww := valid_w hgk
    have h40 := gOk_len hgk
    have hs : 0 ≤ s ∧ s < m := by unfold inR at hR; simp at hR; omega
    obtain ⟨M, rfl⟩ : ∃ M : Nat, m = (M : Int) := ⟨m.toNat, by omega⟩
    have hIn : Inside M es := fun e he => ⟨(hI e he).1, (hI e he).2.1⟩
    have e : parF M es s = (parS (costsN M es s M) M es s M).2 := by unfold parF; rw [hgv]; rfl
    have e2 : costsF M es s = costsN M es s M := by unfold costsF; rw [hgv]; rfl
    rw [e]
    rw [e2] at KC
    have hcl := costsN_len M es s M
    have hcb := costsN_bd hIn hww h40 hs M
    clear e e2 hgv hgk hR
    generalize costsN M es s M = cs at *
    have hci : (ints cs).length = M := by rw [ints_len, hcl]
    have KF := f_l8Fill M (-1) (by omega)
    have hr0 : (ints (List.replicate M (-1))).length = M := by rw [ints_len, List.length_replicate]
    have hst : (ints (List.replicate M (-1))).set (0 + s.toNat) (iP 0) = ints (parS cs M es s 0).1 := by rw [ints_set, Nat.zero_add]; rfl
    rw [← hci] at KF
    refine fn_ofO Tryd.func22 (by kernel_rfl) rfl Tryd.ntmps22 rfl rfl ?_
    simp only [argEnv, P0.d, Nat.reduceAdd, List.map_cons, List.map_nil, graphP]
    repeat' (first | (with_reducible first | refine aw_seq ?_ | refine thn_normal ?_ | refine thn_ret ?_ | refine thn_exit ?_ | refine blk_normal ?_ | refine blk_ret ?_ | refine blk_hit ?_ | refine blk_miss rfl ?_ | refine aw_block ?_ | refine aw_ret ?_ | refine aw_skip ?_ | refine aw_exit ?_ | refine w_nil ?_ | refine x_nil (by kernel_rfl) ?_) | refine aw_region ?_ | refine aw_region_draw (by kernel_rfl) ?_ | refine aw_yes rfl ?_ | refine aw_no rfl ?_ | ((with_reducible refine w_seq ?_); first | refine r_q tbOk rfl rfl rfl rfl ?_ | refine r_e tbOk rfl rfl rfl rfl rfl ?_ | refine r_yes tbOk rfl rfl rfl rfl rfl rfl ?_ | refine w_no rfl rfl (lookO_spec rfl) rfl rfl rfl ?_ | refine w_un rfl rfl (lookO_spec rfl) rfl rfl ?_) | ((with_reducible refine w_drw ?_); first | refine rx_q tbOk rfl rfl rfl rfl ?_ | refine rx_e tbOk rfl rfl rfl rfl rfl ?_ | refine rx_yes tbOk rfl rfl rfl rfl rfl rfl ?_ | refine x_no rfl rfl (lookO_spec rfl) rfl rfl rfl ?_ | refine x_un rfl rfl (lookO_spec rfl) rfl rfl ?_) | ((first | refine' w_q rfl rfl ?xa rfl ?_ | refine' v_q rfl rfl ?xa rfl ?_ | refine' w_yes rfl rfl (lookO_spec rfl) rfl ?xa rfl ?_ | refine' v_yes rfl rfl (lookO_spec rfl) rfl ?xa rfl ?_); case xa => exact k_indexO tbOk rfl rfl rfl rfl (by omega) (by rw [hci, hr0]; omega)) | ((first | refine' w_e rfl ?xa ?xb ?xc ?xe ?_ | refine' v_e rfl ?xa ?xb ?xc ?xe ?_); (case xa => first | exact at_dst 13 rfl (e_callO KC rfl rfl ⟨asA_agg (evO_spec rfl) ⟨cAr_r, cAr_r, trivial⟩, asA_r (evO_spec rfl), trivial⟩) | exact e_callO KF rfl rfl ⟨asA_r (evO_spec rfl), asA_r (evO_spec rfl), trivial⟩ | exact e_storeS tbOk rfl rfl rfl rfl rfl rfl rfl rfl (by rw [hci, hr0]; omega)); (case xb => rfl); (case xc => rfl); (case xe => rfl); try dsimp only [P0.d, Res.d, List.map_cons, List.map_nil, List.set_cons_zero, List.set_cons_succ, Nat.reduceAdd]) | ((first | refine aw_ways rfl ?_ ?_ | refine r_split rfl rfl rfl ?_ ?_) <;> intro hg_ <;> fail_if_success (exact Bool.noConfusion hg_)) <;> (try simp only [prn] at hg_) <;> (try first | contradiction | (exfalso; omega)))
    all_goals try (exfalso; omega)
    rw [hci]
    refine aw_loopI (fun n : Nat => n ≤ M) (fun n => mkS 108 [(8, .one (.r true (int n))), (7, .one (.own 102 0 M 1)), (6, .one (.own 101 0 M 1)), (5, .one (.own 100 0 M 1)), (2, .one (.ptr 2 0 0 0))] [(102, .sl 3 1 true (ints (parS cs M es s n).1)), (101, .sl 3 1 true (ints (parS cs M es s n).2)), (100, .sl 3 1 true (ints cs)), (2, .var 48 [.r false (int M), .r false (row nil 3 (edges es))])]) (fun n => M - n) 0 (Nat.zero_le _) (by (refine weak_ren [(100, 13), (101, 16), (102, 19)] rfl ?_ ?_ <;> repeat' (first | exact trivial | refine subR_cons rfl ?_ ?_ | refine subHR_cons rfl ?_ ?_ | rfl | (refine d_int ?_; (first | rfl | omega | (rw [IntWalk.i64_in _ (by omega)] <;> omega) | (simp; done) | (simp; omega))) | (refine d_bool ?_; (first | (simp_all; done) | (rw [Bool.eq_iff_iff]; simp_all; done) | (rw [Bool.eq_iff_iff]; simp_all; omega) | (rw [Bool.eq_iff_iff]; simp; omega))) | exact d_own hr0 | exact d_own hci | exact ob_sl rfl hst))) ?_
    intro n hn
    clear KC KF hst hr0
    by_cases hlt : n < M
    · repeat' (first | (with_reducible first | refine aw_seq ?_ | refine thn_normal ?_ | refine thn_ret ?_ | refine thn_exit ?_ | refine blk_normal ?_ | refine blk_ret ?_ | refine blk_hit ?_ | refine blk_miss rfl ?_ | refine aw_block ?_ | refine aw_ret ?_ | refine aw_skip ?_ | refine aw_exit ?_ | refine w_nil ?_ | refine x_nil (by kernel_rfl) ?_) | refine aw_region ?_ | refine aw_region_draw (by kernel_rfl) ?_ | refine aw_yes rfl ?_ | refine aw_no rfl ?_ | ((with_reducible refine w_seq ?_); first | refine r_q tbOk rfl rfl rfl rfl ?_ | refine r_e tbOk rfl rfl rfl rfl rfl ?_ | refine r_yes tbOk rfl rfl rfl rfl rfl rfl ?_ | refine w_no rfl rfl (lookO_spec rfl) rfl rfl rfl ?_ | refine w_un rfl rfl (lookO_spec rfl) rfl rfl ?_) | ((with_reducible refine w_drw ?_); first | refine rx_q tbOk rfl rfl rfl rfl ?_ | refine rx_e tbOk rfl rfl rfl rfl rfl ?_ | refine rx_yes tbOk rfl rfl rfl rfl rfl rfl ?_ | refine x_no rfl rfl (lookO_spec rfl) rfl rfl rfl ?_ | refine x_un rfl rfl (lookO_spec rfl) rfl rfl ?_) | ((first | refine aw_ways rfl ?_ ?_ | refine r_split rfl rfl rfl ?_ ?_) <;> intro hg_ <;> fail_if_success (exact Bool.noConfusion hg_)) <;> (try simp only [prn] at hg_) <;> (try first | contradiction | (exfalso; omega)))
      have hL0 := parS_len cs M es s n
      have hnx : parS cs M es s (n + 1) = stepPS cs n es (parS cs M es s n) := rfl
      have hfin : ∀ s' : St, Weak s' (mkS 108 [(8, .one (.r true (int ((n + 1 : Nat) : Int)))), (7, .one (.own 102 0 M 1)), (6, .one (.own 101 0 M 1)), (5, .one (.own 100 0 M 1)), (2, .one (.ptr 2 0 0 0))] [(102, .sl 3 1 true (ints (parS cs M es s (n + 1)).1)), (101, .sl 3 1 true (ints (parS cs M es s (n + 1)).2)), (100, .sl 3 1 true (ints cs)), (2, .var 48 [.r false (int M), .r false (row nil 3 (edges es))])]) → ∃ x', x' ≤ M ∧ Weak s' (mkS 108 [(8, .one (.r true (int x'))), (7, .one (.own 102 0 M 1)), (6, .one (.own 101 0 M 1)), (5, .one (.own 100 0 M 1)), (2, .one (.ptr 2 0 0 0))] [(102, .sl 3 1 true (ints (parS cs M es s x').1)), (101, .sl 3 1 true (ints (parS cs M es s x').2)), (100, .sl 3 1 true (ints cs)), (2, .var 48 [.r false (int M), .r false (row nil 3 (edges es))])]) ∧ M - x' < M - n := fun s' h => ⟨n + 1, by omega, h, by omega⟩
      rw [hnx] at hfin
      generalize parS cs M es s n = xs at *
      refine aw_loopI (fun k : Nat => k ≤ es.length) (fun k => mkS 108 [(9, .one (.r true (int k))), (8, .one (.r true (int n))), (7, .one (.own 102 0 M 1)), (6, .one (.own 101 0 M 1)), (5, .one (.own 100 0 M 1)), (2, .one (.ptr 2 0 0 0))] [(102, .sl 3 1 true (ints (stepPS cs n (es.take k) xs).1)), (101, .sl 3 1 true (ints (stepPS cs n (es.take k) xs).2)), (100, .sl 3 1 true (ints cs)), (2, .var 48 [.r false (int M), .r false (row nil 3 (edges es))])]) (fun k => es.length - k) 0 (Nat.zero_le _) (by (refine weak_ren [] rfl ?_ ?_ <;> repeat' (first | exact trivial | refine subR_cons rfl ?_ ?_ | refine subHR_cons rfl ?_ ?_ | rfl | (refine d_int ?_; (first | rfl | omega | (rw [IntWalk.i64_in _ (by omega)] <;> omega) | (simp; done) | (simp; omega))) | (refine d_bool ?_; (first | (simp_all; done) | (rw [Bool.eq_iff_iff]; simp_all; done) | (rw [Bool.eq_iff_iff]; simp_all; omega) | (rw [Bool.eq_iff_iff]; simp; omega)))))) ?_
      intro k hk
      by_cases hltk : k < es.length
      · have hix := edges_at hltk
        obtain ⟨⟨g0, g1⟩, ⟨g2, g3⟩, _⟩ := hI es[k] (List.getElem_mem hltk)
        obtain ⟨g4, g5⟩ := hww es[k] (List.getElem_mem hltk)
        have hF := stepPS_at cs n xs es hltk
        have hXl := stepPS_len cs n (es.take k) xs
        have hb1 := hcb es[k].1 g0 g1
        clear hnx hfin
        generalize es[k] = e at *
        generalize stepPS cs n (es.take k) xs = XS at *
        obtain ⟨S, O⟩ := XS
        obtain ⟨e1, e2, e3⟩ := e
        dsimp only at *
        have hS1 : S.length = M := hXl.1.trans hL0.1
        have hO1 : O.length = M := hXl.2.trans hL0.2
        have hSi : (ints S).length = M := by rw [ints_len, hS1]
        have hOi : (ints O).length = M := by rw [ints_len, hO1]
        have hw : IntKind.i64.wrap (cs.getD (0 + e1.toNat) 0 + e3) = cs.getD (0 + e1.toNat) 0 + e3 := by rw [val_at]; exact IntWalk.i64_in _ (by omega)
        have hwn : IntKind.i64.wrap ((n : Int) + 1) = (n : Int) + 1 := IntWalk.i64_in _ (by omega)
        unfold stepP at hF
        dsimp only at hF
        rw [← val_at, ← val_at, ← val_at, ← val_at, ← val_at] at hF
        repeat' (first | (with_reducible first | refine aw_seq ?_ | refine thn_normal ?_ | refine thn_ret ?_ | refine thn_exit ?_ | refine blk_normal ?_ | refine blk_ret ?_ | refine blk_hit ?_ | refine blk_miss rfl ?_ | refine aw_block ?_ | refine aw_ret ?_ | refine aw_skip ?_ | refine aw_exit ?_ | refine w_nil ?_ | refine x_nil (by kernel_rfl) ?_) | refine aw_region ?_ | refine aw_region_draw (by kernel_rfl) ?_ | refine aw_yes rfl ?_ | refine aw_no rfl ?_ | ((with_reducible refine w_seq ?_); first | refine r_q tbOk rfl rfl rfl rfl ?_ | refine r_e tbOk rfl rfl rfl rfl rfl ?_ | refine r_yes tbOk rfl rfl rfl rfl rfl rfl ?_ | refine w_no rfl rfl (lookO_spec rfl) rfl rfl rfl ?_ | refine w_un rfl rfl (lookO_spec rfl) rfl rfl ?_) | ((with_reducible refine w_drw ?_); first | refine rx_q tbOk rfl rfl rfl rfl ?_ | refine rx_e tbOk rfl rfl rfl rfl rfl ?_ | refine rx_yes tbOk rfl rfl rfl rfl rfl rfl ?_ | refine x_no rfl rfl (lookO_spec rfl) rfl rfl rfl ?_ | refine x_un rfl rfl (lookO_spec rfl) rfl rfl ?_) | ((first | refine' w_q rfl rfl ?xa rfl ?_ | refine' v_q rfl rfl ?xa rfl ?_ | refine' w_yes rfl rfl (lookO_spec rfl) rfl ?xa rfl ?_ | refine' v_yes rfl rfl (lookO_spec rfl) rfl ?xa rfl ?_); case xa => first | exact k_index tbOk rfl rfl rfl rfl (by omega) (by exact hix) | exact k_indexO tbOk rfl rfl rfl rfl (by first | exact g0 | exact g2) (by first | exact g1 | exact g3) | exact k_loadI tbOk rfl rfl rfl rfl (by dsimp only; omega)) | ((first | refine' w_e rfl ?xa ?xb ?xc ?xe ?_ | refine' v_e rfl ?xa ?xb ?xc ?xe ?_); (case xa => exact e_storeS tbOk rfl rfl rfl rfl rfl rfl rfl rfl (by first | (rw [hSi]; (try dsimp only); omega) | (rw [hOi]; (try dsimp only); omega))); (case xb => rfl); (case xc => rfl); (case xe => rfl); try dsimp only [P0.d, Res.d, List.map_cons, List.map_nil, List.set_cons_zero, List.set_cons_succ, Nat.reduceAdd]) | ((first | refine aw_ways rfl ?_ ?_ | refine r_split rfl rfl rfl ?_ ?_) <;> intro hg_ <;> fail_if_success (exact Bool.noConfusion hg_)) <;> (try simp only [prn] at hg_) <;> (try first | contradiction | (exfalso; omega)))
        all_goals
          first
            | rw [if_pos (by omega)] at hF
            | rw [if_neg (by omega)] at hF
          first
            | exact ⟨k + 1, by omega, by (refine weak_ren [] rfl ?_ ?_ <;> repeat' (first | exact trivial | refine subR_cons rfl ?_ ?_ | refine subHR_cons rfl ?_ ?_ | rfl | (refine d_int ?_; (first | rfl | omega | (rw [IntWalk.i64_in _ (by omega)] <;> omega) | (simp; done) | (simp; omega))) | (refine d_bool ?_; (first | (simp_all; done) | (rw [Bool.eq_iff_iff]; simp_all; done) | (rw [Bool.eq_iff_iff]; simp_all; omega) | (rw [Bool.eq_iff_iff]; simp; omega))) | exact d_int (by rw [IntWalk.i64_in _ (by omega)]; omega) | exact ob_sl rfl (by rw [hF, hwn, Nat.zero_add]; exact ints_set _ _ _) | exact ob_sl rfl (by rw [hF, Nat.zero_add]; exact ints_set _ _ _) | exact ob_sl rfl (by rw [hF]))), by omega⟩
            | trace_state
      · repeat' (first | (with_reducible first | refine aw_seq ?_ | refine thn_normal ?_ | refine thn_ret ?_ | refine thn_exit ?_ | refine blk_normal ?_ | refine blk_ret ?_ | refine blk_hit ?_ | refine blk_miss rfl ?_ | refine aw_block ?_ | refine aw_ret ?_ | refine aw_skip ?_ | refine aw_exit ?_ | refine w_nil ?_ | refine x_nil (by kernel_rfl) ?_) | refine aw_region ?_ | refine aw_region_draw (by kernel_rfl) ?_ | refine aw_yes rfl ?_ | refine aw_no rfl ?_ | ((with_reducible refine w_seq ?_); first | refine r_q tbOk rfl rfl rfl rfl ?_ | refine r_e tbOk rfl rfl rfl rfl rfl ?_ | refine r_yes tbOk rfl rfl rfl rfl rfl rfl ?_ | refine w_no rfl rfl (lookO_spec rfl) rfl rfl rfl ?_ | refine w_un rfl rfl (lookO_spec rfl) rfl rfl ?_) | ((with_reducible refine w_drw ?_); first | refine rx_q tbOk rfl rfl rfl rfl ?_ | refine rx_e tbOk rfl rfl rfl rfl rfl ?_ | refine rx_yes tbOk rfl rfl rfl rfl rfl rfl ?_ | refine x_no rfl rfl (lookO_spec rfl) rfl rfl rfl ?_ | refine x_un rfl rfl (lookO_spec rfl) rfl rfl ?_) | ((first | refine aw_ways rfl ?_ ?_ | refine r_split rfl rfl rfl ?_ ?_) <;> intro hg_ <;> fail_if_success (exact Bool.noConfusion hg_)) <;> (try simp only [prn] at hg_) <;> (try first | contradiction | (exfalso; omega)))
        rw [List.take_of_length_le (by omega)]
        all_goals first
          | (refine hfin _ ?_
             (refine weak_ren [] rfl ?_ ?_ <;> repeat' (first | exact trivial | refine subR_cons rfl ?_ ?_ | refine subHR_cons rfl ?_ ?_ | rfl | (refine d_int ?_; (first | rfl | omega | (rw [IntWalk.i64_in _ (by omega)] <;> omega) | (simp; done) | (simp; omega))) | (refine d_bool ?_; (first | (simp_all; done) | (rw [Bool.eq_iff_iff]; simp_all; done) | (rw [Bool.eq_iff_iff]; simp_all; omega) | (rw [Bool.eq_iff_iff]; simp; omega))) | exact d_int (by rw [IntWalk.i64_in _ (by omega)]; omega))))
          | trace_state
    · obtain rfl : n = M := by omega
      repeat' (first | (with_reducible first | refine aw_seq ?_ | refine thn_normal ?_ | refine thn_ret ?_ | refine thn_exit ?_ | refine blk_normal ?_ | refine blk_ret ?_ | refine blk_hit ?_ | refine blk_miss rfl ?_ | refine aw_block ?_ | refine aw_ret ?_ | refine aw_skip ?_ | refine aw_exit ?_ | refine w_nil ?_ | refine x_nil (by kernel_rfl) ?_) | refine aw_region ?_ | refine aw_region_draw (by kernel_rfl) ?_ | refine aw_yes rfl ?_ | refine aw_no rfl ?_ | ((with_reducible refine w_seq ?_); first | refine r_q tbOk rfl rfl rfl rfl ?_ | refine r_e tbOk rfl rfl rfl rfl rfl ?_ | refine r_yes tbOk rfl rfl rfl rfl rfl rfl ?_ | refine w_no rfl rfl (lookO_spec rfl) rfl rfl rfl ?_ | refine w_un rfl rfl (lookO_spec rfl) rfl rfl ?_) | ((with_reducible refine w_drw ?_); first | refine rx_q tbOk rfl rfl rfl rfl ?_ | refine rx_e tbOk rfl rfl rfl rfl rfl ?_ | refine rx_yes tbOk rfl rfl rfl rfl rfl rfl ?_ | refine x_no rfl rfl (lookO_spec rfl) rfl rfl rfl ?_ | refine x_un rfl rfl (lookO_spec rfl) rfl rfl ?_) | ((first | refine aw_ways rfl ?_ ?_ | refine r_split rfl rfl rfl ?_ ?_) <;> intro hg_ <;> fail_if_success (exact Bool.noConfusion hg_)) <;> (try simp only [prn] at hg_) <;> (try first | contradiction | (exfalso; omega)))
      all_goals first
        | exact ret_own rfl rfl (by rw [ints_len, (parS_len cs n es s n).2])
        | trace_state
theorem nextM_snoc (M : Nat) (es : List E3) (e : E3) : nextM M (es ++ [e]) = addM (nextM M es) e.1.toNat e.2.1.toNat := by unfold nextM; rw [List.foldl_append]; rfl
theorem tesM_at (M : Nat) (cs : List Int) (es : List E3) {k : Nat} (h : k < es.length) : nextM M (tes cs (es.take (k + 1))) = if tig cs es[k] = true then addM (nextM M (tes cs (es.take k))) es[k].1.toNat es[k].2.1.toNat else nextM M (tes cs (es.take k)) := by
  rw [List.take_succ_eq_append_getElem h]
  unfold tes
  rw [List.filter_append]
  by_cases hc : tig cs es[k] = true
  · rw [if_pos hc]
    simp only [List.filter_cons, hc, if_true, List.filter_nil]
    exact nextM_snoc _ _ _
  · rw [if_neg hc]
    simp [hc]
set_option maxRecDepth 100000 in
set_option maxHeartbeats 16000000 in
theorem f_implCostParents (m : Int) (nil : Bool) (es : List E3) (s : Int) (hl : es.length ≤ 1048576) (hv : (gOk m es && inR 0 (m - 1) s) = true) : FnO Tryd.prog 24 [graphP m nil es, iP s] 3 1 (ints (parF m es s)) := by
  have hlen := edges_len es
  have KG := f_implGraphValid m nil es (by simp only [maxLen]; omega)
  have KH := f_implHasH m nil es s
  have hgk : gOk m es = true := by cases h : gOk m es <;> simp_all
  have hR : inR 0 (m - 1) s = true := by cases h : inR 0 (m - 1) s <;> simp_all
  rw [hgk] at KG
  rw [hasV_inR, hR] at KH
  have hm := gOk_m hgk
  have hI := gOk_edges hgk
  have h40 := gOk_len hgk
  have hww := valid_w hgk
  have hs : 0 ≤ s ∧ s < m := by unfold inR at hR; simp at hR; omega
  obtain ⟨M, rfl⟩ : ∃ M : Nat, m = (M : Int) := ⟨m.toNat, by omega⟩
  have hIn : Inside M es := fun e he => ⟨(hI e he).1, (hI e he).2.1⟩
  have e : parF M es s = (parS (costsN M es s M) M es s M).2 := by unfold parF; rw [hv]; rfl
  have KN := f_lists M nil es hl (by omega) (fun e he => (hI e he).1)
  have KS := f_leastCosts M es s (by omega) h40 hIn (fun e he => (hww e he).1) (fun e he => (hww e he).2) hs
  have hcl := costsN_len M es s M
  have hcb := costsN_bd hIn hww h40 hs M
  obtain ⟨rk0, hIC⟩ := costsN_isC hIn (fun e he => (hww e he).1) hs
  generalize costsN M es s M = cs at *
  have hIt : Inside M (tes cs es) := tes_inside hIn
  have hcs0 : 0 ≤ Go.Proofs.YthjnidcmhegoeaaDoor.val cs s := by rw [hIC.src]; omega
  obtain ⟨hP1, hP2⟩ := parS_isPar hIn (fun e he => (hww e he).1) hs hcs0
  have hH := hopsN_isH hIt hs
  have hPI := parI_isPar (nb := fun v => bitsR ((nextM M (tes cs es)).getD v.toNat 0)) hIt hs (fun v h0 h1 u => nextM_mem hIt v h0 h1 u) hH
  have hEq := hP1.uniq hPI
  rw [e, hEq]
  obtain ⟨hL, hS⟩ := nextM_ok (m := M) (by omega) hIt
  have KT := f_stepsOver M (tes cs es) s false (nextM M (tes cs es)) (by omega) hIt hs hL hS (fun v h0 h1 u => nextM_mem hIt v h0 h1 u)
  have KU := f_unknowns M (by omega)
  have hhl := hopsN_len M (tes cs es) s M
  have hhb : ∀ v : Int, 0 ≤ v → v < (M : Int) → -1 ≤ Go.Proofs.YthjnidcmhegoeaaDoor.val (hopsN M (tes cs es) s M) v ∧ Go.Proofs.YthjnidcmhegoeaaDoor.val (hopsN M (tes cs es) s M) v ≤ M := fun v h0 h1 => by
    have h2 := (parS_ok hIn (fun e he => (hww e he).1) hs hcs0 (M - 1)).1
    have h3 := (Pr.steps (n := M - 1) hIn (fun e he => (hww e he).1) es [] _ _ (fun _ h => h) h2).1.rng v h0 h1
    have h4 : parS cs M es s M = stepPS cs ((M - 1 : Nat) : Int) es (parS cs M es s (M - 1)) := by
      obtain ⟨j, hj⟩ : ∃ j, M = j + 1 := ⟨M - 1, by omega⟩
      have h5 : parS cs M es s (j + 1) = stepPS cs j es (parS cs M es s j) := rfl
      rw [← hj] at h5
      rw [h5, show M - 1 = j by omega]
    have h6 : (stepPS cs ((M - 1 : Nat) : Int) es ((parS cs M es s (M - 1)).1, (parS cs M es s (M - 1)).2)).1 = hopsN M (tes cs es) s M := by rw [← hP2, h4]
    rw [h6] at h3
    omega
  have hci : (ints cs).length = M := by rw [ints_len, hcl]
  have hok : ∀ xs : List E3, (∀ e ∈ xs, e ∈ es) → (nextM M (tes cs xs)).length = M ∧ Sm (nextM M (tes cs xs)) := fun xs h => nextM_ok (by omega) (fun e he => hIn e (h e (mem_tes.1 he).1))
  clear e hv hgk hR hIC hcs0 hP1 hP2 hH hPI hEq hIt
  refine fn_ofO Tryd.func24 (by kernel_rfl) rfl Tryd.ntmps24 rfl rfl ?_
  simp only [argEnv, P0.d, Nat.reduceAdd, List.map_cons, List.map_nil, graphP]
  repeat' (first | (with_reducible first | refine aw_seq ?_ | refine thn_normal ?_ | refine thn_ret ?_ | refine thn_exit ?_ | refine blk_normal ?_ | refine blk_ret ?_ | refine blk_hit ?_ | refine blk_miss rfl ?_ | refine aw_block ?_ | refine aw_ret ?_ | refine aw_skip ?_ | refine aw_exit ?_ | refine w_nil ?_ | refine x_nil (by kernel_rfl) ?_) | refine aw_region ?_ | refine aw_region_draw (by kernel_rfl) ?_ | refine aw_yes rfl ?_ | refine aw_no rfl ?_ | ((with_reducible refine w_seq ?_); first | refine r_q tbOk rfl rfl rfl rfl ?_ | refine r_e tbOk rfl rfl rfl rfl rfl ?_ | refine r_yes tbOk rfl rfl rfl rfl rfl rfl ?_ | refine w_no rfl rfl (lookO_spec rfl) rfl rfl rfl ?_ | refine w_un rfl rfl (lookO_spec rfl) rfl rfl ?_) | ((with_reducible refine w_drw ?_); first | refine rx_q tbOk rfl rfl rfl rfl ?_ | refine rx_e tbOk rfl rfl rfl rfl rfl ?_ | refine rx_yes tbOk rfl rfl rfl rfl rfl rfl ?_ | refine x_no rfl rfl (lookO_spec rfl) rfl rfl rfl ?_ | refine x_un rfl rfl (lookO_spec rfl) rfl rfl ?_) | ((first | refine' w_q rfl rfl ?xa rfl ?_ | refine' v_q rfl rfl ?xa rfl ?_ | refine' w_yes rfl rfl (lookO_spec rfl) rfl ?xa rfl ?_ | refine' v_yes rfl rfl (lookO_spec rfl) rfl ?xa rfl ?_); case xa => first | exact k_call KG rfl ⟨asA_agg (evO_spec rfl) ⟨cAr_r, cAr_r, trivial⟩, trivial⟩ | exact k_call KH rfl ⟨asA_agg (evO_spec rfl) ⟨cAr_r, cAr_r, trivial⟩, asA_r (evO_spec rfl), trivial⟩ | exact k_call KN rfl ⟨asA_agg (evO_spec rfl) ⟨cAr_r, cAr_r, trivial⟩, trivial⟩) | ((first | refine' w_e rfl ?xa ?xb ?xc ?xe ?_ | refine' v_e rfl ?xa ?xb ?xc ?xe ?_); (case xa => first | exact e_callO KS rfl rfl ⟨asA_r (evO_spec rfl), asA_r (evO_spec rfl), trivial⟩ | exact e_make tlOk rfl rfl rfl rfl rfl rfl (c := M) rfl rfl (by omega) (by simp only [maxLen]; omega)); (case xb => rfl); (case xc => rfl); (case xe => rfl); try dsimp only [P0.d, Res.d, List.map_cons, List.map_nil, List.set_cons_zero, List.set_cons_succ, Nat.reduceAdd]) | ((first | refine aw_ways rfl ?_ ?_ | refine r_split rfl rfl rfl ?_ ?_) <;> intro hg_ <;> fail_if_success (exact Bool.noConfusion hg_)) <;> (try simp only [prn] at hg_) <;> (try first | contradiction | (exfalso; omega)))
  obtain ⟨G, hG⟩ : ∃ G : Nat → St, ∀ k, G k = mkS 114 [(33, .one (.r true (int (k : Int)))), (32, .one (.r true (int es.length))), (31, .one (.r false (row nil 3 (edges es)))), (6, .one (.own 101 0 M 1)), (5, .one (.own 100 0 M 1)), (2, .one (.ptr 2 0 0 0)), (1, .one (.r false (int s)))] [(101, .sl 93 1 true ((nextM M (tes cs (es.take k))).map mP)), (100, .sl 3 1 true (ints cs)), (2, .var 48 [.r false (int M), .r false (row nil 3 (edges es))])] := ⟨_, fun _ => rfl⟩
  refine aw_loopI (fun k : Nat => k ≤ es.length) G (fun k => es.length - k) 0 (Nat.zero_le _) (by rw [hG]; (refine weak_ren [(100, 26), (101, 29)] rfl ?_ ?_ <;> repeat' (first | exact trivial | refine subR_cons rfl ?_ ?_ | refine subHR_cons rfl ?_ ?_ | rfl | (refine d_int ?_; (first | rfl | omega | (rw [IntWalk.i64_in _ (by omega)] <;> omega) | (simp; done) | (simp; omega))) | (refine d_bool ?_; (first | (simp_all; done) | (rw [Bool.eq_iff_iff]; simp_all; done) | (rw [Bool.eq_iff_iff]; simp_all; omega) | (rw [Bool.eq_iff_iff]; simp; omega))) | exact d_int (by rw [hlen]) | exact d_own hci | exact ob_sl rfl (by simp [nextM, tes])))) ?_
  intro k hk
  rw [hG]
  by_cases hlt : k < es.length
  · have hix := edges_at hlt
    obtain ⟨⟨g0, g1⟩, ⟨g2, g3⟩, _⟩ := hI es[k] (List.getElem_mem hlt)
    obtain ⟨g4, g5⟩ := hww es[k] (List.getElem_mem hlt)
    have hb1 := hcb es[k].1 g0 g1
    have hF := tesM_at M cs es hlt
    obtain ⟨hML, hSm⟩ := hok (es.take k) (fun e he => List.mem_of_mem_take he)
    have hN : ∀ s' : St, Weak s' (G (k + 1)) → ∃ x', x' ≤ es.length ∧ Weak s' (G x') ∧ es.length - x' < es.length - k := fun s' h => ⟨k + 1, hlt, h, by omega⟩
    rw [hG (k + 1)] at hN
    clear KG KH KN KS KT KU hG hok hhb
    generalize nextM M (tes cs (es.take (k + 1))) = MS' at *
    generalize es[k] = e at *
    generalize nextM M (tes cs (es.take k)) = MS at *
    obtain ⟨e1, e2, e3⟩ := e
    dsimp only at *
    have hw : IntKind.i64.wrap (cs.getD (0 + e1.toNat) 0 + e3) = cs.getD (0 + e1.toNat) 0 + e3 := by rw [val_at]; exact IntWalk.i64_in _ (by omega)
    have hwk : IntKind.i64.wrap ((k : Int) + 1) = ((k + 1 : Nat) : Int) := by rw [IntWalk.i64_in _ (by omega)]; omega
    have KM := f_maskOf e2 (by omega) (by omega)
    have htig : tig cs (e1, e2, e3) = (decide (0 ≤ cs.getD (0 + e1.toNat) 0) && decide (cs.getD (0 + e1.toNat) 0 + e3 = cs.getD (0 + e2.toNat) 0)) := by unfold tig; rw [val_at, val_at]
    rw [htig] at hF
    clear htig
    repeat' (first | (with_reducible first | refine aw_seq ?_ | refine thn_normal ?_ | refine thn_ret ?_ | refine thn_exit ?_ | refine blk_normal ?_ | refine blk_ret ?_ | refine blk_hit ?_ | refine blk_miss rfl ?_ | refine aw_block ?_ | refine aw_ret ?_ | refine aw_skip ?_ | refine aw_exit ?_ | refine w_nil ?_ | refine x_nil (by kernel_rfl) ?_) | refine aw_region ?_ | refine aw_region_draw (by kernel_rfl) ?_ | refine aw_yes rfl ?_ | refine aw_no rfl ?_ | ((with_reducible refine w_seq ?_); first | refine r_q tbOk rfl rfl rfl rfl ?_ | refine r_e tbOk rfl rfl rfl rfl rfl ?_ | refine r_yes tbOk rfl rfl rfl rfl rfl rfl ?_ | refine w_no rfl rfl (lookO_spec rfl) rfl rfl rfl ?_ | refine w_un rfl rfl (lookO_spec rfl) rfl rfl ?_) | ((with_reducible refine w_drw ?_); first | refine rx_q tbOk rfl rfl rfl rfl ?_ | refine rx_e tbOk rfl rfl rfl rfl rfl ?_ | refine rx_yes tbOk rfl rfl rfl rfl rfl rfl ?_ | refine x_no rfl rfl (lookO_spec rfl) rfl rfl rfl ?_ | refine x_un rfl rfl (lookO_spec rfl) rfl rfl ?_) | ((first | refine' w_q rfl rfl ?xa rfl ?_ | refine' v_q rfl rfl ?xa rfl ?_ | refine' w_yes rfl rfl (lookO_spec rfl) rfl ?xa rfl ?_ | refine' v_yes rfl rfl (lookO_spec rfl) rfl ?xa rfl ?_); case xa => first | exact k_index tbOk rfl rfl rfl rfl (by omega) (by exact hix) | exact k_indexO tbOk rfl rfl rfl rfl (by first | exact g0 | exact g2) (by first | exact g1 | exact g3) | exact k_loadI tbOk rfl rfl rfl rfl (by dsimp only; omega) | exact k_loadM tbOk rfl rfl rfl rfl (by dsimp only; omega) | exact k_call KM rfl ⟨asA_r (evO_spec rfl), trivial⟩ | exact k_or rfl rfl rfl (hSm _) (pow_lt32 (by omega))) | ((first | refine' w_e rfl ?xa ?xb ?xc ?xe ?_ | refine' v_e rfl ?xa ?xb ?xc ?xe ?_); (case xa => exact e_storeS tbOk rfl rfl rfl rfl rfl rfl rfl rfl (by rw [List.length_map, hML]; (try dsimp only); omega)); (case xb => rfl); (case xc => rfl); (case xe => rfl); try dsimp only [P0.d, Res.d, List.map_cons, List.map_nil, List.set_cons_zero, List.set_cons_succ, Nat.reduceAdd]) | ((first | refine aw_ways rfl ?_ ?_ | refine r_split rfl rfl rfl ?_ ?_) <;> intro hg_ <;> fail_if_success (exact Bool.noConfusion hg_)) <;> (try simp only [prn] at hg_) <;> (try first | contradiction | (exfalso; omega)))
    all_goals
      first
        | rw [if_pos (by simp only [Bool.and_eq_true, decide_eq_true_eq]; omega)] at hF
        | rw [if_neg (by simp only [Bool.and_eq_true, decide_eq_true_eq]; omega)] at hF
      first
        | (refine hN _ ?_
           (refine weak_ren [] rfl ?_ ?_ <;> repeat' (first | exact trivial | refine subR_cons rfl ?_ ?_ | refine subHR_cons rfl ?_ ?_ | rfl | (refine d_int ?_; (first | rfl | omega | (rw [IntWalk.i64_in _ (by omega)] <;> omega) | (simp; done) | (simp; omega))) | (refine d_bool ?_; (first | (simp_all; done) | (rw [Bool.eq_iff_iff]; simp_all; done) | (rw [Bool.eq_iff_iff]; simp_all; omega) | (rw [Bool.eq_iff_iff]; simp; omega))) | exact d_int hwk | exact ob_sl rfl (by rw [hF, Nat.zero_add]; exact mP_set _ _ _) | exact ob_sl rfl (by rw [hF]))))
        | trace_state
  · obtain rfl : k = es.length := by omega
    rw [List.take_length]
    have hLb0 : ∀ v : Int, 0 ≤ v → v < (M : Int) → ∀ w ∈ bitsR ((nextM M (tes cs es)).getD v.toNat 0), 0 ≤ w ∧ w < (M : Int) := fun v h0 h1 w hw => by
      obtain ⟨e, he, _, rfl⟩ := (nextM_mem (tes_inside hIn) v h0 h1 w).1 hw
      exact (tes_inside hIn e he).2
    clear hG KG KH KN KS hok hcb hI hww hIn hcl
    generalize hopsN M (tes cs es) s M = st at *
    generalize nextM M (tes cs es) = ms at *
    have hml : M = (ms.map mP).length := by rw [List.length_map, hL]
    have hsi : (ints st).length = M := by rw [ints_len, hhl]
    have hr0 : (ints (List.replicate M (-1))).length = M := by rw [ints_len, List.length_replicate]
    have hw1 : IntKind.i64.wrap ((M : Int) - 1) = (M : Int) - 1 - ((0 : Nat) : Int) := by rw [IntWalk.i64_in _ (by omega)]; omega
    repeat' (first | (with_reducible first | refine aw_seq ?_ | refine thn_normal ?_ | refine thn_ret ?_ | refine thn_exit ?_ | refine blk_normal ?_ | refine blk_ret ?_ | refine blk_hit ?_ | refine blk_miss rfl ?_ | refine aw_block ?_ | refine aw_ret ?_ | refine aw_skip ?_ | refine aw_exit ?_ | refine w_nil ?_ | refine x_nil (by kernel_rfl) ?_) | refine aw_region ?_ | refine aw_region_draw (by kernel_rfl) ?_ | refine aw_yes rfl ?_ | refine aw_no rfl ?_ | ((with_reducible refine w_seq ?_); first | refine r_q tbOk rfl rfl rfl rfl ?_ | refine r_e tbOk rfl rfl rfl rfl rfl ?_ | refine r_yes tbOk rfl rfl rfl rfl rfl rfl ?_ | refine w_no rfl rfl (lookO_spec rfl) rfl rfl rfl ?_ | refine w_un rfl rfl (lookO_spec rfl) rfl rfl ?_) | ((with_reducible refine w_drw ?_); first | refine rx_q tbOk rfl rfl rfl rfl ?_ | refine rx_e tbOk rfl rfl rfl rfl rfl ?_ | refine rx_yes tbOk rfl rfl rfl rfl rfl rfl ?_ | refine x_no rfl rfl (lookO_spec rfl) rfl rfl rfl ?_ | refine x_un rfl rfl (lookO_spec rfl) rfl rfl ?_) | ((first | refine' w_e rfl ?xa ?xb ?xc ?xe ?_ | refine' v_e rfl ?xa ?xb ?xc ?xe ?_); (case xa => first | exact e_callO KT rfl rfl ⟨asA_own0H (evO_spec rfl) (lookHO_spec rfl) hml, asA_r (evO_spec rfl), trivial⟩ | exact e_callO KU rfl rfl ⟨asA_r (evO_spec rfl), trivial⟩); (case xb => rfl); (case xc => rfl); (case xe => rfl); try dsimp only [P0.d, Res.d, List.map_cons, List.map_nil, List.set_cons_zero, List.set_cons_succ, Nat.reduceAdd]) | ((first | refine aw_ways rfl ?_ ?_ | refine r_split rfl rfl rfl ?_ ?_) <;> intro hg_ <;> fail_if_success (exact Bool.noConfusion hg_)) <;> (try simp only [prn] at hg_) <;> (try first | contradiction | (exfalso; omega)))
    clear KT KU
    obtain ⟨nb, hnb⟩ : ∃ nb : Int → List Int, nb = fun v => bitsR (ms.getD v.toNat 0) := ⟨_, rfl⟩
    rw [← hnb]
    obtain ⟨G2, hG2⟩ : ∃ G2 : Nat → St, ∀ j, G2 j = mkS 114 [(11, .one (.r true (int ((M : Int) - 1 - (j : Int))))), (10, .one (.own 103 0 M 1)), (9, .one (.own 102 0 M 1)), (6, .one (.own 101 0 M 1))] [(103, .sl 3 1 true (ints (parI M nb st j))), (102, .sl 3 1 true (ints st)), (101, .sl 93 1 true (ms.map mP))] := ⟨_, fun _ => rfl⟩
    refine aw_loopI (fun j : Nat => j ≤ M) G2 (fun j => M - j) 0 (Nat.zero_le _) (by rw [hG2]; (refine weak_ren [(102, 72), (103, 75)] rfl ?_ ?_ <;> repeat' (first | exact trivial | refine subR_cons rfl ?_ ?_ | refine subHR_cons rfl ?_ ?_ | rfl | (refine d_int ?_; (first | rfl | omega | (rw [IntWalk.i64_in _ (by omega)] <;> omega) | (simp; done) | (simp; omega))) | (refine d_bool ?_; (first | (simp_all; done) | (rw [Bool.eq_iff_iff]; simp_all; done) | (rw [Bool.eq_iff_iff]; simp_all; omega) | (rw [Bool.eq_iff_iff]; simp; omega))) | exact d_int hw1 | exact d_own hsi | exact d_own hr0 | exact ob_sl rfl rfl))) ?_
    intro j hj
    rw [hG2]
    have hPl := parI_len M nb st j
    have hPi : (ints (parI M nb st j)).length = M := by rw [ints_len, hPl]
    by_cases hjl : j < M
    · obtain ⟨v, hvd⟩ : ∃ v : Int, v = (M : Int) - 1 - (j : Int) := ⟨_, rfl⟩
      have hv0 : 0 ≤ v ∧ v < (M : Int) := by omega
      have hvb := hhb v hv0.1 hv0.2
      have hPs : parI M nb st (j + 1) = if Go.Proofs.YthjnidcmhegoeaaDoor.val st v = -1 then parI M nb st j else inP st v (nb v) (parI M nb st j) := by rw [hvd]; rfl
      have hvn : IntKind.i64.wrap (v - 1) = (M : Int) - 1 - ((j + 1 : Nat) : Int) := by rw [IntWalk.i64_in _ (by omega)]; omega
      have hN : ∀ s' : St, Weak s' (G2 (j + 1)) → ∃ x', x' ≤ M ∧ Weak s' (G2 x') ∧ M - x' < M - j := fun s' h => ⟨j + 1, hjl, h, by omega⟩
      rw [hG2 (j + 1), hPs] at hN
      rw [← hvd]
      rw [← val_at] at hN hvb
      have KL := f_list (ms.getD (0 + v.toNat) 0) (hS _)
      have hnv : nb v = bitsR (ms.getD (0 + v.toNat) 0) := by rw [hnb, Nat.zero_add]
      have hLb := hLb0 v hv0.1 hv0.2
      rw [← Nat.zero_add v.toNat] at hLb
      have hLl := Nat.le_trans (bitsR_len (ms.getD (0 + v.toNat) 0)) (Nat.le_of_lt (hS (0 + v.toNat)))
      rw [hnv] at hN
      clear hPs hnv hnb hvd
      generalize parI M nb st j = P at *
      generalize decide (ms.getD (0 + v.toNat) 0 = 0) = nb0 at *
      generalize bitsR (ms.getD (0 + v.toNat) 0) = L at *
      by_cases hsv : st.getD (0 + v.toNat) 0 = -1
      · rw [if_pos hsv] at hN
        repeat' (first | (with_reducible first | refine aw_seq ?_ | refine thn_normal ?_ | refine thn_ret ?_ | refine thn_exit ?_ | refine blk_normal ?_ | refine blk_ret ?_ | refine blk_hit ?_ | refine blk_miss rfl ?_ | refine aw_block ?_ | refine aw_ret ?_ | refine aw_skip ?_ | refine aw_exit ?_ | refine w_nil ?_ | refine x_nil (by kernel_rfl) ?_) | refine aw_region ?_ | refine aw_region_draw (by kernel_rfl) ?_ | refine aw_yes rfl ?_ | refine aw_no rfl ?_ | ((with_reducible refine w_seq ?_); first | refine r_q tbOk rfl rfl rfl rfl ?_ | refine r_e tbOk rfl rfl rfl rfl rfl ?_ | refine r_yes tbOk rfl rfl rfl rfl rfl rfl ?_ | refine w_no rfl rfl (lookO_spec rfl) rfl rfl rfl ?_ | refine w_un rfl rfl (lookO_spec rfl) rfl rfl ?_) | ((with_reducible refine w_drw ?_); first | refine rx_q tbOk rfl rfl rfl rfl ?_ | refine rx_e tbOk rfl rfl rfl rfl rfl ?_ | refine rx_yes tbOk rfl rfl rfl rfl rfl rfl ?_ | refine x_no rfl rfl (lookO_spec rfl) rfl rfl rfl ?_ | refine x_un rfl rfl (lookO_spec rfl) rfl rfl ?_) | ((first | refine' w_q rfl rfl ?xa rfl ?_ | refine' v_q rfl rfl ?xa rfl ?_ | refine' w_yes rfl rfl (lookO_spec rfl) rfl ?xa rfl ?_ | refine' v_yes rfl rfl (lookO_spec rfl) rfl ?xa rfl ?_); case xa => first | exact k_indexO tbOk rfl rfl rfl rfl (by omega) (by omega) | exact k_loadI tbOk rfl rfl rfl rfl (by omega)) | ((first | refine aw_ways rfl ?_ ?_ | refine r_split rfl rfl rfl ?_ ?_) <;> intro hg_ <;> fail_if_success (exact Bool.noConfusion hg_)) <;> (try simp only [prn] at hg_) <;> (try first | contradiction | (exfalso; omega)))
        all_goals first
          | (exfalso; exact absurd hsv hg_)
          | (refine hN _ ?_
             (refine weak_ren [] rfl ?_ ?_ <;> repeat' (first | exact trivial | refine subR_cons rfl ?_ ?_ | refine subHR_cons rfl ?_ ?_ | rfl | (refine d_int ?_; (first | rfl | omega | (rw [IntWalk.i64_in _ (by omega)] <;> omega) | (simp; done) | (simp; omega))) | (refine d_bool ?_; (first | (simp_all; done) | (rw [Bool.eq_iff_iff]; simp_all; done) | (rw [Bool.eq_iff_iff]; simp_all; omega) | (rw [Bool.eq_iff_iff]; simp; omega))) | exact d_int hvn)))
          | trace_state
      · rw [if_neg hsv] at hN
        have hLi := ints_len L
        have hwv : IntKind.i64.wrap (st.getD (0 + v.toNat) 0 + 1) = st.getD (0 + v.toNat) 0 + 1 := IntWalk.i64_in _ (by omega)
        repeat' (first | (with_reducible first | refine aw_seq ?_ | refine thn_normal ?_ | refine thn_ret ?_ | refine thn_exit ?_ | refine blk_normal ?_ | refine blk_ret ?_ | refine blk_hit ?_ | refine blk_miss rfl ?_ | refine aw_block ?_ | refine aw_ret ?_ | refine aw_skip ?_ | refine aw_exit ?_ | refine w_nil ?_ | refine x_nil (by kernel_rfl) ?_) | refine aw_region ?_ | refine aw_region_draw (by kernel_rfl) ?_ | refine aw_yes rfl ?_ | refine aw_no rfl ?_ | ((with_reducible refine w_seq ?_); first | refine r_q tbOk rfl rfl rfl rfl ?_ | refine r_e tbOk rfl rfl rfl rfl rfl ?_ | refine r_yes tbOk rfl rfl rfl rfl rfl rfl ?_ | refine w_no rfl rfl (lookO_spec rfl) rfl rfl rfl ?_ | refine w_un rfl rfl (lookO_spec rfl) rfl rfl ?_) | ((with_reducible refine w_drw ?_); first | refine rx_q tbOk rfl rfl rfl rfl ?_ | refine rx_e tbOk rfl rfl rfl rfl rfl ?_ | refine rx_yes tbOk rfl rfl rfl rfl rfl rfl ?_ | refine x_no rfl rfl (lookO_spec rfl) rfl rfl rfl ?_ | refine x_un rfl rfl (lookO_spec rfl) rfl rfl ?_) | ((first | refine' w_q rfl rfl ?xa rfl ?_ | refine' v_q rfl rfl ?xa rfl ?_ | refine' w_yes rfl rfl (lookO_spec rfl) rfl ?xa rfl ?_ | refine' v_yes rfl rfl (lookO_spec rfl) rfl ?xa rfl ?_); case xa => first | exact k_indexO tbOk rfl rfl rfl rfl (by omega) (by omega) | exact k_loadI tbOk rfl rfl rfl rfl (by omega) | exact k_loadM tbOk rfl rfl rfl rfl (by omega) | exact k_call KL rfl ⟨asA_r (evO_spec rfl), trivial⟩) | ((first | refine aw_ways rfl ?_ ?_ | refine r_split rfl rfl rfl ?_ ?_) <;> intro hg_ <;> fail_if_success (exact Bool.noConfusion hg_)) <;> (try simp only [prn] at hg_) <;> (try first | contradiction | (exfalso; omega)))
        all_goals try (exfalso; exact absurd hg_ hsv)
        obtain ⟨G3, hG3⟩ : ∃ G3 : Nat → St, ∀ i, G3 i = mkS 114 [(94, .one (.r true (int (i : Int)))), (93, .one (.r true (int L.length))), (92, .one (.r true (row nb0 1 (ints L)))), (11, .one (.r true (int v))), (10, .one (.own 103 0 M 1)), (9, .one (.own 102 0 M 1)), (6, .one (.own 101 0 M 1))] [(103, .sl 3 1 true (ints (inP st v (L.take i) P))), (102, .sl 3 1 true (ints st)), (101, .sl 93 1 true (ms.map mP))] := ⟨_, fun _ => rfl⟩
        refine aw_loopI (fun i : Nat => i ≤ L.length) G3 (fun i => L.length - i) 0 (Nat.zero_le _) (by rw [hG3]; (refine weak_ren [] rfl ?_ ?_ <;> repeat' (first | exact trivial | refine subR_cons rfl ?_ ?_ | refine subHR_cons rfl ?_ ?_ | rfl | (refine d_int ?_; (first | rfl | omega | (rw [IntWalk.i64_in _ (by omega)] <;> omega) | (simp; done) | (simp; omega))) | (refine d_bool ?_; (first | (simp_all; done) | (rw [Bool.eq_iff_iff]; simp_all; done) | (rw [Bool.eq_iff_iff]; simp_all; omega) | (rw [Bool.eq_iff_iff]; simp; omega))) | exact d_int (by rw [hLi]) | exact ob_sl rfl (by simp [inP])))) ?_
        intro i hi
        rw [hG3]
        by_cases hil : i < L.length
        · have hix := ints_at hil
          obtain ⟨hw0, hwM⟩ := hLb L[i] (List.getElem_mem hil)
          have hnx : inP st v (L.take (i + 1)) P = if Go.Proofs.YthjnidcmhegoeaaDoor.val st L[i] = Go.Proofs.YthjnidcmhegoeaaDoor.val st v + 1 then setv (inP st v (L.take i) P) L[i] v else inP st v (L.take i) P := by rw [List.take_succ_eq_append_getElem hil, inP_snoc]
          rw [← val_at, ← val_at] at hnx
          have hQl := inP_len st v (L.take i) P
          have hwi : IntKind.i64.wrap ((i : Int) + 1) = ((i + 1 : Nat) : Int) := by rw [IntWalk.i64_in _ (by omega)]; omega
          have hN3 : ∀ s' : St, Weak s' (G3 (i + 1)) → ∃ x', x' ≤ L.length ∧ Weak s' (G3 x') ∧ L.length - x' < L.length - i := fun s' h => ⟨i + 1, hil, h, by omega⟩
          rw [hG3 (i + 1)] at hN3
          clear hN hG3 hLb KL
          generalize inP st v (L.take (i + 1)) P = Q' at *
          generalize inP st v (L.take i) P = Q at *
          generalize L[i] = w at *
          have hQi : (ints Q).length = M := by rw [ints_len, hQl, hPl]
          repeat' (first | (with_reducible first | refine aw_seq ?_ | refine thn_normal ?_ | refine thn_ret ?_ | refine thn_exit ?_ | refine blk_normal ?_ | refine blk_ret ?_ | refine blk_hit ?_ | refine blk_miss rfl ?_ | refine aw_block ?_ | refine aw_ret ?_ | refine aw_skip ?_ | refine aw_exit ?_ | refine w_nil ?_ | refine x_nil (by kernel_rfl) ?_) | refine aw_region ?_ | refine aw_region_draw (by kernel_rfl) ?_ | refine aw_yes rfl ?_ | refine aw_no rfl ?_ | ((with_reducible refine w_seq ?_); first | refine r_q tbOk rfl rfl rfl rfl ?_ | refine r_e tbOk rfl rfl rfl rfl rfl ?_ | refine r_yes tbOk rfl rfl rfl rfl rfl rfl ?_ | refine w_no rfl rfl (lookO_spec rfl) rfl rfl rfl ?_ | refine w_un rfl rfl (lookO_spec rfl) rfl rfl ?_) | ((with_reducible refine w_drw ?_); first | refine rx_q tbOk rfl rfl rfl rfl ?_ | refine rx_e tbOk rfl rfl rfl rfl rfl ?_ | refine rx_yes tbOk rfl rfl rfl rfl rfl rfl ?_ | refine x_no rfl rfl (lookO_spec rfl) rfl rfl rfl ?_ | refine x_un rfl rfl (lookO_spec rfl) rfl rfl ?_) | ((first | refine' w_q rfl rfl ?xa rfl ?_ | refine' v_q rfl rfl ?xa rfl ?_ | refine' w_yes rfl rfl (lookO_spec rfl) rfl ?xa rfl ?_ | refine' v_yes rfl rfl (lookO_spec rfl) rfl ?xa rfl ?_); case xa => first | exact k_index tbOk rfl rfl rfl rfl (by omega) (by exact hix) | exact k_indexO tbOk rfl rfl rfl rfl (by omega) (by omega) | exact k_loadI tbOk rfl rfl rfl rfl (by omega)) | ((first | refine' w_e rfl ?xa ?xb ?xc ?xe ?_ | refine' v_e rfl ?xa ?xb ?xc ?xe ?_); (case xa => exact e_storeS tbOk rfl rfl rfl rfl rfl rfl rfl rfl (by rw [hQi]; omega)); (case xb => rfl); (case xc => rfl); (case xe => rfl); try dsimp only [P0.d, Res.d, List.map_cons, List.map_nil, List.set_cons_zero, List.set_cons_succ, Nat.reduceAdd]) | ((first | refine aw_ways rfl ?_ ?_ | refine r_split rfl rfl rfl ?_ ?_) <;> intro hg_ <;> fail_if_success (exact Bool.noConfusion hg_)) <;> (try simp only [prn] at hg_) <;> (try first | contradiction | (exfalso; omega)))
          all_goals
            first
              | rw [if_pos (by omega)] at hnx
              | rw [if_neg (by omega)] at hnx
            first
              | (refine hN3 _ ?_
                 (refine weak_ren [] rfl ?_ ?_ <;> repeat' (first | exact trivial | refine subR_cons rfl ?_ ?_ | refine subHR_cons rfl ?_ ?_ | rfl | (refine d_int ?_; (first | rfl | omega | (rw [IntWalk.i64_in _ (by omega)] <;> omega) | (simp; done) | (simp; omega))) | (refine d_bool ?_; (first | (simp_all; done) | (rw [Bool.eq_iff_iff]; simp_all; done) | (rw [Bool.eq_iff_iff]; simp_all; omega) | (rw [Bool.eq_iff_iff]; simp; omega))) | exact d_int hwi | exact ob_sl rfl (by rw [hnx, Nat.zero_add]; exact ints_set _ _ _) | exact ob_sl rfl (by rw [hnx]))))
              | trace_state
        · obtain rfl : i = L.length := by omega
          rw [List.take_length]
          repeat' (first | (with_reducible first | refine aw_seq ?_ | refine thn_normal ?_ | refine thn_ret ?_ | refine thn_exit ?_ | refine blk_normal ?_ | refine blk_ret ?_ | refine blk_hit ?_ | refine blk_miss rfl ?_ | refine aw_block ?_ | refine aw_ret ?_ | refine aw_skip ?_ | refine aw_exit ?_ | refine w_nil ?_ | refine x_nil (by kernel_rfl) ?_) | refine aw_region ?_ | refine aw_region_draw (by kernel_rfl) ?_ | refine aw_yes rfl ?_ | refine aw_no rfl ?_ | ((with_reducible refine w_seq ?_); first | refine r_q tbOk rfl rfl rfl rfl ?_ | refine r_e tbOk rfl rfl rfl rfl rfl ?_ | refine r_yes tbOk rfl rfl rfl rfl rfl rfl ?_ | refine w_no rfl rfl (lookO_spec rfl) rfl rfl rfl ?_ | refine w_un rfl rfl (lookO_spec rfl) rfl rfl ?_) | ((with_reducible refine w_drw ?_); first | refine rx_q tbOk rfl rfl rfl rfl ?_ | refine rx_e tbOk rfl rfl rfl rfl rfl ?_ | refine rx_yes tbOk rfl rfl rfl rfl rfl rfl ?_ | refine x_no rfl rfl (lookO_spec rfl) rfl rfl rfl ?_ | refine x_un rfl rfl (lookO_spec rfl) rfl rfl ?_) | ((first | refine aw_ways rfl ?_ ?_ | refine r_split rfl rfl rfl ?_ ?_) <;> intro hg_ <;> fail_if_success (exact Bool.noConfusion hg_)) <;> (try simp only [prn] at hg_) <;> (try first | contradiction | (exfalso; omega)))
          all_goals first
            | (refine hN _ ?_
               (refine weak_ren [] rfl ?_ ?_ <;> repeat' (first | exact trivial | refine subR_cons rfl ?_ ?_ | refine subHR_cons rfl ?_ ?_ | rfl | (refine d_int ?_; (first | rfl | omega | (rw [IntWalk.i64_in _ (by omega)] <;> omega) | (simp; done) | (simp; omega))) | (refine d_bool ?_; (first | (simp_all; done) | (rw [Bool.eq_iff_iff]; simp_all; done) | (rw [Bool.eq_iff_iff]; simp_all; omega) | (rw [Bool.eq_iff_iff]; simp; omega))) | exact d_int hvn)))
            | trace_state
    · obtain rfl : j = M := by omega
      repeat' (first | (with_reducible first | refine aw_seq ?_ | refine thn_normal ?_ | refine thn_ret ?_ | refine thn_exit ?_ | refine blk_normal ?_ | refine blk_ret ?_ | refine blk_hit ?_ | refine blk_miss rfl ?_ | refine aw_block ?_ | refine aw_ret ?_ | refine aw_skip ?_ | refine aw_exit ?_ | refine w_nil ?_ | refine x_nil (by kernel_rfl) ?_) | refine aw_region ?_ | refine aw_region_draw (by kernel_rfl) ?_ | refine aw_yes rfl ?_ | refine aw_no rfl ?_ | ((with_reducible refine w_seq ?_); first | refine r_q tbOk rfl rfl rfl rfl ?_ | refine r_e tbOk rfl rfl rfl rfl rfl ?_ | refine r_yes tbOk rfl rfl rfl rfl rfl rfl ?_ | refine w_no rfl rfl (lookO_spec rfl) rfl rfl rfl ?_ | refine w_un rfl rfl (lookO_spec rfl) rfl rfl ?_) | ((with_reducible refine w_drw ?_); first | refine rx_q tbOk rfl rfl rfl rfl ?_ | refine rx_e tbOk rfl rfl rfl rfl rfl ?_ | refine rx_yes tbOk rfl rfl rfl rfl rfl rfl ?_ | refine x_no rfl rfl (lookO_spec rfl) rfl rfl rfl ?_ | refine x_un rfl rfl (lookO_spec rfl) rfl rfl ?_) | ((first | refine aw_ways rfl ?_ ?_ | refine r_split rfl rfl rfl ?_ ?_) <;> intro hg_ <;> fail_if_success (exact Bool.noConfusion hg_)) <;> (try simp only [prn] at hg_) <;> (try first | contradiction | (exfalso; omega)))
      all_goals first
        | (exfalso; omega)
        | exact ret_own rfl rfl hPi.symm
        | trace_state
set_option maxRecDepth 100000 in
set_option maxHeartbeats 4000000 in
theorem f_implCostParNo (m : Int) (nil : Bool) (es : List E3) (s : Int) (hl : es.length ≤ 1048576) (hv : (gOk m es && inR 0 (m - 1) s) = false) : Fn Tryd.prog 24 [graphP m nil es, iP s] (.v (.one (row true 1 []))) := by
  have KG := f_implGraphValid m nil es (by simp only [maxLen]; omega)
  have KH := f_implHasH m nil es s
  rw [hasV_inR] at KH
  cases hgk : gOk m es
  · rw [hgk] at KG
    refine fn_of (l := [.tmp 4]) Tryd.func24 (by kernel_rfl) rfl Tryd.ntmps24 rfl rfl ?_; simp only [argEnv, P0.d, Nat.reduceAdd, graphP, List.map_cons, List.map_nil]
    repeat' (first | (with_reducible first | refine aw_seq ?_ | refine thn_normal ?_ | refine thn_ret ?_ | refine thn_exit ?_ | refine blk_normal ?_ | refine blk_ret ?_ | refine blk_hit ?_ | refine blk_miss rfl ?_ | refine aw_block ?_ | refine aw_ret ?_ | refine aw_skip ?_ | refine aw_exit ?_ | refine w_nil ?_ | refine x_nil (by kernel_rfl) ?_) | refine aw_region ?_ | refine aw_region_draw (by kernel_rfl) ?_ | refine aw_yes rfl ?_ | refine aw_no rfl ?_ | ((with_reducible refine w_seq ?_); first | refine r_q tbOk rfl rfl rfl rfl ?_ | refine r_e tbOk rfl rfl rfl rfl rfl ?_ | refine r_yes tbOk rfl rfl rfl rfl rfl rfl ?_ | refine w_no rfl rfl (lookO_spec rfl) rfl rfl rfl ?_ | refine w_un rfl rfl (lookO_spec rfl) rfl rfl ?_) | ((with_reducible refine w_drw ?_); first | refine rx_q tbOk rfl rfl rfl rfl ?_ | refine rx_e tbOk rfl rfl rfl rfl rfl ?_ | refine rx_yes tbOk rfl rfl rfl rfl rfl rfl ?_ | refine x_no rfl rfl (lookO_spec rfl) rfl rfl rfl ?_ | refine x_un rfl rfl (lookO_spec rfl) rfl rfl ?_) | ((first | refine' w_q rfl rfl ?xa rfl ?_ | refine' v_q rfl rfl ?xa rfl ?_ | refine' w_yes rfl rfl (lookO_spec rfl) rfl ?xa rfl ?_ | refine' v_yes rfl rfl (lookO_spec rfl) rfl ?xa rfl ?_); case xa => exact k_call KG rfl ⟨asA_agg (evO_spec rfl) ⟨cAr_r, cAr_r, trivial⟩, trivial⟩) | ((first | refine aw_ways rfl ?_ ?_ | refine r_split rfl rfl rfl ?_ ?_) <;> intro hg_ <;> fail_if_success (exact Bool.noConfusion hg_)) <;> (try simp only [prn] at hg_) <;> (try first | contradiction | (exfalso; omega)))
    all_goals first
      | exact ret_tmp rfl (dres_one cres_nil)
      | trace_state
  · rw [hgk] at KG hv
    rw [Bool.true_and] at hv
    rw [hv] at KH
    refine fn_of (l := [.tmp 4]) Tryd.func24 (by kernel_rfl) rfl Tryd.ntmps24 rfl rfl ?_; simp only [argEnv, P0.d, Nat.reduceAdd, graphP, List.map_cons, List.map_nil]
    repeat' (first | (with_reducible first | refine aw_seq ?_ | refine thn_normal ?_ | refine thn_ret ?_ | refine thn_exit ?_ | refine blk_normal ?_ | refine blk_ret ?_ | refine blk_hit ?_ | refine blk_miss rfl ?_ | refine aw_block ?_ | refine aw_ret ?_ | refine aw_skip ?_ | refine aw_exit ?_ | refine w_nil ?_ | refine x_nil (by kernel_rfl) ?_) | refine aw_region ?_ | refine aw_region_draw (by kernel_rfl) ?_ | refine aw_yes rfl ?_ | refine aw_no rfl ?_ | ((with_reducible refine w_seq ?_); first | refine r_q tbOk rfl rfl rfl rfl ?_ | refine r_e tbOk rfl rfl rfl rfl rfl ?_ | refine r_yes tbOk rfl rfl rfl rfl rfl rfl ?_ | refine w_no rfl rfl (lookO_spec rfl) rfl rfl rfl ?_ | refine w_un rfl rfl (lookO_spec rfl) rfl rfl ?_) | ((with_reducible refine w_drw ?_); first | refine rx_q tbOk rfl rfl rfl rfl ?_ | refine rx_e tbOk rfl rfl rfl rfl rfl ?_ | refine rx_yes tbOk rfl rfl rfl rfl rfl rfl ?_ | refine x_no rfl rfl (lookO_spec rfl) rfl rfl rfl ?_ | refine x_un rfl rfl (lookO_spec rfl) rfl rfl ?_) | ((first | refine' w_q rfl rfl ?xa rfl ?_ | refine' v_q rfl rfl ?xa rfl ?_ | refine' w_yes rfl rfl (lookO_spec rfl) rfl ?xa rfl ?_ | refine' v_yes rfl rfl (lookO_spec rfl) rfl ?xa rfl ?_); case xa => first | exact k_call KG rfl ⟨asA_agg (evO_spec rfl) ⟨cAr_r, cAr_r, trivial⟩, trivial⟩ | exact k_call KH rfl ⟨asA_agg (evO_spec rfl) ⟨cAr_r, cAr_r, trivial⟩, asA_r (evO_spec rfl), trivial⟩) | ((first | refine aw_ways rfl ?_ ?_ | refine r_split rfl rfl rfl ?_ ?_) <;> intro hg_ <;> fail_if_success (exact Bool.noConfusion hg_)) <;> (try simp only [prn] at hg_) <;> (try first | contradiction | (exfalso; omega)))
    all_goals first
      | exact ret_tmp rfl (dres_one cres_nil)
      | trace_state
end Go.Proofs.YthjnidcmhegoeaaDoor.Abs
