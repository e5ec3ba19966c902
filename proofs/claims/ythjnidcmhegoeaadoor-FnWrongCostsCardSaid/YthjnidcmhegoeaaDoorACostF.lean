/- Costs by states: CostsFrom of both texts. No statement of the seat is proved here. -/
import Derived.Test.YthjnidcmhegoeaaDoorGAdd
import Derived.Test.YthjnidcmhegoeaaDoorTy
import Derived.Lib.Hide
import Derived.Test.YthjnidcmhegoeaaDoorALeast
set_option linter.unusedSimpArgs false
set_option linter.unusedVariables false
namespace Go.Proofs.YthjnidcmhegoeaaDoor.Abs
open Go.RowKit
open R (val row ref)

/-- What CostsFrom gives. -/
def costsF (m : Int) (es : List E3) (s : Int) : List Int := if gOk m es && inR 0 (m - 1) s then costsN m.toNat es s m.toNat else []
theorem rel_at (xs : List Int) (es : List E3) {k : Nat} (h : k < es.length) : relS (es.take (k + 1)) xs = relC (relS (es.take k) xs) es[k] := by
  rw [List.take_succ_eq_append_getElem h, relS_snoc]
theorem relC_bd {m : Nat} {es : List E3} {ys : List Int} (hI : Inside m es) (hw : ∀ e ∈ es, 0 ≤ e.2.2 ∧ e.2.2 ≤ 20) (hl : ys.length = m) {B : Int} (h : ∀ v : Int, 0 ≤ v → v < (m : Int) → -1 ≤ Go.Proofs.YthjnidcmhegoeaaDoor.val ys v ∧ Go.Proofs.YthjnidcmhegoeaaDoor.val ys v ≤ B) {e : E3} (he : e ∈ es) : ∀ v : Int, 0 ≤ v → v < (m : Int) → -1 ≤ Go.Proofs.YthjnidcmhegoeaaDoor.val (relC ys e) v ∧ Go.Proofs.YthjnidcmhegoeaaDoor.val (relC ys e) v ≤ B + 20 := fun v h0 h1 => by
  rw [relC_val hI hl he v h0]
  have h2 := h e.1 (hI e he).1.1 (hI e he).1.2
  have h3 := h v h0 h1
  have h4 := hw e he
  split <;> omega
theorem relS_bd {m : Nat} {es : List E3} (hI : Inside m es) (hw : ∀ e ∈ es, 0 ≤ e.2.2 ∧ e.2.2 ≤ 20) : ∀ (fs : List E3), (∀ e ∈ fs, e ∈ es) → ∀ (ys : List Int) (B : Int), ys.length = m → (∀ v : Int, 0 ≤ v → v < (m : Int) → -1 ≤ Go.Proofs.YthjnidcmhegoeaaDoor.val ys v ∧ Go.Proofs.YthjnidcmhegoeaaDoor.val ys v ≤ B) → ∀ v : Int, 0 ≤ v → v < (m : Int) → -1 ≤ Go.Proofs.YthjnidcmhegoeaaDoor.val (relS fs ys) v ∧ Go.Proofs.YthjnidcmhegoeaaDoor.val (relS fs ys) v ≤ B + 20 * fs.length
  | [], _, ys, B, _, h, v, h0, h1 => by have := h v h0 h1; simp [relS]; omega
  | e :: fs, hf, ys, B, hl, h, v, h0, h1 => by
    have := relS_bd hI hw fs (fun e he => hf e (List.mem_cons_of_mem _ he)) _ (B + 20) (by rw [relC_len]; exact hl) (relC_bd hI hw hl h (hf e List.mem_cons_self)) v h0 h1
    have hs : relS (e :: fs) ys = relS fs (relC ys e) := by unfold relS; rw [List.foldl_cons]
    rw [hs, List.length_cons]
    omega
theorem costsN_bd {m : Nat} {es : List E3} {s : Int} (hI : Inside m es) (hw : ∀ e ∈ es, 0 ≤ e.2.2 ∧ e.2.2 ≤ 20) (hl : es.length ≤ 40) (hs : 0 ≤ s ∧ s < (m : Int)) : ∀ (n : Nat) (v : Int), 0 ≤ v → v < (m : Int) → -1 ≤ Go.Proofs.YthjnidcmhegoeaaDoor.val (costsN m es s n) v ∧ Go.Proofs.YthjnidcmhegoeaaDoor.val (costsN m es s n) v ≤ 800 * n
  | 0, v, h0, h1 => by rw [costsN, hops0_val hs v h0 h1]; split <;> omega
  | n + 1, v, h0, h1 => by
    have := relS_bd hI hw es (fun _ h => h) _ (800 * (n : Int)) (costsN_len m es s n) (costsN_bd hI hw hl hs n) v h0 h1
    rw [costsN]
    omega
theorem valid_w {m : Int} {es : List E3} (hg : gOk m es = true) : ∀ e ∈ es, 0 ≤ e.2.2 ∧ e.2.2 ≤ 20 := fun e he => (gOk_edges hg e he).2.2.2
set_option maxRecDepth 100000 in
set_option maxHeartbeats 8000000 in
theorem f_specCostsFrom (m : Int) (nil : Bool) (es : List E3) (s : Int) (hl : es.length ≤ 1048576) : FnO Tryd.prog 35 [graphP m nil es, iP s] 3 1 (ints (costsF m es s)) := by
  have KG := f_specGraphValid m nil es (by simp only [maxLen]; omega)
  have hlen := edges_len es
  cases hgk : gOk m es
  · rw [hgk] at KG
    have e : costsF m es s = [] := by unfold costsF; rw [hgk]; rfl
    rw [e]
    refine fn_ofO Tryd.func35 (by kernel_rfl) rfl Tryd.ntmps35 rfl rfl ?_
    simp only [argEnv, P0.d, Nat.reduceAdd, List.map_cons, List.map_nil, graphP]
    repeat' (first | (with_reducible first | refine aw_seq ?_ | refine thn_normal ?_ | refine thn_ret ?_ | refine thn_exit ?_ | refine blk_normal ?_ | refine blk_ret ?_ | refine blk_hit ?_ | refine blk_miss rfl ?_ | refine aw_block ?_ | refine aw_ret ?_ | refine aw_skip ?_ | refine aw_exit ?_ | refine w_nil ?_ | refine x_nil (by kernel_rfl) ?_) | refine aw_region ?_ | refine aw_region_draw (by kernel_rfl) ?_ | refine aw_yes rfl ?_ | refine aw_no rfl ?_ | ((with_reducible refine w_seq ?_); first | refine r_q tbOk rfl rfl rfl rfl ?_ | refine r_e tbOk rfl rfl rfl rfl rfl ?_ | refine r_yes tbOk rfl rfl rfl rfl rfl rfl ?_ | refine w_no rfl rfl (lookO_spec rfl) rfl rfl rfl ?_ | refine w_un rfl rfl (lookO_spec rfl) rfl rfl ?_) | ((with_reducible refine w_drw ?_); first | refine rx_q tbOk rfl rfl rfl rfl ?_ | refine rx_e tbOk rfl rfl rfl rfl rfl ?_ | refine rx_yes tbOk rfl rfl rfl rfl rfl rfl ?_ | refine x_no rfl rfl (lookO_spec rfl) rfl rfl rfl ?_ | refine x_un rfl rfl (lookO_spec rfl) rfl rfl ?_) | ((first | refine' w_q rfl rfl ?xa rfl ?_ | refine' v_q rfl rfl ?xa rfl ?_ | refine' w_yes rfl rfl (lookO_spec rfl) rfl ?xa rfl ?_ | refine' v_yes rfl rfl (lookO_spec rfl) rfl ?xa rfl ?_); case xa => exact k_call KG rfl ⟨asA_agg (evO_spec rfl) ⟨cAr_r, cAr_r, trivial⟩, trivial⟩) | ((first | refine' w_e rfl ?xa ?xb ?xc ?xe ?_ | refine' v_e rfl ?xa ?xb ?xc ?xe ?_); (case xa => exact e_build [] tlOk rfl rfl rfl rfl rfl rfl (by simp [AllN]) (by simp)); (case xb => rfl); (case xc => rfl); (case xe => rfl); try dsimp only [P0.d, Res.d, List.map_cons, List.map_nil, List.set_cons_zero, List.set_cons_succ, Nat.reduceAdd]) | ((first | refine aw_ways rfl ?_ ?_ | refine r_split rfl rfl rfl ?_ ?_) <;> intro hg_ <;> fail_if_success (exact Bool.noConfusion hg_)) <;> (try simp only [prn] at hg_) <;> (try first | contradiction | (exfalso; omega)))
    all_goals first
      | exact ret_own rfl rfl rfl
      | trace_state
  · rw [hgk] at KG
    have hm := gOk_m hgk
    have hI := gOk_edges hgk
    have hww := valid_w hgk
    have h40 := gOk_len hgk
    have hw1 : IntKind.i64.wrap (m - 1) = m - 1 := IntWalk.i64_in _ (by omega)
    have KR := f_l1In s 0 (IntKind.i64.wrap (m - 1))
    rw [show inR 0 (IntKind.i64.wrap (m - 1)) s = inR 0 (m - 1) s by rw [hw1]] at KR
    cases hR : inR 0 (m - 1) s
    · rw [hR] at KR
      have e : costsF m es s = [] := by unfold costsF; rw [hgk, hR]; rfl
      rw [e]
      refine fn_ofO Tryd.func35 (by kernel_rfl) rfl Tryd.ntmps35 rfl rfl ?_
      simp only [argEnv, P0.d, Nat.reduceAdd, List.map_cons, List.map_nil, graphP]
      repeat' (first | (with_reducible first | refine aw_seq ?_ | refine thn_normal ?_ | refine thn_ret ?_ | refine thn_exit ?_ | refine blk_normal ?_ | refine blk_ret ?_ | refine blk_hit ?_ | refine blk_miss rfl ?_ | refine aw_block ?_ | refine aw_ret ?_ | refine aw_skip ?_ | refine aw_exit ?_ | refine w_nil ?_ | refine x_nil (by kernel_rfl) ?_) | refine aw_region ?_ | refine aw_region_draw (by kernel_rfl) ?_ | refine aw_yes rfl ?_ | refine aw_no rfl ?_ | ((with_reducible refine w_seq ?_); first | refine r_q tbOk rfl rfl rfl rfl ?_ | refine r_e tbOk rfl rfl rfl rfl rfl ?_ | refine r_yes tbOk rfl rfl rfl rfl rfl rfl ?_ | refine w_no rfl rfl (lookO_spec rfl) rfl rfl rfl ?_ | refine w_un rfl rfl (lookO_spec rfl) rfl rfl ?_) | ((with_reducible refine w_drw ?_); first | refine rx_q tbOk rfl rfl rfl rfl ?_ | refine rx_e tbOk rfl rfl rfl rfl rfl ?_ | refine rx_yes tbOk rfl rfl rfl rfl rfl rfl ?_ | refine x_no rfl rfl (lookO_spec rfl) rfl rfl rfl ?_ | refine x_un rfl rfl (lookO_spec rfl) rfl rfl ?_) | ((first | refine' w_q rfl rfl ?xa rfl ?_ | refine' v_q rfl rfl ?xa rfl ?_ | refine' w_yes rfl rfl (lookO_spec rfl) rfl ?xa rfl ?_ | refine' v_yes rfl rfl (lookO_spec rfl) rfl ?xa rfl ?_); case xa => first | exact k_call KG rfl ⟨asA_agg (evO_spec rfl) ⟨cAr_r, cAr_r, trivial⟩, trivial⟩ | exact k_call KR rfl ⟨asA_r (evO_spec rfl), asA_r (evO_spec rfl), asA_r (evO_spec rfl), trivial⟩) | ((first | refine' w_e rfl ?xa ?xb ?xc ?xe ?_ | refine' v_e rfl ?xa ?xb ?xc ?xe ?_); (case xa => exact e_build [] tlOk rfl rfl rfl rfl rfl rfl (by simp [AllN]) (by simp)); (case xb => rfl); (case xc => rfl); (case xe => rfl); try dsimp only [P0.d, Res.d, List.map_cons, List.map_nil, List.set_cons_zero, List.set_cons_succ, Nat.reduceAdd]) | ((first | refine aw_ways rfl ?_ ?_ | refine r_split rfl rfl rfl ?_ ?_) <;> intro hg_ <;> fail_if_success (exact Bool.noConfusion hg_)) <;> (try simp only [prn] at hg_) <;> (try first | contradiction | (exfalso; omega)))
      all_goals first
        | exact ret_own rfl rfl rfl
        | trace_state
    · rw [hR] at KR
      have hs : 0 ≤ s ∧ s < m := by unfold inR at hR; simp at hR; omega
      obtain ⟨M, rfl⟩ : ∃ M : Nat, m = (M : Int) := ⟨m.toNat, by omega⟩
      have hIn : Inside M es := fun e he => ⟨(hI e he).1, (hI e he).2.1⟩
      have e : costsF M es s = costsN M es s M := by unfold costsF; rw [hgk, hR]; rfl
      have KF := f_l8Fill M (-1) (by omega)
      have hr0 : (ints (List.replicate M (-1))).length = M := by rw [ints_len, List.length_replicate]
      have hst : (ints (List.replicate M (-1))).set (0 + s.toNat) (iP 0) = ints (hops0 M s) := by rw [ints_set, Nat.zero_add]; rfl
      rw [e]
      refine fn_ofO Tryd.func35 (by kernel_rfl) rfl Tryd.ntmps35 rfl rfl ?_
      simp only [argEnv, P0.d, Nat.reduceAdd, List.map_cons, List.map_nil, graphP]
      clear e hgk hR hw1
      repeat' (first | (with_reducible first | refine aw_seq ?_ | refine thn_normal ?_ | refine thn_ret ?_ | refine thn_exit ?_ | refine blk_normal ?_ | refine blk_ret ?_ | refine blk_hit ?_ | refine blk_miss rfl ?_ | refine aw_block ?_ | refine aw_ret ?_ | refine aw_skip ?_ | refine aw_exit ?_ | refine w_nil ?_ | refine x_nil (by kernel_rfl) ?_) | refine aw_region ?_ | refine aw_region_draw (by kernel_rfl) ?_ | refine aw_yes rfl ?_ | refine aw_no rfl ?_ | ((with_reducible refine w_seq ?_); first | refine r_q tbOk rfl rfl rfl rfl ?_ | refine r_e tbOk rfl rfl rfl rfl rfl ?_ | refine r_yes tbOk rfl rfl rfl rfl rfl rfl ?_ | refine w_no rfl rfl (lookO_spec rfl) rfl rfl rfl ?_ | refine w_un rfl rfl (lookO_spec rfl) rfl rfl ?_) | ((with_reducible refine w_drw ?_); first | refine rx_q tbOk rfl rfl rfl rfl ?_ | refine rx_e tbOk rfl rfl rfl rfl rfl ?_ | refine rx_yes tbOk rfl rfl rfl rfl rfl rfl ?_ | refine x_no rfl rfl (lookO_spec rfl) rfl rfl rfl ?_ | refine x_un rfl rfl (lookO_spec rfl) rfl rfl ?_) | ((first | refine' w_q rfl rfl ?xa rfl ?_ | refine' v_q rfl rfl ?xa rfl ?_ | refine' w_yes rfl rfl (lookO_spec rfl) rfl ?xa rfl ?_ | refine' v_yes rfl rfl (lookO_spec rfl) rfl ?xa rfl ?_); case xa => first | exact k_call KG rfl ⟨asA_agg (evO_spec rfl) ⟨cAr_r, cAr_r, trivial⟩, trivial⟩ | exact k_call KR rfl ⟨asA_r (evO_spec rfl), asA_r (evO_spec rfl), asA_r (evO_spec rfl), trivial⟩ | exact k_indexO tbOk rfl rfl rfl rfl (by omega) (by rw [hr0]; omega)) | ((first | refine' w_e rfl ?xa ?xb ?xc ?xe ?_ | refine' v_e rfl ?xa ?xb ?xc ?xe ?_); (case xa => first | exact e_callO KF rfl rfl ⟨asA_r (evO_spec rfl), asA_r (evO_spec rfl), trivial⟩ | exact e_storeS tbOk rfl rfl rfl rfl rfl rfl rfl rfl (by rw [hr0]; omega)); (case xb => rfl); (case xc => rfl); (case xe => rfl); try dsimp only [P0.d, Res.d, List.map_cons, List.map_nil, List.set_cons_zero, List.set_cons_succ, Nat.reduceAdd]) | ((first | refine aw_ways rfl ?_ ?_ | refine r_split rfl rfl rfl ?_ ?_) <;> intro hg_ <;> fail_if_success (exact Bool.noConfusion hg_)) <;> (try simp only [prn] at hg_) <;> (try first | contradiction | (exfalso; omega)))
      refine aw_loopI (fun n : Nat => n ≤ M) (fun n => mkS 83 [(6, .one (.r true (int n))), (5, .one (.own 100 0 M 1)), (2, .one (.ptr 2 0 0 0))] [(100, .sl 3 1 true (ints (costsN M es s n))), (2, .var 48 [.r false (int M), .r false (row nil 3 (edges es))])]) (fun n => M - n) 0 (Nat.zero_le _) (by (refine weak_ren [(100, 24)] rfl ?_ ?_ <;> repeat' (first | exact trivial | refine subR_cons rfl ?_ ?_ | refine subHR_cons rfl ?_ ?_ | rfl | (refine d_int ?_; (first | rfl | omega | (rw [IntWalk.i64_in _ (by omega)] <;> omega) | (simp; done) | (simp; omega))) | (refine d_bool ?_; (first | (simp_all; done) | (rw [Bool.eq_iff_iff]; simp_all; done) | (rw [Bool.eq_iff_iff]; simp_all; omega) | (rw [Bool.eq_iff_iff]; simp; omega))) | exact d_own hr0 | exact ob_sl rfl hst))) ?_
      intro n hn
      clear KG KR KF hst hr0
      by_cases hlt : n < M
      · repeat' (first | (with_reducible first | refine aw_seq ?_ | refine thn_normal ?_ | refine thn_ret ?_ | refine thn_exit ?_ | refine blk_normal ?_ | refine blk_ret ?_ | refine blk_hit ?_ | refine blk_miss rfl ?_ | refine aw_block ?_ | refine aw_ret ?_ | refine aw_skip ?_ | refine aw_exit ?_ | refine w_nil ?_ | refine x_nil (by kernel_rfl) ?_) | refine aw_region ?_ | refine aw_region_draw (by kernel_rfl) ?_ | refine aw_yes rfl ?_ | refine aw_no rfl ?_ | ((with_reducible refine w_seq ?_); first | refine r_q tbOk rfl rfl rfl rfl ?_ | refine r_e tbOk rfl rfl rfl rfl rfl ?_ | refine r_yes tbOk rfl rfl rfl rfl rfl rfl ?_ | refine w_no rfl rfl (lookO_spec rfl) rfl rfl rfl ?_ | refine w_un rfl rfl (lookO_spec rfl) rfl rfl ?_) | ((with_reducible refine w_drw ?_); first | refine rx_q tbOk rfl rfl rfl rfl ?_ | refine rx_e tbOk rfl rfl rfl rfl rfl ?_ | refine rx_yes tbOk rfl rfl rfl rfl rfl rfl ?_ | refine x_no rfl rfl (lookO_spec rfl) rfl rfl rfl ?_ | refine x_un rfl rfl (lookO_spec rfl) rfl rfl ?_) | ((first | refine aw_ways rfl ?_ ?_ | refine r_split rfl rfl rfl ?_ ?_) <;> intro hg_ <;> fail_if_success (exact Bool.noConfusion hg_)) <;> (try simp only [prn] at hg_) <;> (try first | contradiction | (exfalso; omega)))
        have hL0 := costsN_len M es s n
        have hB0 := costsN_bd hIn hww h40 hs n
        have hnx : costsN M es s (n + 1) = relS es (costsN M es s n) := rfl
        have hfin : ∀ s' : St, Weak s' (mkS 83 [(6, .one (.r true (int ((n + 1 : Nat) : Int)))), (5, .one (.own 100 0 M 1)), (2, .one (.ptr 2 0 0 0))] [(100, .sl 3 1 true (ints (costsN M es s (n + 1)))), (2, .var 48 [.r false (int M), .r false (row nil 3 (edges es))])]) → ∃ x', x' ≤ M ∧ Weak s' (mkS 83 [(6, .one (.r true (int x'))), (5, .one (.own 100 0 M 1)), (2, .one (.ptr 2 0 0 0))] [(100, .sl 3 1 true (ints (costsN M es s x'))), (2, .var 48 [.r false (int M), .r false (row nil 3 (edges es))])]) ∧ M - x' < M - n := fun s' h => ⟨n + 1, by omega, h, by omega⟩
        rw [hnx] at hfin
        generalize costsN M es s n = xs at *
        refine aw_loopI (fun k : Nat => k ≤ es.length) (fun k => mkS 83 [(7, .one (.r true (int k))), (6, .one (.r true (int n))), (5, .one (.own 100 0 M 1)), (2, .one (.ptr 2 0 0 0))] [(100, .sl 3 1 true (ints (relS (es.take k) xs))), (2, .var 48 [.r false (int M), .r false (row nil 3 (edges es))])]) (fun k => es.length - k) 0 (Nat.zero_le _) (by (refine weak_ren [(100, 100)] rfl ?_ ?_ <;> repeat' (first | exact trivial | refine subR_cons rfl ?_ ?_ | refine subHR_cons rfl ?_ ?_ | rfl | (refine d_int ?_; (first | rfl | omega | (rw [IntWalk.i64_in _ (by omega)] <;> omega) | (simp; done) | (simp; omega))) | (refine d_bool ?_; (first | (simp_all; done) | (rw [Bool.eq_iff_iff]; simp_all; done) | (rw [Bool.eq_iff_iff]; simp_all; omega) | (rw [Bool.eq_iff_iff]; simp; omega)))))) ?_
        intro k hk
        by_cases hltk : k < es.length
        · have hix := edges_at hltk
          obtain ⟨⟨g0, g1⟩, ⟨g2, g3⟩, _⟩ := hI es[k] (List.getElem_mem hltk)
          obtain ⟨g4, g5⟩ := hww es[k] (List.getElem_mem hltk)
          have hF := rel_at xs es hltk
          have hXL : (relS (es.take k) xs).length = M := by rw [relS_len, hL0]
          have hXI : (ints (relS (es.take k) xs)).length = M := by rw [ints_len, hXL]
          have hXB := relS_bd hIn hww (es.take k) (fun e he => List.mem_of_mem_take he) xs (800 * (n : Int)) hL0 hB0
          have hkl : (es.take k).length ≤ 40 := by rw [List.length_take]; omega
          have hb1 := hXB es[k].1 g0 g1
          have hb2 := hXB es[k].2.1 g2 g3
          clear hnx hfin hL0 hXB hB0
          generalize es[k] = e at *
          generalize relS (es.take k) xs = XS at *
          obtain ⟨e1, e2, e3⟩ := e
          dsimp only at *
          have hw : IntKind.i64.wrap (XS.getD (0 + e1.toNat) 0 + e3) = XS.getD (0 + e1.toNat) 0 + e3 := by rw [val_at]; exact IntWalk.i64_in _ (by omega)
          unfold relC at hF
          dsimp only at hF
          rw [← val_at, ← val_at] at hF
          repeat' (first | (with_reducible first | refine aw_seq ?_ | refine thn_normal ?_ | refine thn_ret ?_ | refine thn_exit ?_ | refine blk_normal ?_ | refine blk_ret ?_ | refine blk_hit ?_ | refine blk_miss rfl ?_ | refine aw_block ?_ | refine aw_ret ?_ | refine aw_skip ?_ | refine aw_exit ?_ | refine w_nil ?_ | refine x_nil (by kernel_rfl) ?_) | refine aw_region ?_ | refine aw_region_draw (by kernel_rfl) ?_ | refine aw_yes rfl ?_ | refine aw_no rfl ?_ | ((with_reducible refine w_seq ?_); first | refine r_q tbOk rfl rfl rfl rfl ?_ | refine r_e tbOk rfl rfl rfl rfl rfl ?_ | refine r_yes tbOk rfl rfl rfl rfl rfl rfl ?_ | refine w_no rfl rfl (lookO_spec rfl) rfl rfl rfl ?_ | refine w_un rfl rfl (lookO_spec rfl) rfl rfl ?_) | ((with_reducible refine w_drw ?_); first | refine rx_q tbOk rfl rfl rfl rfl ?_ | refine rx_e tbOk rfl rfl rfl rfl rfl ?_ | refine rx_yes tbOk rfl rfl rfl rfl rfl rfl ?_ | refine x_no rfl rfl (lookO_spec rfl) rfl rfl rfl ?_ | refine x_un rfl rfl (lookO_spec rfl) rfl rfl ?_) | ((first | refine' w_q rfl rfl ?xa rfl ?_ | refine' v_q rfl rfl ?xa rfl ?_ | refine' w_yes rfl rfl (lookO_spec rfl) rfl ?xa rfl ?_ | refine' v_yes rfl rfl (lookO_spec rfl) rfl ?xa rfl ?_); case xa => first | exact k_index tbOk rfl rfl rfl rfl (by omega) (by exact hix) | exact k_indexO tbOk rfl rfl rfl rfl (by first | exact g0 | exact g2) (by first | exact g1 | exact g3) | exact k_loadI tbOk rfl rfl rfl rfl (by dsimp only; omega)) | ((first | refine' w_e rfl ?xa ?xb ?xc ?xe ?_ | refine' v_e rfl ?xa ?xb ?xc ?xe ?_); (case xa => exact e_storeS tbOk rfl rfl rfl rfl rfl rfl rfl rfl (by rw [hXI]; dsimp only; omega)); (case xb => rfl); (case xc => rfl); (case xe => rfl); try dsimp only [P0.d, Res.d, List.map_cons, List.map_nil, List.set_cons_zero, List.set_cons_succ, Nat.reduceAdd]) | ((first | refine aw_ways rfl ?_ ?_ | refine r_split rfl rfl rfl ?_ ?_) <;> intro hg_ <;> fail_if_success (exact Bool.noConfusion hg_)) <;> (try simp only [prn] at hg_) <;> (try first | contradiction | (exfalso; omega)))
          all_goals
            (try rw [hw] at hg_)
            first
              | rw [if_pos (by omega)] at hF
              | rw [if_neg (by omega)] at hF
            first
              | exact ⟨k + 1, by omega, by (refine weak_ren [(100, 100)] rfl ?_ ?_ <;> repeat' (first | exact trivial | refine subR_cons rfl ?_ ?_ | refine subHR_cons rfl ?_ ?_ | rfl | (refine d_int ?_; (first | rfl | omega | (rw [IntWalk.i64_in _ (by omega)] <;> omega) | (simp; done) | (simp; omega))) | (refine d_bool ?_; (first | (simp_all; done) | (rw [Bool.eq_iff_iff]; simp_all; done) | (rw [Bool.eq_iff_iff]; simp_all; omega) | (rw [Bool.eq_iff_iff]; simp; omega))) | exact d_int (by rw [IntWalk.i64_in _ (by omega)]; omega) | exact ob_sl rfl (by rw [hF, hw, Nat.zero_add]; exact ints_set _ _ _) | exact ob_sl rfl (by rw [hF]))), by omega⟩
              | trace_state
        · repeat' (first | (with_reducible first | refine aw_seq ?_ | refine thn_normal ?_ | refine thn_ret ?_ | refine thn_exit ?_ | refine blk_normal ?_ | refine blk_ret ?_ | refine blk_hit ?_ | refine blk_miss rfl ?_ | refine aw_block ?_ | refine aw_ret ?_ | refine aw_skip ?_ | refine aw_exit ?_ | refine w_nil ?_ | refine x_nil (by kernel_rfl) ?_) | refine aw_region ?_ | refine aw_region_draw (by kernel_rfl) ?_ | refine aw_yes rfl ?_ | refine aw_no rfl ?_ | ((with_reducible refine w_seq ?_); first | refine r_q tbOk rfl rfl rfl rfl ?_ | refine r_e tbOk rfl rfl rfl rfl rfl ?_ | refine r_yes tbOk rfl rfl rfl rfl rfl rfl ?_ | refine w_no rfl rfl (lookO_spec rfl) rfl rfl rfl ?_ | refine w_un rfl rfl (lookO_spec rfl) rfl rfl ?_) | ((with_reducible refine w_drw ?_); first | refine rx_q tbOk rfl rfl rfl rfl ?_ | refine rx_e tbOk rfl rfl rfl rfl rfl ?_ | refine rx_yes tbOk rfl rfl rfl rfl rfl rfl ?_ | refine x_no rfl rfl (lookO_spec rfl) rfl rfl rfl ?_ | refine x_un rfl rfl (lookO_spec rfl) rfl rfl ?_) | ((first | refine aw_ways rfl ?_ ?_ | refine r_split rfl rfl rfl ?_ ?_) <;> intro hg_ <;> fail_if_success (exact Bool.noConfusion hg_)) <;> (try simp only [prn] at hg_) <;> (try first | contradiction | (exfalso; omega)))
          rw [List.take_of_length_le (by omega)]
          all_goals first
            | (refine hfin _ ?_
               (refine weak_ren [(100, 100)] rfl ?_ ?_ <;> repeat' (first | exact trivial | refine subR_cons rfl ?_ ?_ | refine subHR_cons rfl ?_ ?_ | rfl | (refine d_int ?_; (first | rfl | omega | (rw [IntWalk.i64_in _ (by omega)] <;> omega) | (simp; done) | (simp; omega))) | (refine d_bool ?_; (first | (simp_all; done) | (rw [Bool.eq_iff_iff]; simp_all; done) | (rw [Bool.eq_iff_iff]; simp_all; omega) | (rw [Bool.eq_iff_iff]; simp; omega))) | exact d_int (by rw [IntWalk.i64_in _ (by omega)]; omega))))
            | trace_state
      · obtain rfl : n = M := by omega
        repeat' (first | (with_reducible first | refine aw_seq ?_ | refine thn_normal ?_ | refine thn_ret ?_ | refine thn_exit ?_ | refine blk_normal ?_ | refine blk_ret ?_ | refine blk_hit ?_ | refine blk_miss rfl ?_ | refine aw_block ?_ | refine aw_ret ?_ | refine aw_skip ?_ | refine aw_exit ?_ | refine w_nil ?_ | refine x_nil (by kernel_rfl) ?_) | refine aw_region ?_ | refine aw_region_draw (by kernel_rfl) ?_ | refine aw_yes rfl ?_ | refine aw_no rfl ?_ | ((with_reducible refine w_seq ?_); first | refine r_q tbOk rfl rfl rfl rfl ?_ | refine r_e tbOk rfl rfl rfl rfl rfl ?_ | refine r_yes tbOk rfl rfl rfl rfl rfl rfl ?_ | refine w_no rfl rfl (lookO_spec rfl) rfl rfl rfl ?_ | refine w_un rfl rfl (lookO_spec rfl) rfl rfl ?_) | ((with_reducible refine w_drw ?_); first | refine rx_q tbOk rfl rfl rfl rfl ?_ | refine rx_e tbOk rfl rfl rfl rfl rfl ?_ | refine rx_yes tbOk rfl rfl rfl rfl rfl rfl ?_ | refine x_no rfl rfl (lookO_spec rfl) rfl rfl rfl ?_ | refine x_un rfl rfl (lookO_spec rfl) rfl rfl ?_) | ((first | refine aw_ways rfl ?_ ?_ | refine r_split rfl rfl rfl ?_ ?_) <;> intro hg_ <;> fail_if_success (exact Bool.noConfusion hg_)) <;> (try simp only [prn] at hg_) <;> (try first | contradiction | (exfalso; omega)))
        all_goals first
          | exact ret_own rfl rfl (by rw [ints_len, costsN_len])
          | trace_state
set_option maxRecDepth 100000 in
set_option maxHeartbeats 4000000 in
theorem f_implCostsFrom (m : Int) (nil : Bool) (es : List E3) (s : Int) (hl : es.length ≤ 1048576) (hv : (gOk m es && inR 0 (m - 1) s) = true) : FnO Tryd.prog 32 [graphP m nil es, iP s] 3 1 (ints (costsF m es s)) := by
  have KG := f_implGraphValid m nil es (by simp only [maxLen]; omega)
  have KH := f_implHasH m nil es s
  have hgk : gOk m es = true := by cases h : gOk m es <;> simp_all
  have hR : inR 0 (m - 1) s = true := by cases h : inR 0 (m - 1) s <;> simp_all
  rw [hgk] at KG
  rw [hasV_inR, hR] at KH
  have hm := gOk_m hgk
  have hI := gOk_edges hgk
  have h40 := gOk_len hgk
  have hww := valid_w hgk
  have hs : 0 ≤ s ∧ s < m := by unfold inR at hR; simp at hR; omega
  obtain ⟨M, rfl⟩ : ∃ M : Nat, m = (M : Int) := ⟨m.toNat, by omega⟩
  have hIn : Inside M es := fun e he => ⟨(hI e he).1, (hI e he).2.1⟩
  have e : costsF M es s = costsN M es s M := by unfold costsF; rw [hgk, hR]; rfl
  have KN := f_lists M nil es hl (by omega) (fun e he => (hI e he).1)
  have KS := f_leastCosts M es s (by omega) h40 hIn (fun e he => (hww e he).1) (fun e he => (hww e he).2) hs
  rw [e]
  clear e hI hv hgk hR hIn hww
  refine fn_ofO Tryd.func32 (by kernel_rfl) rfl Tryd.ntmps32 rfl rfl ?_
  simp only [argEnv, P0.d, Nat.reduceAdd, List.map_cons, List.map_nil, graphP]
  repeat' (first | (with_reducible first | refine aw_seq ?_ | refine thn_normal ?_ | refine thn_ret ?_ | refine thn_exit ?_ | refine blk_normal ?_ | refine blk_ret ?_ | refine blk_hit ?_ | refine blk_miss rfl ?_ | refine aw_block ?_ | refine aw_ret ?_ | refine aw_skip ?_ | refine aw_exit ?_ | refine w_nil ?_ | refine x_nil (by kernel_rfl) ?_) | refine aw_region ?_ | refine aw_region_draw (by kernel_rfl) ?_ | refine aw_yes rfl ?_ | refine aw_no rfl ?_ | ((with_reducible refine w_seq ?_); first | refine r_q tbOk rfl rfl rfl rfl ?_ | refine r_e tbOk rfl rfl rfl rfl rfl ?_ | refine r_yes tbOk rfl rfl rfl rfl rfl rfl ?_ | refine w_no rfl rfl (lookO_spec rfl) rfl rfl rfl ?_ | refine w_un rfl rfl (lookO_spec rfl) rfl rfl ?_) | ((with_reducible refine w_drw ?_); first | refine rx_q tbOk rfl rfl rfl rfl ?_ | refine rx_e tbOk rfl rfl rfl rfl rfl ?_ | refine rx_yes tbOk rfl rfl rfl rfl rfl rfl ?_ | refine x_no rfl rfl (lookO_spec rfl) rfl rfl rfl ?_ | refine x_un rfl rfl (lookO_spec rfl) rfl rfl ?_) | ((first | refine' w_q rfl rfl ?xa rfl ?_ | refine' v_q rfl rfl ?xa rfl ?_ | refine' w_yes rfl rfl (lookO_spec rfl) rfl ?xa rfl ?_ | refine' v_yes rfl rfl (lookO_spec rfl) rfl ?xa rfl ?_); case xa => first | exact k_call KG rfl ⟨asA_agg (evO_spec rfl) ⟨cAr_r, cAr_r, trivial⟩, trivial⟩ | exact k_call KH rfl ⟨asA_agg (evO_spec rfl) ⟨cAr_r, cAr_r, trivial⟩, asA_r (evO_spec rfl), trivial⟩ | exact k_call KN rfl ⟨asA_agg (evO_spec rfl) ⟨cAr_r, cAr_r, trivial⟩, trivial⟩) | ((first | refine' w_e rfl ?xa ?xb ?xc ?xe ?_ | refine' v_e rfl ?xa ?xb ?xc ?xe ?_); (case xa => exact e_callO KS rfl rfl ⟨asA_r (evO_spec rfl), asA_r (evO_spec rfl), trivial⟩); (case xb => rfl); (case xc => rfl); (case xe => rfl); try dsimp only [P0.d, Res.d, List.map_cons, List.map_nil, List.set_cons_zero, List.set_cons_succ, Nat.reduceAdd]) | ((first | refine aw_ways rfl ?_ ?_ | refine r_split rfl rfl rfl ?_ ?_) <;> intro hg_ <;> fail_if_success (exact Bool.noConfusion hg_)) <;> (try simp only [prn] at hg_) <;> (try first | contradiction | (exfalso; omega)))
  all_goals first
    | exact ret_own rfl rfl rfl
    | trace_state
set_option maxRecDepth 100000 in
set_option maxHeartbeats 4000000 in
theorem f_implCostsNo (m : Int) (nil : Bool) (es : List E3) (s : Int) (hl : es.length ≤ 1048576) (hv : (gOk m es && inR 0 (m - 1) s) = false) : Fn Tryd.prog 32 [graphP m nil es, iP s] (.v (.one (row true 1 []))) := by
  have KG := f_implGraphValid m nil es (by simp only [maxLen]; omega)
  have KH := f_implHasH m nil es s
  rw [hasV_inR] at KH
  cases hgk : gOk m es
  · rw [hgk] at KG
    refine fn_of (l := [.tmp 4]) Tryd.func32 (by kernel_rfl) rfl Tryd.ntmps32 rfl rfl ?_; simp only [argEnv, P0.d, Nat.reduceAdd, graphP, List.map_cons, List.map_nil]
    repeat' (first | (with_reducible first | refine aw_seq ?_ | refine thn_normal ?_ | refine thn_ret ?_ | refine thn_exit ?_ | refine blk_normal ?_ | refine blk_ret ?_ | refine blk_hit ?_ | refine blk_miss rfl ?_ | refine aw_block ?_ | refine aw_ret ?_ | refine aw_skip ?_ | refine aw_exit ?_ | refine w_nil ?_ | refine x_nil (by kernel_rfl) ?_) | refine aw_region ?_ | refine aw_region_draw (by kernel_rfl) ?_ | refine aw_yes rfl ?_ | refine aw_no rfl ?_ | ((with_reducible refine w_seq ?_); first | refine r_q tbOk rfl rfl rfl rfl ?_ | refine r_e tbOk rfl rfl rfl rfl rfl ?_ | refine r_yes tbOk rfl rfl rfl rfl rfl rfl ?_ | refine w_no rfl rfl (lookO_spec rfl) rfl rfl rfl ?_ | refine w_un rfl rfl (lookO_spec rfl) rfl rfl ?_) | ((with_reducible refine w_drw ?_); first | refine rx_q tbOk rfl rfl rfl rfl ?_ | refine rx_e tbOk rfl rfl rfl rfl rfl ?_ | refine rx_yes tbOk rfl rfl rfl rfl rfl rfl ?_ | refine x_no rfl rfl (lookO_spec rfl) rfl rfl rfl ?_ | refine x_un rfl rfl (lookO_spec rfl) rfl rfl ?_) | ((first | refine' w_q rfl rfl ?xa rfl ?_ | refine' v_q rfl rfl ?xa rfl ?_ | refine' w_yes rfl rfl (lookO_spec rfl) rfl ?xa rfl ?_ | refine' v_yes rfl rfl (lookO_spec rfl) rfl ?xa rfl ?_); case xa => exact k_call KG rfl ⟨asA_agg (evO_spec rfl) ⟨cAr_r, cAr_r, trivial⟩, trivial⟩) | ((first | refine aw_ways rfl ?_ ?_ | refine r_split rfl rfl rfl ?_ ?_) <;> intro hg_ <;> fail_if_success (exact Bool.noConfusion hg_)) <;> (try simp only [prn] at hg_) <;> (try first | contradiction | (exfalso; omega)))
    all_goals first
      | exact ret_tmp rfl (dres_one cres_nil)
      | trace_state
  · rw [hgk] at KG hv
    rw [Bool.true_and] at hv
    rw [hv] at KH
    refine fn_of (l := [.tmp 4]) Tryd.func32 (by kernel_rfl) rfl Tryd.ntmps32 rfl rfl ?_; simp only [argEnv, P0.d, Nat.reduceAdd, graphP, List.map_cons, List.map_nil]
    repeat' (first | (with_reducible first | refine aw_seq ?_ | refine thn_normal ?_ | refine thn_ret ?_ | refine thn_exit ?_ | refine blk_normal ?_ | refine blk_ret ?_ | refine blk_hit ?_ | refine blk_miss rfl ?_ | refine aw_block ?_ | refine aw_ret ?_ | refine aw_skip ?_ | refine aw_exit ?_ | refine w_nil ?_ | refine x_nil (by kernel_rfl) ?_) | refine aw_region ?_ | refine aw_region_draw (by kernel_rfl) ?_ | refine aw_yes rfl ?_ | refine aw_no rfl ?_ | ((with_reducible refine w_seq ?_); first | refine r_q tbOk rfl rfl rfl rfl ?_ | refine r_e tbOk rfl rfl rfl rfl rfl ?_ | refine r_yes tbOk rfl rfl rfl rfl rfl rfl ?_ | refine w_no rfl rfl (lookO_spec rfl) rfl rfl rfl ?_ | refine w_un rfl rfl (lookO_spec rfl) rfl rfl ?_) | ((with_reducible refine w_drw ?_); first | refine rx_q tbOk rfl rfl rfl rfl ?_ | refine rx_e tbOk rfl rfl rfl rfl rfl ?_ | refine rx_yes tbOk rfl rfl rfl rfl rfl rfl ?_ | refine x_no rfl rfl (lookO_spec rfl) rfl rfl rfl ?_ | refine x_un rfl rfl (lookO_spec rfl) rfl rfl ?_) | ((first | refine' w_q rfl rfl ?xa rfl ?_ | refine' v_q rfl rfl ?xa rfl ?_ | refine' w_yes rfl rfl (lookO_spec rfl) rfl ?xa rfl ?_ | refine' v_yes rfl rfl (lookO_spec rfl) rfl ?xa rfl ?_); case xa => first | exact k_call KG rfl ⟨asA_agg (evO_spec rfl) ⟨cAr_r, cAr_r, trivial⟩, trivial⟩ | exact k_call KH rfl ⟨asA_agg (evO_spec rfl) ⟨cAr_r, cAr_r, trivial⟩, asA_r (evO_spec rfl), trivial⟩) | ((first | refine aw_ways rfl ?_ ?_ | refine r_split rfl rfl rfl ?_ ?_) <;> intro hg_ <;> fail_if_success (exact Bool.noConfusion hg_)) <;> (try simp only [prn] at hg_) <;> (try first | contradiction | (exfalso; omega)))
    all_goals first
      | exact ret_tmp rfl (dres_one cres_nil)
      | trace_state
end Go.Proofs.YthjnidcmhegoeaaDoor.Abs
