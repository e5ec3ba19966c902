/- Laws of costs by states: FnCostsFrom and FnCostParents. -/
import Derived.Test.YthjnidcmhegoeaaDoorTy
import Derived.Lib.Hide
import Derived.Test.YthjnidcmhegoeaaDoorPCost2
import Derived.Test.YthjnidcmhegoeaaDoorAGrH
import Derived.Test.YthjnidcmhegoeaaDoorALawG
set_option linter.unusedSimpArgs false
set_option linter.unusedVariables false
namespace Go.Proofs.YthjnidcmhegoeaaDoor.Abs
open Go.RowKit
open R (val row ref)

/-! ## LCostF -/
set_option maxRecDepth 100000 in
set_option maxHeartbeats 4000000 in
theorem f_drawCF (nb : Bool) (code : List Int) (hB : Byte code) (hl : code.length ≤ 1048576) :
    ∃ (nE : Bool) (m : Int) (es : List E3) (s : Int), ((nE = true → es = []) ∧ -1 ≤ m ∧ m ≤ 17 ∧ es.length ≤ 41 ∧ -100 ≤ s ∧ s ≤ 100) ∧ Fn Tryd.prog 34 [.one (row nb 1 (bys code))] (.tup [graphP m nE es, iP s]) := by
  have K0 := f_open nb code hl
  have hB2 := byte_take2 hB 2000
  have hl2 : (code.take 2000).length ≤ 2000 := by rw [List.length_take]; omega
  obtain ⟨nE, m, es, p', s, ⟨e1, e2, e3, e4, e5, e6, e7, e8⟩, KA0⟩ := f_l20At (bs := code.take 2000) 0 hB2 hl2 (by omega) (by omega)
  have KA := KA0 false true nb
  refine ⟨nE, m, es, s, ⟨e1, e2, e3, e4, e7, e8⟩, ?_⟩
  clear KA0 hB2 hl2 hB
  generalize code.take 2000 = bs at *
  unfold rdH at *
  refine fn_of (l := [.cell 2 48, .tmp 3]) Tryd.func34 (by kernel_rfl) rfl Tryd.ntmps34 rfl rfl ?_; simp only [argEnv, P0.d, Nat.reduceAdd, graphP, List.map_cons, List.map_nil]
  repeat' (first | (with_reducible first | refine aw_seq ?_ | refine thn_normal ?_ | refine thn_ret ?_ | refine thn_exit ?_ | refine blk_normal ?_ | refine blk_ret ?_ | refine blk_hit ?_ | refine blk_miss rfl ?_ | refine aw_block ?_ | refine aw_ret ?_ | refine aw_skip ?_ | refine aw_exit ?_ | refine w_nil ?_ | refine x_nil (by kernel_rfl) ?_) | refine aw_region ?_ | refine aw_region_draw (by kernel_rfl) ?_ | refine aw_yes rfl ?_ | refine aw_no rfl ?_ | ((with_reducible refine w_seq ?_); first | refine r_q tbOk rfl rfl rfl rfl ?_ | refine r_e tbOk rfl rfl rfl rfl rfl ?_ | refine r_yes tbOk rfl rfl rfl rfl rfl rfl ?_ | refine w_no rfl rfl (lookO_spec rfl) rfl rfl rfl ?_ | refine w_un rfl rfl (lookO_spec rfl) rfl rfl ?_) | ((with_reducible refine w_drw ?_); first | refine rx_q tbOk rfl rfl rfl rfl ?_ | refine rx_e tbOk rfl rfl rfl rfl rfl ?_ | refine rx_yes tbOk rfl rfl rfl rfl rfl rfl ?_ | refine x_no rfl rfl (lookO_spec rfl) rfl rfl rfl ?_ | refine x_un rfl rfl (lookO_spec rfl) rfl rfl ?_) | ((first | refine' w_e rfl ?xa ?xb ?xc ?xe ?_ | refine' v_e rfl ?xa ?xb ?xc ?xe ?_); (case xa => first | exact e_callS [(2000001, 600)] K0 rfl ⟨by rw [evO_spec rfl]; exact asD_r rfl, trivial⟩ trivial rfl | exact e_callS [(1000000000, 600)] KA rfl ⟨asD_ren (evO_spec rfl), trivial⟩ (by (repeat' (first | exact trivial | refine subHR_cons rfl ?_ ?_ | rfl))) rfl); (case xb => rfl); (case xc => rfl); (case xe => rfl); try dsimp only [P0.d, Res.d, List.map_cons, List.map_nil, List.set_cons_zero, List.set_cons_succ, Nat.reduceAdd]) | ((first | refine aw_ways rfl ?_ ?_ | refine r_split rfl rfl rfl ?_ ?_) <;> intro hg_ <;> fail_if_success (exact Bool.noConfusion hg_)) <;> (try simp only [prn] at hg_) <;> (try first | contradiction | (exfalso; omega)))
  all_goals first
    | exact ret_2 (rv_cell rfl rfl (by (with_reducible first | exact ty2 | exact ty3 | exact ty4 | exact ty5 | exact ty9 | exact ty17 | exact ty19 | exact ty20 | exact ty23 | exact ty25 | exact ty27 | exact ty29 | exact ty32 | exact ty40 | exact ty42 | exact ty44 | exact ty46 | exact ty48 | exact ty63 | exact ty65 | exact ty67 | exact ty70 | exact ty74 | exact ty85 | exact ty89 | exact ty91 | exact ty92 | exact ty93 | exact ty104 | exact ty106 | exact ty107 | exact ty108 | exact ty112 | exact ty115 | exact ty120 | exact ty122 | exact ty124 | exact ty126 | exact ty131 | exact ty134 | exact ty137 | exact ty144 | exact ty154 | exact ty155 | exact ty161 | exact ty164 | exact ty165 | exact ty168)) rfl rfl rfl (dres_agg (by exact ⟨cres_val, cres_new, trivial⟩))) (rv_tmp rfl (dres_int rfl))
    | trace_state
set_option maxRecDepth 100000 in
set_option maxHeartbeats 4000000 in
theorem f_drawCP (nb : Bool) (code : List Int) (hB : Byte code) (hl : code.length ≤ 1048576) :
    ∃ (nE : Bool) (m : Int) (es : List E3) (s : Int), ((nE = true → es = []) ∧ -1 ≤ m ∧ m ≤ 17 ∧ es.length ≤ 41 ∧ -100 ≤ s ∧ s ≤ 100) ∧ Fn Tryd.prog 30 [.one (row nb 1 (bys code))] (.tup [graphP m nE es, iP s]) := by
  have K0 := f_open nb code hl
  have hB2 := byte_take2 hB 2000
  have hl2 : (code.take 2000).length ≤ 2000 := by rw [List.length_take]; omega
  obtain ⟨nE, m, es, p', s, ⟨e1, e2, e3, e4, e5, e6, e7, e8⟩, KA0⟩ := f_l20At (bs := code.take 2000) 0 hB2 hl2 (by omega) (by omega)
  have KA := KA0 false true nb
  refine ⟨nE, m, es, s, ⟨e1, e2, e3, e4, e7, e8⟩, ?_⟩
  clear KA0 hB2 hl2 hB
  generalize code.take 2000 = bs at *
  unfold rdH at *
  refine fn_of (l := [.cell 2 48, .tmp 3]) Tryd.func30 (by kernel_rfl) rfl Tryd.ntmps30 rfl rfl ?_; simp only [argEnv, P0.d, Nat.reduceAdd, graphP, List.map_cons, List.map_nil]
  repeat' (first | (with_reducible first | refine aw_seq ?_ | refine thn_normal ?_ | refine thn_ret ?_ | refine thn_exit ?_ | refine blk_normal ?_ | refine blk_ret ?_ | refine blk_hit ?_ | refine blk_miss rfl ?_ | refine aw_block ?_ | refine aw_ret ?_ | refine aw_skip ?_ | refine aw_exit ?_ | refine w_nil ?_ | refine x_nil (by kernel_rfl) ?_) | refine aw_region ?_ | refine aw_region_draw (by kernel_rfl) ?_ | refine aw_yes rfl ?_ | refine aw_no rfl ?_ | ((with_reducible refine w_seq ?_); first | refine r_q tbOk rfl rfl rfl rfl ?_ | refine r_e tbOk rfl rfl rfl rfl rfl ?_ | refine r_yes tbOk rfl rfl rfl rfl rfl rfl ?_ | refine w_no rfl rfl (lookO_spec rfl) rfl rfl rfl ?_ | refine w_un rfl rfl (lookO_spec rfl) rfl rfl ?_) | ((with_reducible refine w_drw ?_); first | refine rx_q tbOk rfl rfl rfl rfl ?_ | refine rx_e tbOk rfl rfl rfl rfl rfl ?_ | refine rx_yes tbOk rfl rfl rfl rfl rfl rfl ?_ | refine x_no rfl rfl (lookO_spec rfl) rfl rfl rfl ?_ | refine x_un rfl rfl (lookO_spec rfl) rfl rfl ?_) | ((first | refine' w_e rfl ?xa ?xb ?xc ?xe ?_ | refine' v_e rfl ?xa ?xb ?xc ?xe ?_); (case xa => first | exact e_callS [(2000001, 600)] K0 rfl ⟨by rw [evO_spec rfl]; exact asD_r rfl, trivial⟩ trivial rfl | exact e_callS [(1000000000, 600)] KA rfl ⟨asD_ren (evO_spec rfl), trivial⟩ (by (repeat' (first | exact trivial | refine subHR_cons rfl ?_ ?_ | rfl))) rfl); (case xb => rfl); (case xc => rfl); (case xe => rfl); try dsimp only [P0.d, Res.d, List.map_cons, List.map_nil, List.set_cons_zero, List.set_cons_succ, Nat.reduceAdd]) | ((first | refine aw_ways rfl ?_ ?_ | refine r_split rfl rfl rfl ?_ ?_) <;> intro hg_ <;> fail_if_success (exact Bool.noConfusion hg_)) <;> (try simp only [prn] at hg_) <;> (try first | contradiction | (exfalso; omega)))
  all_goals first
    | exact ret_2 (rv_cell rfl rfl (by (with_reducible first | exact ty2 | exact ty3 | exact ty4 | exact ty5 | exact ty9 | exact ty17 | exact ty19 | exact ty20 | exact ty23 | exact ty25 | exact ty27 | exact ty29 | exact ty32 | exact ty40 | exact ty42 | exact ty44 | exact ty46 | exact ty48 | exact ty63 | exact ty65 | exact ty67 | exact ty70 | exact ty74 | exact ty85 | exact ty89 | exact ty91 | exact ty92 | exact ty93 | exact ty104 | exact ty106 | exact ty107 | exact ty108 | exact ty112 | exact ty115 | exact ty120 | exact ty122 | exact ty124 | exact ty126 | exact ty131 | exact ty134 | exact ty137 | exact ty144 | exact ty154 | exact ty155 | exact ty161 | exact ty164 | exact ty165 | exact ty168)) rfl rfl rfl (dres_agg (by exact ⟨cres_val, cres_new, trivial⟩))) (rv_tmp rfl (dres_int rfl))
    | trace_state
theorem costsF_bd {M : Nat} {es : List E3} {s : Int} (hg : gOk M es = true) (hs : 0 ≤ s ∧ s < (M : Int)) (v : Int) (h0 : 0 ≤ v) (h1 : v < (M : Int)) : -1 ≤ Go.Proofs.YthjnidcmhegoeaaDoor.val (costsN M es s M) v ∧ Go.Proofs.YthjnidcmhegoeaaDoor.val (costsN M es s M) v ≤ 12800 := by
  have hm := gOk_m hg
  have hI := gOk_edges hg
  have := costsN_bd (fun e he => ⟨(hI e he).1, (hI e he).2.1⟩) (valid_w hg) (gOk_len hg) hs M v h0 h1
  omega
theorem i64_of_val {xs : List Int} (h : ∀ v : Int, 0 ≤ v → v < (xs.length : Int) → -100000 ≤ Go.Proofs.YthjnidcmhegoeaaDoor.val xs v ∧ Go.Proofs.YthjnidcmhegoeaaDoor.val xs v ≤ 100000) : ∀ z ∈ xs, I64 z := fun z hz => by
  obtain ⟨i, hi, rfl⟩ := List.mem_iff_getElem.1 hz
  have := h (i : Int) (by omega) (by omega)
  unfold Go.Proofs.YthjnidcmhegoeaaDoor.val at this
  rw [Int.toNat_natCast, List.getD_eq_getElem?_getD, List.getElem?_eq_getElem hi] at this
  simp only [Option.getD_some] at this
  unfold I64
  omega
set_option maxRecDepth 100000 in
set_option maxHeartbeats 8000000 in
theorem f_lawCostsFrom (nb : Bool) (code : List Int) (hB : Byte code) (hl : code.length ≤ 1048576) : Fn Tryd.prog 8 [.one (row nb 1 (bys code))] (.v (.one (bool true))) := by
  obtain ⟨nE, m, es, s, ⟨e1, e2, e3, e4, e5, e6⟩, KD⟩ := f_drawCF nb code hB hl
  have hel : es.length ≤ 1048576 := by omega
  have KS := f_specCostsFrom m nE es s hel
  have hcl := bys_len code
  cases hv : (gOk m es && inR 0 (m - 1) s)
  · have KI := f_implCostsNo m nE es s hel hv
    have hF : costsF m es s = [] := by unfold costsF; rw [hv]; rfl
    rw [hF] at KS
    have KE := f_sameInts2 true false [] (by simp)
    refine fn_of (l := [.tmp 2]) Tryd.func8 (by kernel_rfl) rfl Tryd.ntmps8 rfl rfl ?_; simp only [argEnv, P0.d, Nat.reduceAdd, graphP, List.map_cons, List.map_nil]
    repeat' (first | (with_reducible first | refine aw_seq ?_ | refine thn_normal ?_ | refine thn_ret ?_ | refine thn_exit ?_ | refine blk_normal ?_ | refine blk_ret ?_ | refine blk_hit ?_ | refine blk_miss rfl ?_ | refine aw_block ?_ | refine aw_ret ?_ | refine aw_skip ?_ | refine aw_exit ?_ | refine w_nil ?_ | refine x_nil (by kernel_rfl) ?_) | refine aw_region ?_ | refine aw_region_draw (by kernel_rfl) ?_ | refine aw_yes rfl ?_ | refine aw_no rfl ?_ | ((with_reducible refine w_seq ?_); first | refine r_q tbOk rfl rfl rfl rfl ?_ | refine r_e tbOk rfl rfl rfl rfl rfl ?_ | refine r_yes tbOk rfl rfl rfl rfl rfl rfl ?_ | refine w_no rfl rfl (lookO_spec rfl) rfl rfl rfl ?_ | refine w_un rfl rfl (lookO_spec rfl) rfl rfl ?_) | ((with_reducible refine w_drw ?_); first | refine rx_q tbOk rfl rfl rfl rfl ?_ | refine rx_e tbOk rfl rfl rfl rfl rfl ?_ | refine rx_yes tbOk rfl rfl rfl rfl rfl rfl ?_ | refine x_no rfl rfl (lookO_spec rfl) rfl rfl rfl ?_ | refine x_un rfl rfl (lookO_spec rfl) rfl rfl ?_) | ((first | refine' w_q rfl rfl ?xa rfl ?_ | refine' v_q rfl rfl ?xa rfl ?_ | refine' w_yes rfl rfl (lookO_spec rfl) rfl ?xa rfl ?_ | refine' v_yes rfl rfl (lookO_spec rfl) rfl ?xa rfl ?_); case xa => first | exact k_call KD rfl ⟨asA_r (evO_spec rfl), trivial⟩ | exact k_call KI rfl ⟨asA_agg (evO_spec rfl) ⟨cAr_r, cAr_r, trivial⟩, asA_r (evO_spec rfl), trivial⟩ | exact k_call KE rfl ⟨asA_r (evO_spec rfl), asA_own0H (evO_spec rfl) (lookHO_spec rfl) rfl, trivial⟩ | exact k_call f_alive2 rfl trivial) | ((first | refine' w_e rfl ?xa ?xb ?xc ?xe ?_ | refine' v_e rfl ?xa ?xb ?xc ?xe ?_); (case xa => exact e_callO KS rfl rfl ⟨asA_agg (evO_spec rfl) ⟨cAr_r, cAr_r, trivial⟩, asA_r (evO_spec rfl), trivial⟩); (case xb => rfl); (case xc => rfl); (case xe => rfl); try dsimp only [P0.d, Res.d, List.map_cons, List.map_nil, List.set_cons_zero, List.set_cons_succ, Nat.reduceAdd]) | ((first | refine aw_ways rfl ?_ ?_ | refine r_split rfl rfl rfl ?_ ?_) <;> intro hg_ <;> fail_if_success (exact Bool.noConfusion hg_)) <;> (try simp only [prn] at hg_) <;> (try first | contradiction | (exfalso; omega)))
    all_goals first
      | exact ret_tmp rfl (dres_bool rfl)
      | trace_state
  · have KI := f_implCostsFrom m nE es s hel hv
    have KH := f_implHopsFrom m nE es s hel hv
    have KP := f_implCostParents m nE es s hel hv
    have hgk : gOk m es = true := by cases h : gOk m es <;> simp_all
    have hR : inR 0 (m - 1) s = true := by cases h : inR 0 (m - 1) s <;> simp_all
    have hm := gOk_m hgk
    have hs : 0 ≤ s ∧ s < m := by unfold inR at hR; simp at hR; omega
    obtain ⟨M, rfl⟩ : ∃ M : Nat, m = (M : Int) := ⟨m.toNat, by omega⟩
    have hX : costsF M es s = costsN M es s M := by unfold costsF; rw [hgk, hR]; rfl
    have hX2 : hopsF M es s = hopsN M es s M := by unfold hopsF; rw [hgk, hR]; rfl
    obtain ⟨hok, hpl, _⟩ := costsOk_yes hgk hs
    have hCH := costs_hops hgk hs
    have hL := costsN_len M es s M
    have hL2 := hopsN_len M es s M
    have hbd := costsF_bd hgk hs
    have hI64 := i64_of_val (xs := costsN M es s M) (fun v h0 h1 => by rw [hL] at h1; have := hbd v h0 h1; omega)
    have KR := f_implCostsRight M nE false false es s (costsN M es s M) (parF M es s) hel (by omega) (by omega)
    rw [hok] at KR
    have hsrc : (costsN M es s M).getD (0 + s.toNat) 0 = 0 := by
      have hIn : Inside M es := fun e he => ⟨(gOk_edges hgk e he).1, (gOk_edges hgk e he).2.1⟩
      obtain ⟨rk, hC⟩ := costsN_isC hIn (fun e he => (valid_w hgk e he).1) hs
      rw [val_at]; exact hC.src
    rw [hX] at KI KS
    rw [hX2] at KH
    clear hok hv hgk hR hX hX2
    generalize parF M es s = ps at *
    generalize costsN M es s M = xs at *
    generalize hopsN M es s M = hs' at *
    have KE := f_sameInts2 false false xs (by omega)
    have hxl : (ints xs).length = M := by rw [ints_len, hL]
    have hhl : (ints hs').length = M := by rw [ints_len, hL2]
    refine fn_of (l := [.tmp 2]) Tryd.func8 (by kernel_rfl) rfl Tryd.ntmps8 rfl rfl ?_; simp only [argEnv, P0.d, Nat.reduceAdd, graphP, List.map_cons, List.map_nil]
    repeat' (first | (with_reducible first | refine aw_seq ?_ | refine thn_normal ?_ | refine thn_ret ?_ | refine thn_exit ?_ | refine blk_normal ?_ | refine blk_ret ?_ | refine blk_hit ?_ | refine blk_miss rfl ?_ | refine aw_block ?_ | refine aw_ret ?_ | refine aw_skip ?_ | refine aw_exit ?_ | refine w_nil ?_ | refine x_nil (by kernel_rfl) ?_) | refine aw_region ?_ | refine aw_region_draw (by kernel_rfl) ?_ | refine aw_yes rfl ?_ | refine aw_no rfl ?_ | ((with_reducible refine w_seq ?_); first | refine r_q tbOk rfl rfl rfl rfl ?_ | refine r_e tbOk rfl rfl rfl rfl rfl ?_ | refine r_yes tbOk rfl rfl rfl rfl rfl rfl ?_ | refine w_no rfl rfl (lookO_spec rfl) rfl rfl rfl ?_ | refine w_un rfl rfl (lookO_spec rfl) rfl rfl ?_) | ((with_reducible refine w_drw ?_); first | refine rx_q tbOk rfl rfl rfl rfl ?_ | refine rx_e tbOk rfl rfl rfl rfl rfl ?_ | refine rx_yes tbOk rfl rfl rfl rfl rfl rfl ?_ | refine x_no rfl rfl (lookO_spec rfl) rfl rfl rfl ?_ | refine x_un rfl rfl (lookO_spec rfl) rfl rfl ?_) | ((first | refine' w_q rfl rfl ?xa rfl ?_ | refine' v_q rfl rfl ?xa rfl ?_ | refine' w_yes rfl rfl (lookO_spec rfl) rfl ?xa rfl ?_ | refine' v_yes rfl rfl (lookO_spec rfl) rfl ?xa rfl ?_); case xa => first | exact k_call KD rfl ⟨asA_r (evO_spec rfl), trivial⟩ | exact k_call KE rfl ⟨asA_own0H (evO_spec rfl) (lookHO_spec rfl) rfl, asA_own0H (evO_spec rfl) (lookHO_spec rfl) rfl, trivial⟩ | exact k_call f_alive2 rfl trivial) | ((first | refine' w_e rfl ?xa ?xb ?xc ?xe ?_ | refine' v_e rfl ?xa ?xb ?xc ?xe ?_); (case xa => first | exact e_callO KI rfl rfl ⟨asA_agg (evO_spec rfl) ⟨cAr_r, cAr_r, trivial⟩, asA_r (evO_spec rfl), trivial⟩ | exact e_callO KS rfl rfl ⟨asA_agg (evO_spec rfl) ⟨cAr_r, cAr_r, trivial⟩, asA_r (evO_spec rfl), trivial⟩ | exact e_callO KH rfl rfl ⟨asA_agg (evO_spec rfl) ⟨cAr_r, cAr_r, trivial⟩, asA_r (evO_spec rfl), trivial⟩); (case xb => rfl); (case xc => rfl); (case xe => rfl); try dsimp only [P0.d, Res.d, List.map_cons, List.map_nil, List.set_cons_zero, List.set_cons_succ, Nat.reduceAdd]) | ((first | refine aw_ways rfl ?_ ?_ | refine r_split rfl rfl rfl ?_ ?_) <;> intro hg_ <;> fail_if_success (exact Bool.noConfusion hg_)) <;> (try simp only [prn] at hg_) <;> (try first | contradiction | (exfalso; omega)))
    all_goals try (exfalso; omega)
    refine aw_loopI (fun k : Nat => k ≤ M) (fun k => mkS 95 [(7, .one (.r true (int k))), (6, .one (.own 101 0 M 1)), (5, .one (.own 100 0 M 1)), (4, .one (.r true (int s))), (3, .one (.ptr 3 0 0 0))] [(101, .sl 3 1 true (ints hs')), (100, .sl 3 1 true (ints xs)), (3, .var 48 [.r true (int M), .r true (row nE 3 (edges es))])]) (fun k => M - k) 0 (Nat.zero_le _) (by (refine weak_ren [(100, 18), (101, 31)] rfl ?_ ?_ <;> repeat' (first | exact trivial | refine subR_cons rfl ?_ ?_ | refine subHR_cons rfl ?_ ?_ | rfl | (refine d_int ?_; (first | rfl | omega | (rw [IntWalk.i64_in _ (by omega)] <;> omega) | (simp; done) | (simp; omega))) | (refine d_bool ?_; (first | (simp_all; done) | (rw [Bool.eq_iff_iff]; simp_all; done) | (rw [Bool.eq_iff_iff]; simp_all; omega) | (rw [Bool.eq_iff_iff]; simp; omega))) | exact d_own hxl | exact d_own hhl))) ?_
    intro k hk
    clear KD KI KS KH KE
    by_cases hlt : k < M
    · have h1 := hCH (k : Int) (by omega) (by omega)
      have h2 := hbd (k : Int) (by omega) (by omega)
      rw [← val_at, ← val_at] at h1
      rw [← val_at] at h2
      have hwk : IntKind.i64.wrap ((k : Int) + 1) = ((k + 1 : Nat) : Int) := by rw [IntWalk.i64_in _ (by omega)]; omega
      have hw20 : IntKind.i64.wrap (20 * hs'.getD (0 + ((k : Nat) : Int).toNat) 0) = 20 * hs'.getD (0 + ((k : Nat) : Int).toNat) 0 := IntWalk.i64_in _ (by omega)
      have hbn : (decide (xs.getD (0 + ((k : Nat) : Int).toNat) 0 < 0) != decide (hs'.getD (0 + ((k : Nat) : Int).toNat) 0 < 0)) = false := by
        rcases h1 with ⟨a, b⟩ | ⟨a, b, _, _⟩
        · rw [a, b]; rfl
        · rw [decide_eq_false (by omega), decide_eq_false (by omega)]; rfl
      clear hCH hbd KP KR hI64 hsrc
      repeat' (first | (with_reducible first | refine aw_seq ?_ | refine thn_normal ?_ | refine thn_ret ?_ | refine thn_exit ?_ | refine blk_normal ?_ | refine blk_ret ?_ | refine blk_hit ?_ | refine blk_miss rfl ?_ | refine aw_block ?_ | refine aw_ret ?_ | refine aw_skip ?_ | refine aw_exit ?_ | refine w_nil ?_ | refine x_nil (by kernel_rfl) ?_) | refine aw_region ?_ | refine aw_region_draw (by kernel_rfl) ?_ | refine aw_yes rfl ?_ | refine aw_no rfl ?_ | ((with_reducible refine w_seq ?_); first | refine r_q tbOk rfl rfl rfl rfl ?_ | refine r_e tbOk rfl rfl rfl rfl rfl ?_ | refine r_yes tbOk rfl rfl rfl rfl rfl rfl ?_ | refine w_no rfl rfl (lookO_spec rfl) rfl rfl rfl ?_ | refine w_un rfl rfl (lookO_spec rfl) rfl rfl ?_) | ((with_reducible refine w_drw ?_); first | refine rx_q tbOk rfl rfl rfl rfl ?_ | refine rx_e tbOk rfl rfl rfl rfl rfl ?_ | refine rx_yes tbOk rfl rfl rfl rfl rfl rfl ?_ | refine x_no rfl rfl (lookO_spec rfl) rfl rfl rfl ?_ | refine x_un rfl rfl (lookO_spec rfl) rfl rfl ?_) | ((first | refine' w_q rfl rfl ?xa rfl ?_ | refine' v_q rfl rfl ?xa rfl ?_ | refine' w_yes rfl rfl (lookO_spec rfl) rfl ?xa rfl ?_ | refine' v_yes rfl rfl (lookO_spec rfl) rfl ?xa rfl ?_); case xa => first | exact k_indexO tbOk rfl rfl rfl rfl (by omega) (by omega) | exact k_loadI tbOk rfl rfl rfl rfl (by omega) | exact k_neB bo4 rfl rfl rfl) | ((first | refine aw_ways rfl ?_ ?_ | refine r_split rfl rfl rfl ?_ ?_) <;> intro hg_ <;> fail_if_success (exact Bool.noConfusion hg_)) <;> (try simp only [prn] at hg_) <;> (try first | contradiction | (exfalso; omega)))
      all_goals first
        | (exfalso; omega)
        | (exfalso; rw [hbn] at hg_; cases hg_)
        | exact ⟨k + 1, by omega, by (refine weak_ren [] rfl ?_ ?_ <;> repeat' (first | exact trivial | refine subR_cons rfl ?_ ?_ | refine subHR_cons rfl ?_ ?_ | rfl | (refine d_int ?_; (first | rfl | omega | (rw [IntWalk.i64_in _ (by omega)] <;> omega) | (simp; done) | (simp; omega))) | (refine d_bool ?_; (first | (simp_all; done) | (rw [Bool.eq_iff_iff]; simp_all; done) | (rw [Bool.eq_iff_iff]; simp_all; omega) | (rw [Bool.eq_iff_iff]; simp; omega))) | exact d_int hwk)), by omega⟩
        | trace_state
    · obtain rfl : k = M := by omega
      repeat' (first | (with_reducible first | refine aw_seq ?_ | refine thn_normal ?_ | refine thn_ret ?_ | refine thn_exit ?_ | refine blk_normal ?_ | refine blk_ret ?_ | refine blk_hit ?_ | refine blk_miss rfl ?_ | refine aw_block ?_ | refine aw_ret ?_ | refine aw_skip ?_ | refine aw_exit ?_ | refine w_nil ?_ | refine x_nil (by kernel_rfl) ?_) | refine aw_region ?_ | refine aw_region_draw (by kernel_rfl) ?_ | refine aw_yes rfl ?_ | refine aw_no rfl ?_ | ((with_reducible refine w_seq ?_); first | refine r_q tbOk rfl rfl rfl rfl ?_ | refine r_e tbOk rfl rfl rfl rfl rfl ?_ | refine r_yes tbOk rfl rfl rfl rfl rfl rfl ?_ | refine w_no rfl rfl (lookO_spec rfl) rfl rfl rfl ?_ | refine w_un rfl rfl (lookO_spec rfl) rfl rfl ?_) | ((with_reducible refine w_drw ?_); first | refine rx_q tbOk rfl rfl rfl rfl ?_ | refine rx_e tbOk rfl rfl rfl rfl rfl ?_ | refine rx_yes tbOk rfl rfl rfl rfl rfl rfl ?_ | refine x_no rfl rfl (lookO_spec rfl) rfl rfl rfl ?_ | refine x_un rfl rfl (lookO_spec rfl) rfl rfl ?_) | ((first | refine' w_q rfl rfl ?xa rfl ?_ | refine' v_q rfl rfl ?xa rfl ?_ | refine' w_yes rfl rfl (lookO_spec rfl) rfl ?xa rfl ?_ | refine' v_yes rfl rfl (lookO_spec rfl) rfl ?xa rfl ?_); case xa => first | exact k_indexO tbOk rfl rfl rfl rfl (by omega) (by omega) | exact k_loadI tbOk rfl rfl rfl rfl (by omega) | exact k_call KR rfl ⟨asA_agg (evO_spec rfl) ⟨cAr_r, cAr_r, trivial⟩, asA_r (evO_spec rfl), asA_own0H (evO_spec rfl) (lookHO_spec rfl) hxl.symm, asA_own0H (evO_spec rfl) (lookHO_spec rfl) rfl, trivial⟩) | ((first | refine' w_ey rfl rfl (lookO_spec rfl) ?xa ?xb ?xc ?xe ?_ | refine' v_ey rfl rfl (lookO_spec rfl) ?xa ?xb ?xc ?xe ?_); (case xa => exact e_callO KP rfl rfl ⟨asA_agg (evO_spec rfl) ⟨cAr_r, cAr_r, trivial⟩, asA_r (evO_spec rfl), trivial⟩); (case xb => rfl); (case xc => rfl); (case xe => rfl); try dsimp only [P0.d, Res.d, List.map_cons, List.map_nil, List.set_cons_zero, List.set_cons_succ, Nat.reduceAdd]) | ((first | refine aw_ways rfl ?_ ?_ | refine r_split rfl rfl rfl ?_ ?_) <;> intro hg_ <;> fail_if_success (exact Bool.noConfusion hg_)) <;> (try simp only [prn] at hg_) <;> (try first | contradiction | (exfalso; omega)))
      all_goals first
        | exact ret_tmp rfl (dres_bool rfl)
        | (exfalso; omega)
        | (exfalso; simp at hg_; omega)
        | trace_state
set_option maxRecDepth 100000 in
set_option maxHeartbeats 4000000 in
theorem law_costsF (nb : Bool) (code : List Int) (hB : Byte code) : Fn Tryd.prog 8 [.one (row nb 1 (bys code))] (.v (.one (bool true))) := by
  have hlb := bys_len code
  by_cases hl : code.length ≤ 1048576
  · exact f_lawCostsFrom nb code hB hl
  · refine fn_of (l := [.tmp 2]) Tryd.func8 (by kernel_rfl) rfl Tryd.ntmps8 rfl rfl ?_; simp only [argEnv, P0.d, Nat.reduceAdd]
    repeat' (first | (with_reducible first | refine aw_seq ?_ | refine thn_normal ?_ | refine thn_ret ?_ | refine thn_exit ?_ | refine blk_normal ?_ | refine blk_ret ?_ | refine blk_hit ?_ | refine blk_miss rfl ?_ | refine aw_block ?_ | refine aw_ret ?_ | refine aw_skip ?_ | refine aw_exit ?_ | refine w_nil ?_ | refine x_nil (by kernel_rfl) ?_) | refine aw_region ?_ | refine aw_region_draw (by kernel_rfl) ?_ | refine aw_yes rfl ?_ | refine aw_no rfl ?_ | ((with_reducible refine w_seq ?_); first | refine r_q tbOk rfl rfl rfl rfl ?_ | refine r_e tbOk rfl rfl rfl rfl rfl ?_ | refine r_yes tbOk rfl rfl rfl rfl rfl rfl ?_ | refine w_no rfl rfl (lookO_spec rfl) rfl rfl rfl ?_ | refine w_un rfl rfl (lookO_spec rfl) rfl rfl ?_) | ((with_reducible refine w_drw ?_); first | refine rx_q tbOk rfl rfl rfl rfl ?_ | refine rx_e tbOk rfl rfl rfl rfl rfl ?_ | refine rx_yes tbOk rfl rfl rfl rfl rfl rfl ?_ | refine x_no rfl rfl (lookO_spec rfl) rfl rfl rfl ?_ | refine x_un rfl rfl (lookO_spec rfl) rfl rfl ?_) | ((first | refine aw_ways rfl ?_ ?_ | refine r_split rfl rfl rfl ?_ ?_) <;> intro hg_ <;> fail_if_success (exact Bool.noConfusion hg_)) <;> (try simp only [prn] at hg_) <;> (try first | contradiction | (exfalso; omega)))
    all_goals first
      | exact ret_tmp rfl (dres_bool rfl)
      | (exfalso; omega)
      | trace_state
/-! ## LCostP -/
theorem k_loadE {P : Program} {tb : TB} {l : List (Nat × D)} {h : List (Nat × Ob)} {o : Oper} {T E : TypeId} {x : Operand} {k i : Nat} {new : Bool} {xs : List Int} {r : Int} (hr : xs.getD i 0 = r) (hT : TbOk P tb) (ho : o.op = .load T x) (hx : evO l x = some (.one (.ptr k i 1 0))) (hk : lookHO h k = some (.sl E 1 new (ints xs))) (hty : tyL tb.tys T = some (false, 1)) (hi : i < xs.length) :
    Loc P (lookH h) (evD (look l)) o (.one (.r new (int r))) := hr ▸ k_loadI hT ho hx hk hty hi
set_option maxRecDepth 100000 in
set_option maxHeartbeats 8000000 in
theorem f_lawCostPar (nb : Bool) (code : List Int) (hB : Byte code) (hl : code.length ≤ 1048576) : Fn Tryd.prog 7 [.one (row nb 1 (bys code))] (.v (.one (bool true))) := by
  obtain ⟨nE, m, es, s, ⟨e1, e2, e3, e4, e5, e6⟩, KD⟩ := f_drawCP nb code hB hl
  have hel : es.length ≤ 1048576 := by omega
  have KS := f_specCostParents m nE es s hel
  have hcl := bys_len code
  cases hv : (gOk m es && inR 0 (m - 1) s)
  · have KI := f_implCostParNo m nE es s hel hv
    have KC := f_implCostsNo m nE es s hel hv
    have hF : parF m es s = [] := by unfold parF; rw [hv]; rfl
    rw [hF] at KS
    have KE := f_sameInts2 true false [] (by simp)
    refine fn_of (l := [.tmp 2]) Tryd.func7 (by kernel_rfl) rfl Tryd.ntmps7 rfl rfl ?_; simp only [argEnv, P0.d, Nat.reduceAdd, graphP, List.map_cons, List.map_nil]
    repeat' (first | (with_reducible first | refine aw_seq ?_ | refine thn_normal ?_ | refine thn_ret ?_ | refine thn_exit ?_ | refine blk_normal ?_ | refine blk_ret ?_ | refine blk_hit ?_ | refine blk_miss rfl ?_ | refine aw_block ?_ | refine aw_ret ?_ | refine aw_skip ?_ | refine aw_exit ?_ | refine w_nil ?_ | refine x_nil (by kernel_rfl) ?_) | refine aw_region ?_ | refine aw_region_draw (by kernel_rfl) ?_ | refine aw_yes rfl ?_ | refine aw_no rfl ?_ | ((with_reducible refine w_seq ?_); first | refine r_q tbOk rfl rfl rfl rfl ?_ | refine r_e tbOk rfl rfl rfl rfl rfl ?_ | refine r_yes tbOk rfl rfl rfl rfl rfl rfl ?_ | refine w_no rfl rfl (lookO_spec rfl) rfl rfl rfl ?_ | refine w_un rfl rfl (lookO_spec rfl) rfl rfl ?_) | ((with_reducible refine w_drw ?_); first | refine rx_q tbOk rfl rfl rfl rfl ?_ | refine rx_e tbOk rfl rfl rfl rfl rfl ?_ | refine rx_yes tbOk rfl rfl rfl rfl rfl rfl ?_ | refine x_no rfl rfl (lookO_spec rfl) rfl rfl rfl ?_ | refine x_un rfl rfl (lookO_spec rfl) rfl rfl ?_) | ((first | refine' w_q rfl rfl ?xa rfl ?_ | refine' v_q rfl rfl ?xa rfl ?_ | refine' w_yes rfl rfl (lookO_spec rfl) rfl ?xa rfl ?_ | refine' v_yes rfl rfl (lookO_spec rfl) rfl ?xa rfl ?_); case xa => first | exact k_call KD rfl ⟨asA_r (evO_spec rfl), trivial⟩ | exact k_call KI rfl ⟨asA_agg (evO_spec rfl) ⟨cAr_r, cAr_r, trivial⟩, asA_r (evO_spec rfl), trivial⟩ | exact k_call KC rfl ⟨asA_agg (evO_spec rfl) ⟨cAr_r, cAr_r, trivial⟩, asA_r (evO_spec rfl), trivial⟩ | exact k_call KE rfl ⟨asA_r (evO_spec rfl), asA_own0H (evO_spec rfl) (lookHO_spec rfl) rfl, trivial⟩ | exact k_call f_alive2 rfl trivial) | ((first | refine' w_e rfl ?xa ?xb ?xc ?xe ?_ | refine' v_e rfl ?xa ?xb ?xc ?xe ?_); (case xa => exact e_callO KS rfl rfl ⟨asA_agg (evO_spec rfl) ⟨cAr_r, cAr_r, trivial⟩, asA_r (evO_spec rfl), trivial⟩); (case xb => rfl); (case xc => rfl); (case xe => rfl); try dsimp only [P0.d, Res.d, List.map_cons, List.map_nil, List.set_cons_zero, List.set_cons_succ, Nat.reduceAdd]) | ((first | refine aw_ways rfl ?_ ?_ | refine r_split rfl rfl rfl ?_ ?_) <;> intro hg_ <;> fail_if_success (exact Bool.noConfusion hg_)) <;> (try simp only [prn] at hg_) <;> (try first | contradiction | (exfalso; omega)))
    all_goals first
      | exact ret_tmp rfl (dres_bool rfl)
      | (exfalso; simp at hg_; done)
      | trace_state
  · have KI := f_implCostParents m nE es s hel hv
    have KC := f_implCostsFrom m nE es s hel hv
    have hgk : gOk m es = true := by cases h : gOk m es <;> simp_all
    have hR : inR 0 (m - 1) s = true := by cases h : inR 0 (m - 1) s <;> simp_all
    have hm := gOk_m hgk
    have hs : 0 ≤ s ∧ s < m := by unfold inR at hR; simp at hR; omega
    obtain ⟨M, rfl⟩ : ∃ M : Nat, m = (M : Int) := ⟨m.toNat, by omega⟩
    have hX : costsF M es s = costsN M es s M := by unfold costsF; rw [hgk, hR]; rfl
    obtain ⟨_, hpl, _, hps, hp1, hp2⟩ := costsOk_yes hgk hs
    have hL := costsN_len M es s M
    have hbd := costsF_bd hgk hs
    have KW := fun a b => f_implWeightOf M nE es a b (by simp only [maxLen]; omega)
    rw [hX] at KC
    clear hv hgk hR hX
    generalize parF M es s = ps at *
    generalize costsN M es s M = xs at *
    have KE := f_sameInts2 false false ps (by omega)
    have hxl : (ints xs).length = M := by rw [ints_len, hL]
    have hpi : (ints ps).length = M := by rw [ints_len, hpl]
    have hps' : ps.getD (0 + s.toNat) 0 = -1 := by rw [Nat.zero_add]; exact hps
    refine fn_of (l := [.tmp 2]) Tryd.func7 (by kernel_rfl) rfl Tryd.ntmps7 rfl rfl ?_; simp only [argEnv, P0.d, Nat.reduceAdd, graphP, List.map_cons, List.map_nil]
    repeat' (first | (with_reducible first | refine aw_seq ?_ | refine thn_normal ?_ | refine thn_ret ?_ | refine thn_exit ?_ | refine blk_normal ?_ | refine blk_ret ?_ | refine blk_hit ?_ | refine blk_miss rfl ?_ | refine aw_block ?_ | refine aw_ret ?_ | refine aw_skip ?_ | refine aw_exit ?_ | refine w_nil ?_ | refine x_nil (by kernel_rfl) ?_) | refine aw_region ?_ | refine aw_region_draw (by kernel_rfl) ?_ | refine aw_yes rfl ?_ | refine aw_no rfl ?_ | ((with_reducible refine w_seq ?_); first | refine r_q tbOk rfl rfl rfl rfl ?_ | refine r_e tbOk rfl rfl rfl rfl rfl ?_ | refine r_yes tbOk rfl rfl rfl rfl rfl rfl ?_ | refine w_no rfl rfl (lookO_spec rfl) rfl rfl rfl ?_ | refine w_un rfl rfl (lookO_spec rfl) rfl rfl ?_) | ((with_reducible refine w_drw ?_); first | refine rx_q tbOk rfl rfl rfl rfl ?_ | refine rx_e tbOk rfl rfl rfl rfl rfl ?_ | refine rx_yes tbOk rfl rfl rfl rfl rfl rfl ?_ | refine x_no rfl rfl (lookO_spec rfl) rfl rfl rfl ?_ | refine x_un rfl rfl (lookO_spec rfl) rfl rfl ?_) | ((first | refine' w_q rfl rfl ?xa rfl ?_ | refine' v_q rfl rfl ?xa rfl ?_ | refine' w_yes rfl rfl (lookO_spec rfl) rfl ?xa rfl ?_ | refine' v_yes rfl rfl (lookO_spec rfl) rfl ?xa rfl ?_); case xa => first | exact k_call KD rfl ⟨asA_r (evO_spec rfl), trivial⟩ | exact k_call KE rfl ⟨asA_own0H (evO_spec rfl) (lookHO_spec rfl) rfl, asA_own0H (evO_spec rfl) (lookHO_spec rfl) rfl, trivial⟩ | exact k_call f_alive2 rfl trivial) | ((first | refine' w_e rfl ?xa ?xb ?xc ?xe ?_ | refine' v_e rfl ?xa ?xb ?xc ?xe ?_); (case xa => first | exact e_callO KI rfl rfl ⟨asA_agg (evO_spec rfl) ⟨cAr_r, cAr_r, trivial⟩, asA_r (evO_spec rfl), trivial⟩ | exact e_callO KS rfl rfl ⟨asA_agg (evO_spec rfl) ⟨cAr_r, cAr_r, trivial⟩, asA_r (evO_spec rfl), trivial⟩ | exact e_callO KC rfl rfl ⟨asA_agg (evO_spec rfl) ⟨cAr_r, cAr_r, trivial⟩, asA_r (evO_spec rfl), trivial⟩); (case xb => rfl); (case xc => rfl); (case xe => rfl); try dsimp only [P0.d, Res.d, List.map_cons, List.map_nil, List.set_cons_zero, List.set_cons_succ, Nat.reduceAdd]) | ((first | refine aw_ways rfl ?_ ?_ | refine r_split rfl rfl rfl ?_ ?_) <;> intro hg_ <;> fail_if_success (exact Bool.noConfusion hg_)) <;> (try simp only [prn] at hg_) <;> (try first | contradiction | (exfalso; omega)))
    all_goals try (exfalso; omega)
    refine aw_loopI (fun k : Nat => k ≤ M) (fun k => mkS 114 [(7, .one (.r true (int k))), (6, .one (.own 101 0 M 1)), (5, .one (.own 100 0 M 1)), (4, .one (.r true (int s))), (3, .one (.ptr 3 0 0 0))] [(101, .sl 3 1 true (ints xs)), (100, .sl 3 1 true (ints ps)), (3, .var 48 [.r true (int M), .r true (row nE 3 (edges es))])]) (fun k => M - k) 0 (Nat.zero_le _) (by (refine weak_ren [(100, 18), (101, 27)] rfl ?_ ?_ <;> repeat' (first | exact trivial | refine subR_cons rfl ?_ ?_ | refine subHR_cons rfl ?_ ?_ | rfl | (refine d_int ?_; (first | rfl | omega | (rw [IntWalk.i64_in _ (by omega)] <;> omega) | (simp; done) | (simp; omega))) | (refine d_bool ?_; (first | (simp_all; done) | (rw [Bool.eq_iff_iff]; simp_all; done) | (rw [Bool.eq_iff_iff]; simp_all; omega) | (rw [Bool.eq_iff_iff]; simp; omega))) | exact d_own hxl | exact d_own hpi))) ?_
    intro k hk
    clear KD KI KS KC KE
    by_cases hlt : k < M
    · have h1 := hp1 (k : Int) (by omega) (by omega)
      have h2 := hp2 (k : Int) (by omega) (by omega)
      have hwk : IntKind.i64.wrap ((k : Int) + 1) = ((k + 1 : Nat) : Int) := by rw [IntWalk.i64_in _ (by omega)]; omega
      have hpe : ∀ v : Int, dV ps v = ps.getD (0 + v.toNat) 0 := fun v => by rw [Nat.zero_add]; rfl
      have hxe : ∀ v : Int, dV xs v = xs.getD (0 + v.toNat) 0 := fun v => by rw [Nat.zero_add]; rfl
      have KWk := KW (ps.getD (0 + ((k : Nat) : Int).toNat) 0) (k : Int)
      have hbp : 0 ≤ ps.getD (0 + ((k : Nat) : Int).toNat) 0 → ps.getD (0 + ((k : Nat) : Int).toNat) 0 < (M : Int) → xs.getD (0 + (ps.getD (0 + ((k : Nat) : Int).toNat) 0).toNat) 0 ≤ 12800 ∧ -1 ≤ xs.getD (0 + (ps.getD (0 + ((k : Nat) : Int).toNat) 0).toNat) 0 := fun a b => by
        have := hbd _ a b
        rw [← val_at] at this
        exact ⟨this.2, this.1⟩
      simp only [hpe, hxe] at h1 h2
      clear hp1 hp2 hbd KW hpe hxe hps hps'
      generalize wOf M es (ps.getD (0 + ((k : Nat) : Int).toNat) 0) (k : Int) = W at *
      generalize hPe : ps.getD (0 + ((k : Nat) : Int).toNat) 0 = P at *
      by_cases hP : P = -1
      · have h1 := h1 hP
        clear h2 hbp
        repeat' (first | (with_reducible first | refine aw_seq ?_ | refine thn_normal ?_ | refine thn_ret ?_ | refine thn_exit ?_ | refine blk_normal ?_ | refine blk_ret ?_ | refine blk_hit ?_ | refine blk_miss rfl ?_ | refine aw_block ?_ | refine aw_ret ?_ | refine aw_skip ?_ | refine aw_exit ?_ | refine w_nil ?_ | refine x_nil (by kernel_rfl) ?_) | refine aw_region ?_ | refine aw_region_draw (by kernel_rfl) ?_ | refine aw_yes rfl ?_ | refine aw_no rfl ?_ | ((with_reducible refine w_seq ?_); first | refine r_q tbOk rfl rfl rfl rfl ?_ | refine r_e tbOk rfl rfl rfl rfl rfl ?_ | refine r_yes tbOk rfl rfl rfl rfl rfl rfl ?_ | refine w_no rfl rfl (lookO_spec rfl) rfl rfl rfl ?_ | refine w_un rfl rfl (lookO_spec rfl) rfl rfl ?_) | ((with_reducible refine w_drw ?_); first | refine rx_q tbOk rfl rfl rfl rfl ?_ | refine rx_e tbOk rfl rfl rfl rfl rfl ?_ | refine rx_yes tbOk rfl rfl rfl rfl rfl rfl ?_ | refine x_no rfl rfl (lookO_spec rfl) rfl rfl rfl ?_ | refine x_un rfl rfl (lookO_spec rfl) rfl rfl ?_) | ((first | refine' w_q rfl rfl ?xa rfl ?_ | refine' v_q rfl rfl ?xa rfl ?_ | refine' w_yes rfl rfl (lookO_spec rfl) rfl ?xa rfl ?_ | refine' v_yes rfl rfl (lookO_spec rfl) rfl ?xa rfl ?_); case xa => first | exact k_indexO tbOk rfl rfl rfl rfl (by omega) (by omega) | exact k_loadE hPe tbOk rfl rfl rfl rfl (by omega) | exact k_loadI tbOk rfl rfl rfl rfl (by omega) | exact k_call KWk rfl ⟨asA_agg (evO_spec rfl) ⟨cAr_r, cAr_r, trivial⟩, asA_r (evO_spec rfl), asA_r (evO_spec rfl), trivial⟩) | ((first | refine aw_ways rfl ?_ ?_ | refine r_split rfl rfl rfl ?_ ?_) <;> intro hg_ <;> fail_if_success (exact Bool.noConfusion hg_)) <;> (try simp only [prn] at hg_) <;> (try first | contradiction | (exfalso; omega)))
        all_goals first
          | (exfalso; omega)
          | exact ⟨k + 1, by omega, by (refine weak_ren [] rfl ?_ ?_ <;> repeat' (first | exact trivial | refine subR_cons rfl ?_ ?_ | refine subHR_cons rfl ?_ ?_ | rfl | (refine d_int ?_; (first | rfl | omega | (rw [IntWalk.i64_in _ (by omega)] <;> omega) | (simp; done) | (simp; omega))) | (refine d_bool ?_; (first | (simp_all; done) | (rw [Bool.eq_iff_iff]; simp_all; done) | (rw [Bool.eq_iff_iff]; simp_all; omega) | (rw [Bool.eq_iff_iff]; simp; omega))) | exact d_int hwk)), by omega⟩
          | (exfalso; simp at hg_; omega)
          | trace_state
      · have h2 := h2 hP
        have hbp := hbp h2.1.1 h2.1.2
        have hw : IntKind.i64.wrap (xs.getD (0 + P.toNat) 0 + W) = xs.getD (0 + P.toNat) 0 + W := IntWalk.i64_in _ (by omega)
        clear h1
        repeat' (first | (with_reducible first | refine aw_seq ?_ | refine thn_normal ?_ | refine thn_ret ?_ | refine thn_exit ?_ | refine blk_normal ?_ | refine blk_ret ?_ | refine blk_hit ?_ | refine blk_miss rfl ?_ | refine aw_block ?_ | refine aw_ret ?_ | refine aw_skip ?_ | refine aw_exit ?_ | refine w_nil ?_ | refine x_nil (by kernel_rfl) ?_) | refine aw_region ?_ | refine aw_region_draw (by kernel_rfl) ?_ | refine aw_yes rfl ?_ | refine aw_no rfl ?_ | ((with_reducible refine w_seq ?_); first | refine r_q tbOk rfl rfl rfl rfl ?_ | refine r_e tbOk rfl rfl rfl rfl rfl ?_ | refine r_yes tbOk rfl rfl rfl rfl rfl rfl ?_ | refine w_no rfl rfl (lookO_spec rfl) rfl rfl rfl ?_ | refine w_un rfl rfl (lookO_spec rfl) rfl rfl ?_) | ((with_reducible refine w_drw ?_); first | refine rx_q tbOk rfl rfl rfl rfl ?_ | refine rx_e tbOk rfl rfl rfl rfl rfl ?_ | refine rx_yes tbOk rfl rfl rfl rfl rfl rfl ?_ | refine x_no rfl rfl (lookO_spec rfl) rfl rfl rfl ?_ | refine x_un rfl rfl (lookO_spec rfl) rfl rfl ?_) | ((first | refine' w_q rfl rfl ?xa rfl ?_ | refine' v_q rfl rfl ?xa rfl ?_ | refine' w_yes rfl rfl (lookO_spec rfl) rfl ?xa rfl ?_ | refine' v_yes rfl rfl (lookO_spec rfl) rfl ?xa rfl ?_); case xa => first | exact k_indexO tbOk rfl rfl rfl rfl (by omega) (by omega) | exact k_loadE hPe tbOk rfl rfl rfl rfl (by omega) | exact k_loadI tbOk rfl rfl rfl rfl (by omega) | exact k_call KWk rfl ⟨asA_agg (evO_spec rfl) ⟨cAr_r, cAr_r, trivial⟩, asA_r (evO_spec rfl), asA_r (evO_spec rfl), trivial⟩) | ((first | refine aw_ways rfl ?_ ?_ | refine r_split rfl rfl rfl ?_ ?_) <;> intro hg_ <;> fail_if_success (exact Bool.noConfusion hg_)) <;> (try simp only [prn] at hg_) <;> (try first | contradiction | (exfalso; omega)))
        all_goals first
          | (exfalso; omega)
          | exact ⟨k + 1, by omega, by (refine weak_ren [] rfl ?_ ?_ <;> repeat' (first | exact trivial | refine subR_cons rfl ?_ ?_ | refine subHR_cons rfl ?_ ?_ | rfl | (refine d_int ?_; (first | rfl | omega | (rw [IntWalk.i64_in _ (by omega)] <;> omega) | (simp; done) | (simp; omega))) | (refine d_bool ?_; (first | (simp_all; done) | (rw [Bool.eq_iff_iff]; simp_all; done) | (rw [Bool.eq_iff_iff]; simp_all; omega) | (rw [Bool.eq_iff_iff]; simp; omega))) | exact d_int hwk)), by omega⟩
          | (exfalso; simp at hg_; omega)
          | trace_state
    · obtain rfl : k = M := by omega
      repeat' (first | (with_reducible first | refine aw_seq ?_ | refine thn_normal ?_ | refine thn_ret ?_ | refine thn_exit ?_ | refine blk_normal ?_ | refine blk_ret ?_ | refine blk_hit ?_ | refine blk_miss rfl ?_ | refine aw_block ?_ | refine aw_ret ?_ | refine aw_skip ?_ | refine aw_exit ?_ | refine w_nil ?_ | refine x_nil (by kernel_rfl) ?_) | refine aw_region ?_ | refine aw_region_draw (by kernel_rfl) ?_ | refine aw_yes rfl ?_ | refine aw_no rfl ?_ | ((with_reducible refine w_seq ?_); first | refine r_q tbOk rfl rfl rfl rfl ?_ | refine r_e tbOk rfl rfl rfl rfl rfl ?_ | refine r_yes tbOk rfl rfl rfl rfl rfl rfl ?_ | refine w_no rfl rfl (lookO_spec rfl) rfl rfl rfl ?_ | refine w_un rfl rfl (lookO_spec rfl) rfl rfl ?_) | ((with_reducible refine w_drw ?_); first | refine rx_q tbOk rfl rfl rfl rfl ?_ | refine rx_e tbOk rfl rfl rfl rfl rfl ?_ | refine rx_yes tbOk rfl rfl rfl rfl rfl rfl ?_ | refine x_no rfl rfl (lookO_spec rfl) rfl rfl rfl ?_ | refine x_un rfl rfl (lookO_spec rfl) rfl rfl ?_) | ((first | refine' w_q rfl rfl ?xa rfl ?_ | refine' v_q rfl rfl ?xa rfl ?_ | refine' w_yes rfl rfl (lookO_spec rfl) rfl ?xa rfl ?_ | refine' v_yes rfl rfl (lookO_spec rfl) rfl ?xa rfl ?_); case xa => first | exact k_indexO tbOk rfl rfl rfl rfl (by omega) (by omega) | exact k_loadI tbOk rfl rfl rfl rfl (by omega)) | ((first | refine aw_ways rfl ?_ ?_ | refine r_split rfl rfl rfl ?_ ?_) <;> intro hg_ <;> fail_if_success (exact Bool.noConfusion hg_)) <;> (try simp only [prn] at hg_) <;> (try first | contradiction | (exfalso; omega)))
      all_goals first
        | exact ret_tmp rfl (dres_bool (by rw [hps']; rfl))
        | (exfalso; omega)
        | trace_state
set_option maxRecDepth 100000 in
set_option maxHeartbeats 4000000 in
theorem law_costPar (nb : Bool) (code : List Int) (hB : Byte code) : Fn Tryd.prog 7 [.one (row nb 1 (bys code))] (.v (.one (bool true))) := by
  have hlb := bys_len code
  by_cases hl : code.length ≤ 1048576
  · exact f_lawCostPar nb code hB hl
  · refine fn_of (l := [.tmp 2]) Tryd.func7 (by kernel_rfl) rfl Tryd.ntmps7 rfl rfl ?_; simp only [argEnv, P0.d, Nat.reduceAdd]
    repeat' (first | (with_reducible first | refine aw_seq ?_ | refine thn_normal ?_ | refine thn_ret ?_ | refine thn_exit ?_ | refine blk_normal ?_ | refine blk_ret ?_ | refine blk_hit ?_ | refine blk_miss rfl ?_ | refine aw_block ?_ | refine aw_ret ?_ | refine aw_skip ?_ | refine aw_exit ?_ | refine w_nil ?_ | refine x_nil (by kernel_rfl) ?_) | refine aw_region ?_ | refine aw_region_draw (by kernel_rfl) ?_ | refine aw_yes rfl ?_ | refine aw_no rfl ?_ | ((with_reducible refine w_seq ?_); first | refine r_q tbOk rfl rfl rfl rfl ?_ | refine r_e tbOk rfl rfl rfl rfl rfl ?_ | refine r_yes tbOk rfl rfl rfl rfl rfl rfl ?_ | refine w_no rfl rfl (lookO_spec rfl) rfl rfl rfl ?_ | refine w_un rfl rfl (lookO_spec rfl) rfl rfl ?_) | ((with_reducible refine w_drw ?_); first | refine rx_q tbOk rfl rfl rfl rfl ?_ | refine rx_e tbOk rfl rfl rfl rfl rfl ?_ | refine rx_yes tbOk rfl rfl rfl rfl rfl rfl ?_ | refine x_no rfl rfl (lookO_spec rfl) rfl rfl rfl ?_ | refine x_un rfl rfl (lookO_spec rfl) rfl rfl ?_) | ((first | refine aw_ways rfl ?_ ?_ | refine r_split rfl rfl rfl ?_ ?_) <;> intro hg_ <;> fail_if_success (exact Bool.noConfusion hg_)) <;> (try simp only [prn] at hg_) <;> (try first | contradiction | (exfalso; omega)))
    all_goals first
      | exact ret_tmp rfl (dres_bool rfl)
      | (exfalso; omega)
      | trace_state
end Go.Proofs.YthjnidcmhegoeaaDoor.Abs
