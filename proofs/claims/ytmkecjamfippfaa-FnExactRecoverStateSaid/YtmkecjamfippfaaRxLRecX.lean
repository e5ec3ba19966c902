/- FnExactRecoverState by states: the law's walk. -/
import Derived.Lib.Hide
import Derived.Test.YtmkecjamfippfaaRxTy
import Derived.Test.YtmkecjamfippfaaRxAExS
import Derived.Test.YtmkecjamfippfaaRxARecs
set_option linter.unusedSimpArgs false
set_option linter.unusedVariables false
namespace Go.Proofs.Ytmkecjamfippfaa.Abs
open Go.RowKit
open R (val row ref)
theorem scanF_cntR {xs : List Int} (hx : bytesOk xs = true) : (scanF xs).1.length ≤ 2001 := by
  have hs := scan_its (xs := xs) xs.length 0 (by omega) (Nat.zero_le _)
  rw [List.drop_zero] at hs
  have h2 := itsF_len xs (xs.length + 1 - 0) 0
  have h3 := bytesOk_len hx
  rw [hs.1, List.length_map]; unfold itsA; omega
theorem recL_len {xs ys : List Int} (h : diskOk xs ys = true) : (recL xs).length ≤ 1048576 ∧ ∀ b ∈ recL xs, b.length ≤ 1048576 := by
  obtain ⟨_, _, _, hb⟩ := diskOk_app h
  have ht : bytesOk (xs.take (scanF xs).2 ++ []) = true := by rw [List.append_nil]; exact bytesOk_take hb
  have h1 := scanF_cntR ht
  have h2 := (scanF_inv _ _ (Nat.le_refl _) ht).1
  refine ⟨by unfold recL; omega, fun b hb' => ?_⟩
  have := h2 b hb'
  unfold bodyOk at this
  simp only [Bool.and_eq_true, decide_eq_true_eq] at this
  omega
set_option maxRecDepth 100000 in
set_option maxHeartbeats 4000000 in
theorem f_specRecoverBad (m : Int) (nil n1 n2 : Bool) (es : List E3) (xs ys : List Int) (hl : es.length ≤ 1048576) (h1 : xs.length ≤ 1048576) (h2 : ys.length ≤ 1048576) (hv : (gOk m es && diskOk xs ys) = false) :
    Fn Try.prog 18 [graphP m nil es, diskP n1 xs n2 ys] (.v (stateP 0 true [] true [] true [])) := by
  have K1 := f_ownGraph m nil es hl
  have K2 := f_ownDisk n1 n2 xs ys h1 h2
  have K3 := f_specGraphValid m false es (by simp only [maxLen]; omega)
  have K4 := f_specDiskValid false false xs ys h1 h2
  cases hg : gOk m es
  all_goals
    rw [hg] at K3 hv
    try rw [Bool.true_and] at hv
    try rw [hv] at K4
    refine fn_of (l := [.cell 4 28]) Try.func18 (by kernel_rfl) rfl Try.ntmps18 rfl rfl ?_; simp only [argEnv, P0.d, Nat.reduceAdd, diskP, graphP, List.map_cons, List.map_nil]
    repeat' (first|(with_reducible first|refine aw_seq ?_|refine thn_normal ?_|refine thn_ret ?_|refine thn_exit ?_|refine blk_normal ?_|refine blk_ret ?_|refine blk_hit ?_|refine blk_miss rfl ?_|refine aw_block ?_|refine aw_ret ?_|refine aw_skip ?_|refine aw_exit ?_|refine w_nil ?_|refine x_nil (by kernel_rfl) ?_)|refine aw_region ?_|refine aw_region_draw (by kernel_rfl) ?_|refine aw_yes rfl ?_|refine aw_no rfl ?_|((with_reducible refine w_seq ?_);first|refine r_q tbOk rfl rfl rfl rfl ?_|refine r_e tbOk rfl rfl rfl rfl rfl ?_|refine r_yes tbOk rfl rfl rfl rfl rfl rfl ?_|refine w_no rfl rfl (lookO_spec rfl) rfl rfl rfl ?_|refine w_un rfl rfl (lookO_spec rfl) rfl rfl ?_)|((with_reducible refine w_drw ?_);first|refine rx_q tbOk rfl rfl rfl rfl ?_|refine rx_e tbOk rfl rfl rfl rfl rfl ?_|refine rx_yes tbOk rfl rfl rfl rfl rfl rfl ?_|refine x_no rfl rfl (lookO_spec rfl) rfl rfl rfl ?_|refine x_un rfl rfl (lookO_spec rfl) rfl rfl ?_)|((first|refine' w_q rfl rfl ?xa rfl ?_|refine' v_q rfl rfl ?xa rfl ?_|refine' w_yes rfl rfl (lookO_spec rfl) rfl ?xa rfl ?_|refine' v_yes rfl rfl (lookO_spec rfl) rfl ?xa rfl ?_);case xa => first|exact k_call K1 rfl ⟨asA_agg (evO_spec rfl) ⟨cAr_r, cAr_r, trivial⟩, trivial⟩|exact k_call K2 rfl ⟨asA_agg (evO_spec rfl) ⟨cAr_r, cAr_r, trivial⟩, trivial⟩|exact k_call K3 rfl ⟨asA_agg (evO_spec rfl) ⟨cAr_r, cAr_r, trivial⟩, trivial⟩|exact k_call K4 rfl ⟨asA_agg (evO_spec rfl) ⟨cAr_r, cAr_r, trivial⟩, trivial⟩)|((first|refine aw_ways rfl ?_ ?_|refine r_split rfl rfl rfl ?_ ?_) <;> intro hg_ <;> fail_if_success (exact Bool.noConfusion hg_)) <;> (try simp only [prn] at hg_) <;> (try first|contradiction|(exfalso;omega)))
    all_goals first
      | exact ret_v (rv_cell rfl rfl (by (with_reducible first|exact ty3|exact ty4|exact ty5|exact ty9|exact ty17|exact ty19|exact ty22|exact ty24|exact ty25|exact ty26|exact ty28|exact ty36|exact ty38|exact ty40|exact ty44|exact ty46|exact ty48|exact ty55|exact ty81|exact ty84|exact ty89|exact ty95|exact ty98|exact ty105|exact ty118|exact ty122|exact ty132|exact ty134|exact ty137|exact ty143|exact ty153|exact ty155|exact ty156|exact ty161)) rfl rfl rfl (dres_agg (by exact ⟨cres_val, cres_nil, cres_nil, cres_nil, trivial⟩)))
      | (exfalso; simp at hg_; done)
      | trace_state
set_option maxRecDepth 100000 in
set_option maxHeartbeats 4000000 in
theorem f_implRecoverBad (m : Int) (nil n1 n2 : Bool) (es : List E3) (xs ys : List Int) (hl : es.length ≤ 1048576) (h1 : xs.length ≤ 1048576) (h2 : ys.length ≤ 1048576) (hv : (gOk m es && diskOk xs ys) = false) :
    FnS Try.prog 21 [.agg [.r false (int m), .r false (row nil 3 (edges es))], .agg [.r false (row n1 1 (ints xs)), .r false (row n2 1 (ints ys))]] [] (.agg [.r true (int 0), Zc, Zc, Zc]) [] := by
  have K3 := f_implGraphValid m nil es (by simp only [maxLen]; omega)
  have K4 := f_implDiskValid n1 n2 xs ys h1 h2
  cases hg : gOk m es
  all_goals
    rw [hg] at K3 hv
    try rw [Bool.true_and] at hv
    try rw [hv] at K4
    refine fnS_of (l := [.cell 4 28]) Try.func21 (by kernel_rfl) rfl Try.ntmps21 rfl rfl ?_; simp only [dEnv, Nat.reduceAdd]
    repeat' (first|(with_reducible first|refine aw_seq ?_|refine thn_normal ?_|refine thn_ret ?_|refine thn_exit ?_|refine blk_normal ?_|refine blk_ret ?_|refine blk_hit ?_|refine blk_miss rfl ?_|refine aw_block ?_|refine aw_ret ?_|refine aw_skip ?_|refine aw_exit ?_|refine w_nil ?_|refine x_nil (by kernel_rfl) ?_)|refine aw_region ?_|refine aw_region_draw (by kernel_rfl) ?_|refine aw_yes rfl ?_|refine aw_no rfl ?_|((with_reducible refine w_seq ?_);first|refine r_q tbOk rfl rfl rfl rfl ?_|refine r_e tbOk rfl rfl rfl rfl rfl ?_|refine r_yes tbOk rfl rfl rfl rfl rfl rfl ?_|refine w_no rfl rfl (lookO_spec rfl) rfl rfl rfl ?_|refine w_un rfl rfl (lookO_spec rfl) rfl rfl ?_)|((with_reducible refine w_drw ?_);first|refine rx_q tbOk rfl rfl rfl rfl ?_|refine rx_e tbOk rfl rfl rfl rfl rfl ?_|refine rx_yes tbOk rfl rfl rfl rfl rfl rfl ?_|refine x_no rfl rfl (lookO_spec rfl) rfl rfl rfl ?_|refine x_un rfl rfl (lookO_spec rfl) rfl rfl ?_)|((first|refine' w_q rfl rfl ?xa rfl ?_|refine' v_q rfl rfl ?xa rfl ?_|refine' w_yes rfl rfl (lookO_spec rfl) rfl ?xa rfl ?_|refine' v_yes rfl rfl (lookO_spec rfl) rfl ?xa rfl ?_);case xa => first|exact k_call K3 rfl ⟨asA_agg (evO_spec rfl) ⟨cAr_r, cAr_r, trivial⟩, trivial⟩|exact k_call K4 rfl ⟨asA_agg (evO_spec rfl) ⟨cAr_r, cAr_r, trivial⟩, trivial⟩)|((first|refine aw_ways rfl ?_ ?_|refine r_split rfl rfl rfl ?_ ?_) <;> intro hg_ <;> fail_if_success (exact Bool.noConfusion hg_)) <;> (try simp only [prn] at hg_) <;> (try first|contradiction|(exfalso;omega)))
    all_goals first
      | exact ret_D [] rfl (by (repeat' (first|exact trivial|refine subHR_cons rfl ?_ ?_|rfl))) (retD_cell rfl rfl (by (with_reducible first|exact ty3|exact ty4|exact ty5|exact ty9|exact ty17|exact ty19|exact ty22|exact ty24|exact ty25|exact ty26|exact ty28|exact ty36|exact ty38|exact ty40|exact ty44|exact ty46|exact ty48|exact ty55|exact ty81|exact ty84|exact ty89|exact ty95|exact ty98|exact ty105|exact ty118|exact ty122|exact ty132|exact ty134|exact ty137|exact ty143|exact ty153|exact ty155|exact ty156|exact ty161)) rfl rfl rfl (imp_refl rfl))
      | (exfalso; simp at hg_; done)
      | trace_state
theorem f_heldStOZ (r : Int) (nv ng nm : Bool) (k : Int) (a b : Nat) (h0 : 0 ≤ k) (hk : k ≤ 10000000) (h1 : a ≤ 1048576) (h2 : b ≤ 1048576) :
    Fn Try.prog 15 [stateP r nv (upF k a) ng (upB (k + a) b) nm [], iP k] (.v (iP (k + a + b))) := by
  have K := f_heldState r nv ng nm k a b 0 h0 hk h1 h2 (by omega)
  rw [show k + (a : Int) + (b : Int) + 3 * ((0 : Nat) : Int) = k + a + b by omega] at K
  exact K
theorem f_heldStZZ (r : Int) (nv ng nm : Bool) (k : Int) (h0 : 0 ≤ k) (hk : k ≤ 10000000) :
    Fn Try.prog 15 [stateP r nv [] ng [] nm [], iP k] (.v (iP k)) := by
  have K := f_heldStOZ r nv ng nm k 0 0 h0 hk (by omega) (by omega)
  rw [show k + ((0 : Nat) : Int) + ((0 : Nat) : Int) = k by omega] at K
  exact K
set_option maxRecDepth 100000 in
set_option maxHeartbeats 16000000 in
theorem f_lawRecXZZ (m : Int) (nil n1 n2 : Bool) (es : List E3) (xs ys : List Int) (hz : es.length + xs.length + ys.length ≤ 1048576) (r : Int) (nv ng nm : Bool)
    (KS : Fn Try.prog 18 [graphP m false es, diskP false xs false ys] (.v (stateP r nv [] ng [] nm [])))
    (KI : FnS Try.prog 21 [.agg [.r false (int m), .r false (row false 3 (edges es))], .agg [.r false (row false 1 (ints xs)), .r false (row false 1 (ints ys))]] [] (.agg [.r true (int r), Zc, Zc, Zc]) []) :
    Fn Try.prog 4 [graphP m nil es, diskP n1 xs n2 ys] (.v (.one (bool true))) := by
  have KZ := f_szGraph m nil es 1048576 (by omega) (by omega) (by omega)
  rw [if_neg (by omega)] at KZ
  have KZ2 := f_szDisk n1 n2 xs ys (1048576 - es.length) (by omega) (by omega) (by omega) (by omega)
  rw [show szD (1048576 - (es.length : Int)) xs.length ys.length = 1048576 - es.length - xs.length - ys.length by unfold szD szL; rw [if_neg (by omega), if_neg (by omega)]] at KZ2
  have hlen := edges_len es
  have hlx := ints_len xs
  have hly := ints_len ys
  have KT := f_toGraph m nil es (by omega)
  have KTO := f_toGraphO m nil es (by omega)
  have KTd := f_toDisk n1 n2 xs ys (by omega) (by omega)
  have KTDO := f_toDiskO n1 n2 xs ys (by omega) (by omega)
  have KQG := f_eqGraph m false false es (by omega)
  have KQD := f_eqDisk false false false false xs ys (by omega) (by omega)
  have KMG := f_markGraph true m es 1 (by omega) (by omega) (by omega)
  have KMD := f_markDisk xs ys (1 + 3 * es.length) (by omega) (by omega) (by omega) (by omega)
  have KQS := f_eqState r true true true nv ng nm [] [] [] (by simp) (by simp) (by simp)
  have KMS := f_markStZZ r 1 true true true
  have KH := f_heldStZZ r true true true 1 (by omega) (by omega)
  refine fn_of (l := [.tmp 4]) Try.func4 (by kernel_rfl) rfl Try.ntmps4 rfl rfl ?_; simp only [argEnv, P0.d, Nat.reduceAdd, graphP, diskP, List.map_cons, List.map_nil]
  repeat' (first|(with_reducible first|refine aw_seq ?_|refine thn_normal ?_|refine thn_ret ?_|refine thn_exit ?_|refine blk_normal ?_|refine blk_ret ?_|refine blk_hit ?_|refine blk_miss rfl ?_|refine aw_block ?_|refine aw_ret ?_|refine aw_skip ?_|refine aw_exit ?_|refine w_nil ?_|refine x_nil (by kernel_rfl) ?_)|refine aw_region ?_|refine aw_region_draw (by kernel_rfl) ?_|refine aw_yes rfl ?_|refine aw_no rfl ?_|((with_reducible refine w_seq ?_);first|refine r_q tbOk rfl rfl rfl rfl ?_|refine r_e tbOk rfl rfl rfl rfl rfl ?_|refine r_yes tbOk rfl rfl rfl rfl rfl rfl ?_|refine w_no rfl rfl (lookO_spec rfl) rfl rfl rfl ?_|refine w_un rfl rfl (lookO_spec rfl) rfl rfl ?_)|((with_reducible refine w_drw ?_);first|refine rx_q tbOk rfl rfl rfl rfl ?_|refine rx_e tbOk rfl rfl rfl rfl rfl ?_|refine rx_yes tbOk rfl rfl rfl rfl rfl rfl ?_|refine x_no rfl rfl (lookO_spec rfl) rfl rfl rfl ?_|refine x_un rfl rfl (lookO_spec rfl) rfl rfl ?_)|((first|refine' w_q rfl rfl ?xa rfl ?_|refine' v_q rfl rfl ?xa rfl ?_|refine' w_yes rfl rfl (lookO_spec rfl) rfl ?xa rfl ?_|refine' v_yes rfl rfl (lookO_spec rfl) rfl ?xa rfl ?_);case xa => first|exact k_call KZ rfl ⟨asA_agg (evO_spec rfl) ⟨cAr_r, cAr_r, trivial⟩, asA_r (evO_spec rfl), trivial⟩|exact k_call KZ2 rfl ⟨asA_agg (evO_spec rfl) ⟨cAr_r, cAr_r, trivial⟩, asA_r (evO_spec rfl), trivial⟩|exact k_at 25 rfl (k_call KT rfl ⟨asA_agg (evO_spec rfl) ⟨cAr_r, cAr_r, trivial⟩, trivial⟩)|exact k_at 42 rfl (k_call KT rfl ⟨asA_agg (evO_spec rfl) ⟨cAr_r, cAr_r, trivial⟩, trivial⟩)|exact k_at 76 rfl (k_call KT rfl ⟨asA_agg (evO_spec rfl) ⟨cAr_r, cAr_r, trivial⟩, trivial⟩)|exact k_at 27 rfl (k_call KTd rfl ⟨asA_agg (evO_spec rfl) ⟨cAr_r, cAr_r, trivial⟩, trivial⟩)|exact k_at 47 rfl (k_call KTd rfl ⟨asA_agg (evO_spec rfl) ⟨cAr_r, cAr_r, trivial⟩, trivial⟩)|exact k_at 78 rfl (k_call KTd rfl ⟨asA_agg (evO_spec rfl) ⟨cAr_r, cAr_r, trivial⟩, trivial⟩)|exact k_at 28 rfl (k_call KS rfl ⟨asA_agg (evO_spec rfl) ⟨cAr_r, cAr_r, trivial⟩, asA_agg (evO_spec rfl) ⟨cAr_r, cAr_r, trivial⟩, trivial⟩)|exact k_call KMS rfl ⟨asA_agg (evO_spec rfl) ⟨cAr_r, cAr_nil, cAr_nil, cAr_nil, trivial⟩, asA_r (evO_spec rfl), trivial⟩|exact k_call KH rfl ⟨asA_agg (evO_spec rfl) ⟨cAr_r, cAr_nil, cAr_nil, cAr_nil, trivial⟩, asA_r (evO_spec rfl), trivial⟩|exact k_call KQS rfl ⟨asA_agg (evO_spec rfl) ⟨cAr_r, cAr_nil, cAr_nil, cAr_nil, trivial⟩, asA_agg (evO_spec rfl) ⟨cAr_r, cAr_r, cAr_r, cAr_r, trivial⟩, trivial⟩|exact k_call KQG rfl ⟨asA_agg (evO_spec rfl) ⟨cAr_r, cAr_own0 (lookHO_spec rfl) hlen.symm, trivial⟩, asA_agg (evO_spec rfl) ⟨cAr_r, cAr_r, trivial⟩, trivial⟩|exact k_call KQD rfl ⟨asA_agg (evO_spec rfl) ⟨cAr_own0 (lookHO_spec rfl) hlx.symm, cAr_own0 (lookHO_spec rfl) hly.symm, trivial⟩, asA_agg (evO_spec rfl) ⟨cAr_r, cAr_r, trivial⟩, trivial⟩|exact k_neB bo4 rfl rfl rfl)|((first|refine' w_e rfl ?xa ?xb ?xc ?xe ?_|refine' v_e rfl ?xa ?xb ?xc ?xe ?_);(case xa => first|exact at_dst 30 rfl (e_callS0 (ys := [graphP m nil es]) [(2000001, 500)] KTO rfl rfl ⟨asA_agg (evO_spec rfl) ⟨cAr_r, cAr_r, trivial⟩, trivial⟩ rfl rfl)|exact at_dst 32 rfl (e_callS0 (ys := [diskP n1 xs n2 ys]) [(2000001, 501), (2000002, 502)] KTDO rfl rfl ⟨asA_agg (evO_spec rfl) ⟨cAr_r, cAr_r, trivial⟩, trivial⟩ rfl rfl)|exact at_dst 35 rfl (e_callS0 (ys := [graphP m false es, diskP false xs false ys]) [] KI rfl rfl ⟨asA_agg (evO_spec rfl) ⟨cAr_r, cAr_own0 (lookHO_spec rfl) hlen.symm, trivial⟩, asA_agg (evO_spec rfl) ⟨cAr_own0 (lookHO_spec rfl) hlx.symm, cAr_own0 (lookHO_spec rfl) hly.symm, trivial⟩, trivial⟩ rfl rfl)|exact at_dst 79 rfl (e_callS0 (ys := [graphP m false es, diskP false xs false ys]) [] KI rfl rfl ⟨asA_agg (evO_spec rfl) ⟨cAr_r, cAr_r, trivial⟩, asA_agg (evO_spec rfl) ⟨cAr_r, cAr_r, trivial⟩, trivial⟩ rfl rfl)|exact at_dst 52 rfl (e_callS [(1000000000, 500)] KMG rfl ⟨asD_ren (evO_spec rfl), by rw [evO_spec rfl];exact asD_r rfl, trivial⟩ (by (repeat' (first|exact trivial|refine subHR_cons rfl ?_ ?_|rfl))) rfl)|exact at_dst 55 rfl (e_callS [(1000000000, 501), (1000000001, 502)] KMD rfl ⟨asD_ren (evO_spec rfl), by rw [evO_spec rfl];exact asD_r rfl, trivial⟩ (by (repeat' (first|exact trivial|refine subHR_cons rfl ?_ ?_|rfl))) rfl));(case xb => rfl);(case xc => rfl);(case xe => rfl);try dsimp only [P0.d, Res.d, List.map_cons, List.map_nil, List.set_cons_zero, List.set_cons_succ, Nat.reduceAdd])|((first|refine aw_ways rfl ?_ ?_|refine r_split rfl rfl rfl ?_ ?_) <;> intro hg_ <;> fail_if_success (exact Bool.noConfusion hg_)) <;> (try simp only [prn] at hg_) <;> (try first|contradiction|(exfalso;omega)))
  all_goals first
    | exact ret_tmp rfl (dres_bool rfl)
    | (exfalso;first|omega|(simp at hg_;done)|(simp at hg_;omega))
    | trace_state
set_option maxRecDepth 100000 in
set_option maxHeartbeats 16000000 in
theorem f_lawRecXOZ (m : Int) (nil n1 n2 : Bool) (es : List E3) (xs ys : List Int) (hz : es.length + xs.length + ys.length ≤ 1048576) (r : Int) (vs : List Int) (gs : List Bool) (b1 : vs.length ≤ 16) (b2 : gs.length ≤ 16) (nv ng nm : Bool)
    (KS : Fn Try.prog 18 [graphP m false es, diskP false xs false ys] (.v (stateP r nv vs ng gs nm [])))
    (KI : FnS Try.prog 21 [.agg [.r false (int m), .r false (row false 3 (edges es))], .agg [.r false (row false 1 (ints xs)), .r false (row false 1 (ints ys))]] [] (.agg [.r true (int r), .own 2000001 0 vs.length 1, .own 2000002 0 gs.length 1, Zc]) [(2000001, .sl 3 1 true (ints vs)), (2000002, .sl 4 1 true (bools gs))]) :
    Fn Try.prog 4 [graphP m nil es, diskP n1 xs n2 ys] (.v (.one (bool true))) := by
  have KZ := f_szGraph m nil es 1048576 (by omega) (by omega) (by omega)
  rw [if_neg (by omega)] at KZ
  have KZ2 := f_szDisk n1 n2 xs ys (1048576 - es.length) (by omega) (by omega) (by omega) (by omega)
  rw [show szD (1048576 - (es.length : Int)) xs.length ys.length = 1048576 - es.length - xs.length - ys.length by unfold szD szL; rw [if_neg (by omega), if_neg (by omega)]] at KZ2
  have hlen := edges_len es
  have hlx := ints_len xs
  have hly := ints_len ys
  have KT := f_toGraph m nil es (by omega)
  have KTO := f_toGraphO m nil es (by omega)
  have KTd := f_toDisk n1 n2 xs ys (by omega) (by omega)
  have KTDO := f_toDiskO n1 n2 xs ys (by omega) (by omega)
  have KQG := f_eqGraph m false false es (by omega)
  have KQD := f_eqDisk false false false false xs ys (by omega) (by omega)
  have KMG := f_markGraph true m es 1 (by omega) (by omega) (by omega)
  have KMD := f_markDisk xs ys (1 + 3 * es.length) (by omega) (by omega) (by omega) (by omega)
  have hlv := ints_len vs
  have hlg := bools_len gs
  have hlV : vs.length = (ints (upF 1 vs.length)).length := by rw [ints_len, upF_len]
  have hlG : gs.length = (bools (upB (1 + vs.length) gs.length)).length := by rw [bools_len, upB_len]
  have KQS := f_eqState r false false true nv ng nm vs gs [] (by omega) (by omega) (by simp)
  have KQS2 := f_eqState r false false true nv ng nm vs gs [] (by omega) (by omega) (by simp)
  have KMS := f_markStOZ true r vs gs 1 (by omega) (by omega) (by omega) (by omega)
  have KH := f_heldStOZ r false false true 1 vs.length gs.length (by omega) (by omega) (by omega) (by omega)
  refine fn_of (l := [.tmp 4]) Try.func4 (by kernel_rfl) rfl Try.ntmps4 rfl rfl ?_; simp only [argEnv, P0.d, Nat.reduceAdd, graphP, diskP, List.map_cons, List.map_nil]
  repeat' (first|(with_reducible first|refine aw_seq ?_|refine thn_normal ?_|refine thn_ret ?_|refine thn_exit ?_|refine blk_normal ?_|refine blk_ret ?_|refine blk_hit ?_|refine blk_miss rfl ?_|refine aw_block ?_|refine aw_ret ?_|refine aw_skip ?_|refine aw_exit ?_|refine w_nil ?_|refine x_nil (by kernel_rfl) ?_)|refine aw_region ?_|refine aw_region_draw (by kernel_rfl) ?_|refine aw_yes rfl ?_|refine aw_no rfl ?_|((with_reducible refine w_seq ?_);first|refine r_q tbOk rfl rfl rfl rfl ?_|refine r_e tbOk rfl rfl rfl rfl rfl ?_|refine r_yes tbOk rfl rfl rfl rfl rfl rfl ?_|refine w_no rfl rfl (lookO_spec rfl) rfl rfl rfl ?_|refine w_un rfl rfl (lookO_spec rfl) rfl rfl ?_)|((with_reducible refine w_drw ?_);first|refine rx_q tbOk rfl rfl rfl rfl ?_|refine rx_e tbOk rfl rfl rfl rfl rfl ?_|refine rx_yes tbOk rfl rfl rfl rfl rfl rfl ?_|refine x_no rfl rfl (lookO_spec rfl) rfl rfl rfl ?_|refine x_un rfl rfl (lookO_spec rfl) rfl rfl ?_)|((first|refine' w_q rfl rfl ?xa rfl ?_|refine' v_q rfl rfl ?xa rfl ?_|refine' w_yes rfl rfl (lookO_spec rfl) rfl ?xa rfl ?_|refine' v_yes rfl rfl (lookO_spec rfl) rfl ?xa rfl ?_);case xa => first|exact k_call KZ rfl ⟨asA_agg (evO_spec rfl) ⟨cAr_r, cAr_r, trivial⟩, asA_r (evO_spec rfl), trivial⟩|exact k_call KZ2 rfl ⟨asA_agg (evO_spec rfl) ⟨cAr_r, cAr_r, trivial⟩, asA_r (evO_spec rfl), trivial⟩|exact k_at 25 rfl (k_call KT rfl ⟨asA_agg (evO_spec rfl) ⟨cAr_r, cAr_r, trivial⟩, trivial⟩)|exact k_at 42 rfl (k_call KT rfl ⟨asA_agg (evO_spec rfl) ⟨cAr_r, cAr_r, trivial⟩, trivial⟩)|exact k_at 76 rfl (k_call KT rfl ⟨asA_agg (evO_spec rfl) ⟨cAr_r, cAr_r, trivial⟩, trivial⟩)|exact k_at 27 rfl (k_call KTd rfl ⟨asA_agg (evO_spec rfl) ⟨cAr_r, cAr_r, trivial⟩, trivial⟩)|exact k_at 47 rfl (k_call KTd rfl ⟨asA_agg (evO_spec rfl) ⟨cAr_r, cAr_r, trivial⟩, trivial⟩)|exact k_at 78 rfl (k_call KTd rfl ⟨asA_agg (evO_spec rfl) ⟨cAr_r, cAr_r, trivial⟩, trivial⟩)|exact k_at 28 rfl (k_call KS rfl ⟨asA_agg (evO_spec rfl) ⟨cAr_r, cAr_r, trivial⟩, asA_agg (evO_spec rfl) ⟨cAr_r, cAr_r, trivial⟩, trivial⟩)|exact k_call KH rfl ⟨asA_agg (evO_spec rfl) ⟨cAr_r, cAr_own0 (lookHO_spec rfl) hlV, cAr_own0 (lookHO_spec rfl) hlG, cAr_nil, trivial⟩, asA_r (evO_spec rfl), trivial⟩|exact k_call KQS rfl ⟨asA_agg (evO_spec rfl) ⟨cAr_r, cAr_own0 (lookHO_spec rfl) hlv.symm, cAr_own0 (lookHO_spec rfl) hlg.symm, cAr_nil, trivial⟩, asA_agg (evO_spec rfl) ⟨cAr_r, cAr_r, cAr_r, cAr_r, trivial⟩, trivial⟩|exact k_call KQG rfl ⟨asA_agg (evO_spec rfl) ⟨cAr_r, cAr_own0 (lookHO_spec rfl) hlen.symm, trivial⟩, asA_agg (evO_spec rfl) ⟨cAr_r, cAr_r, trivial⟩, trivial⟩|exact k_call KQD rfl ⟨asA_agg (evO_spec rfl) ⟨cAr_own0 (lookHO_spec rfl) hlx.symm, cAr_own0 (lookHO_spec rfl) hly.symm, trivial⟩, asA_agg (evO_spec rfl) ⟨cAr_r, cAr_r, trivial⟩, trivial⟩|exact k_neB bo4 rfl rfl rfl)|((first|refine' w_e rfl ?xa ?xb ?xc ?xe ?_|refine' v_e rfl ?xa ?xb ?xc ?xe ?_);(case xa => first|exact at_dst 30 rfl (e_callS0 (ys := [graphP m nil es]) [(2000001, 500)] KTO rfl rfl ⟨asA_agg (evO_spec rfl) ⟨cAr_r, cAr_r, trivial⟩, trivial⟩ rfl rfl)|exact at_dst 32 rfl (e_callS0 (ys := [diskP n1 xs n2 ys]) [(2000001, 501), (2000002, 502)] KTDO rfl rfl ⟨asA_agg (evO_spec rfl) ⟨cAr_r, cAr_r, trivial⟩, trivial⟩ rfl rfl)|exact at_dst 35 rfl (e_callS0 (ys := [graphP m false es, diskP false xs false ys]) [(2000001, 601), (2000002, 602)] KI rfl rfl ⟨asA_agg (evO_spec rfl) ⟨cAr_r, cAr_own0 (lookHO_spec rfl) hlen.symm, trivial⟩, asA_agg (evO_spec rfl) ⟨cAr_own0 (lookHO_spec rfl) hlx.symm, cAr_own0 (lookHO_spec rfl) hly.symm, trivial⟩, trivial⟩ rfl rfl)|exact at_dst 79 rfl (e_callS0 (ys := [graphP m false es, diskP false xs false ys]) [(2000001, 611), (2000002, 612)] KI rfl rfl ⟨asA_agg (evO_spec rfl) ⟨cAr_r, cAr_r, trivial⟩, asA_agg (evO_spec rfl) ⟨cAr_r, cAr_r, trivial⟩, trivial⟩ rfl rfl)|exact at_dst 66 rfl (e_callS [(1000000000, 601), (1000000001, 602)] KMS rfl ⟨asD_ren (evO_spec rfl), by rw [evO_spec rfl];exact asD_r rfl, trivial⟩ (by (repeat' (first|exact trivial|refine subHR_cons rfl ?_ ?_|rfl))) rfl)|exact at_dst 52 rfl (e_callS [(1000000000, 500)] KMG rfl ⟨asD_ren (evO_spec rfl), by rw [evO_spec rfl];exact asD_r rfl, trivial⟩ (by (repeat' (first|exact trivial|refine subHR_cons rfl ?_ ?_|rfl))) rfl)|exact at_dst 55 rfl (e_callS [(1000000000, 501), (1000000001, 502)] KMD rfl ⟨asD_ren (evO_spec rfl), by rw [evO_spec rfl];exact asD_r rfl, trivial⟩ (by (repeat' (first|exact trivial|refine subHR_cons rfl ?_ ?_|rfl))) rfl));(case xb => rfl);(case xc => rfl);(case xe => rfl);try dsimp only [P0.d, Res.d, List.map_cons, List.map_nil, List.set_cons_zero, List.set_cons_succ, Nat.reduceAdd])|((first|refine aw_ways rfl ?_ ?_|refine r_split rfl rfl rfl ?_ ?_) <;> intro hg_ <;> fail_if_success (exact Bool.noConfusion hg_)) <;> (try simp only [prn] at hg_) <;> (try first|contradiction|(exfalso;omega)))
  all_goals first
    | exact ret_tmp rfl (dres_bool rfl)
    | (exfalso;first|omega|(simp at hg_;done)|(simp at hg_;omega))
    | trace_state
set_option maxRecDepth 100000 in
set_option maxHeartbeats 16000000 in
theorem f_lawRecXOO (m : Int) (nil n1 n2 : Bool) (es : List E3) (xs ys : List Int) (hz : es.length + xs.length + ys.length ≤ 1048576) (r : Int) (vs : List Int) (gs : List Bool) (b1 : vs.length ≤ 16) (b2 : gs.length ≤ 16) (ms : List E3) (b3 : ms.length ≤ 2000) (nv ng nm : Bool)
    (KS : Fn Try.prog 18 [graphP m false es, diskP false xs false ys] (.v (stateP r nv vs ng gs nm ms)))
    (KI : FnS Try.prog 21 [.agg [.r false (int m), .r false (row false 3 (edges es))], .agg [.r false (row false 1 (ints xs)), .r false (row false 1 (ints ys))]] [] (.agg [.r true (int r), .own 2000001 0 vs.length 1, .own 2000002 0 gs.length 1, .own 2000003 0 ms.length 3]) [(2000001, .sl 3 1 true (ints vs)), (2000002, .sl 4 1 true (bools gs)), (2000003, .sl 95 3 true (edges ms))]) :
    Fn Try.prog 4 [graphP m nil es, diskP n1 xs n2 ys] (.v (.one (bool true))) := by
  have KZ := f_szGraph m nil es 1048576 (by omega) (by omega) (by omega)
  rw [if_neg (by omega)] at KZ
  have KZ2 := f_szDisk n1 n2 xs ys (1048576 - es.length) (by omega) (by omega) (by omega) (by omega)
  rw [show szD (1048576 - (es.length : Int)) xs.length ys.length = 1048576 - es.length - xs.length - ys.length by unfold szD szL; rw [if_neg (by omega), if_neg (by omega)]] at KZ2
  have hlen := edges_len es
  have hlx := ints_len xs
  have hly := ints_len ys
  have KT := f_toGraph m nil es (by omega)
  have KTO := f_toGraphO m nil es (by omega)
  have KTd := f_toDisk n1 n2 xs ys (by omega) (by omega)
  have KTDO := f_toDiskO n1 n2 xs ys (by omega) (by omega)
  have KQG := f_eqGraph m false false es (by omega)
  have KQD := f_eqDisk false false false false xs ys (by omega) (by omega)
  have KMG := f_markGraph true m es 1 (by omega) (by omega) (by omega)
  have KMD := f_markDisk xs ys (1 + 3 * es.length) (by omega) (by omega) (by omega) (by omega)
  have hlv := ints_len vs
  have hlg := bools_len gs
  have hlV : vs.length = (ints (upF 1 vs.length)).length := by rw [ints_len, upF_len]
  have hlG : gs.length = (bools (upB (1 + vs.length) gs.length)).length := by rw [bools_len, upB_len]
  have hlm := edges_len ms
  have hlM : ms.length = (edges (upE (1 + vs.length + gs.length) ms.length)).length := by rw [edges_len, upE_len]
  have KQS := f_eqState r false false false nv ng nm vs gs ms (by omega) (by omega) (by omega)
  have KQS2 := f_eqState r false false false nv ng nm vs gs ms (by omega) (by omega) (by omega)
  have KMS := f_markStOO true r vs gs ms 1 (by omega) (by omega) (by omega) (by omega) (by omega)
  have KH := f_heldState r false false false 1 vs.length gs.length ms.length (by omega) (by omega) (by omega) (by omega) (by omega)
  refine fn_of (l := [.tmp 4]) Try.func4 (by kernel_rfl) rfl Try.ntmps4 rfl rfl ?_; simp only [argEnv, P0.d, Nat.reduceAdd, graphP, diskP, List.map_cons, List.map_nil]
  repeat' (first|(with_reducible first|refine aw_seq ?_|refine thn_normal ?_|refine thn_ret ?_|refine thn_exit ?_|refine blk_normal ?_|refine blk_ret ?_|refine blk_hit ?_|refine blk_miss rfl ?_|refine aw_block ?_|refine aw_ret ?_|refine aw_skip ?_|refine aw_exit ?_|refine w_nil ?_|refine x_nil (by kernel_rfl) ?_)|refine aw_region ?_|refine aw_region_draw (by kernel_rfl) ?_|refine aw_yes rfl ?_|refine aw_no rfl ?_|((with_reducible refine w_seq ?_);first|refine r_q tbOk rfl rfl rfl rfl ?_|refine r_e tbOk rfl rfl rfl rfl rfl ?_|refine r_yes tbOk rfl rfl rfl rfl rfl rfl ?_|refine w_no rfl rfl (lookO_spec rfl) rfl rfl rfl ?_|refine w_un rfl rfl (lookO_spec rfl) rfl rfl ?_)|((with_reducible refine w_drw ?_);first|refine rx_q tbOk rfl rfl rfl rfl ?_|refine rx_e tbOk rfl rfl rfl rfl rfl ?_|refine rx_yes tbOk rfl rfl rfl rfl rfl rfl ?_|refine x_no rfl rfl (lookO_spec rfl) rfl rfl rfl ?_|refine x_un rfl rfl (lookO_spec rfl) rfl rfl ?_)|((first|refine' w_q rfl rfl ?xa rfl ?_|refine' v_q rfl rfl ?xa rfl ?_|refine' w_yes rfl rfl (lookO_spec rfl) rfl ?xa rfl ?_|refine' v_yes rfl rfl (lookO_spec rfl) rfl ?xa rfl ?_);case xa => first|exact k_call KZ rfl ⟨asA_agg (evO_spec rfl) ⟨cAr_r, cAr_r, trivial⟩, asA_r (evO_spec rfl), trivial⟩|exact k_call KZ2 rfl ⟨asA_agg (evO_spec rfl) ⟨cAr_r, cAr_r, trivial⟩, asA_r (evO_spec rfl), trivial⟩|exact k_at 25 rfl (k_call KT rfl ⟨asA_agg (evO_spec rfl) ⟨cAr_r, cAr_r, trivial⟩, trivial⟩)|exact k_at 42 rfl (k_call KT rfl ⟨asA_agg (evO_spec rfl) ⟨cAr_r, cAr_r, trivial⟩, trivial⟩)|exact k_at 76 rfl (k_call KT rfl ⟨asA_agg (evO_spec rfl) ⟨cAr_r, cAr_r, trivial⟩, trivial⟩)|exact k_at 27 rfl (k_call KTd rfl ⟨asA_agg (evO_spec rfl) ⟨cAr_r, cAr_r, trivial⟩, trivial⟩)|exact k_at 47 rfl (k_call KTd rfl ⟨asA_agg (evO_spec rfl) ⟨cAr_r, cAr_r, trivial⟩, trivial⟩)|exact k_at 78 rfl (k_call KTd rfl ⟨asA_agg (evO_spec rfl) ⟨cAr_r, cAr_r, trivial⟩, trivial⟩)|exact k_at 28 rfl (k_call KS rfl ⟨asA_agg (evO_spec rfl) ⟨cAr_r, cAr_r, trivial⟩, asA_agg (evO_spec rfl) ⟨cAr_r, cAr_r, trivial⟩, trivial⟩)|exact k_call KH rfl ⟨asA_agg (evO_spec rfl) ⟨cAr_r, cAr_own0 (lookHO_spec rfl) hlV, cAr_own0 (lookHO_spec rfl) hlG, cAr_own0 (lookHO_spec rfl) hlM, trivial⟩, asA_r (evO_spec rfl), trivial⟩|exact k_call KQS rfl ⟨asA_agg (evO_spec rfl) ⟨cAr_r, cAr_own0 (lookHO_spec rfl) hlv.symm, cAr_own0 (lookHO_spec rfl) hlg.symm, cAr_own0 (lookHO_spec rfl) hlm.symm, trivial⟩, asA_agg (evO_spec rfl) ⟨cAr_r, cAr_r, cAr_r, cAr_r, trivial⟩, trivial⟩|exact k_call KQG rfl ⟨asA_agg (evO_spec rfl) ⟨cAr_r, cAr_own0 (lookHO_spec rfl) hlen.symm, trivial⟩, asA_agg (evO_spec rfl) ⟨cAr_r, cAr_r, trivial⟩, trivial⟩|exact k_call KQD rfl ⟨asA_agg (evO_spec rfl) ⟨cAr_own0 (lookHO_spec rfl) hlx.symm, cAr_own0 (lookHO_spec rfl) hly.symm, trivial⟩, asA_agg (evO_spec rfl) ⟨cAr_r, cAr_r, trivial⟩, trivial⟩|exact k_neB bo4 rfl rfl rfl)|((first|refine' w_e rfl ?xa ?xb ?xc ?xe ?_|refine' v_e rfl ?xa ?xb ?xc ?xe ?_);(case xa => first|exact at_dst 30 rfl (e_callS0 (ys := [graphP m nil es]) [(2000001, 500)] KTO rfl rfl ⟨asA_agg (evO_spec rfl) ⟨cAr_r, cAr_r, trivial⟩, trivial⟩ rfl rfl)|exact at_dst 32 rfl (e_callS0 (ys := [diskP n1 xs n2 ys]) [(2000001, 501), (2000002, 502)] KTDO rfl rfl ⟨asA_agg (evO_spec rfl) ⟨cAr_r, cAr_r, trivial⟩, trivial⟩ rfl rfl)|exact at_dst 35 rfl (e_callS0 (ys := [graphP m false es, diskP false xs false ys]) [(2000001, 601), (2000002, 602), (2000003, 603)] KI rfl rfl ⟨asA_agg (evO_spec rfl) ⟨cAr_r, cAr_own0 (lookHO_spec rfl) hlen.symm, trivial⟩, asA_agg (evO_spec rfl) ⟨cAr_own0 (lookHO_spec rfl) hlx.symm, cAr_own0 (lookHO_spec rfl) hly.symm, trivial⟩, trivial⟩ rfl rfl)|exact at_dst 79 rfl (e_callS0 (ys := [graphP m false es, diskP false xs false ys]) [(2000001, 611), (2000002, 612), (2000003, 613)] KI rfl rfl ⟨asA_agg (evO_spec rfl) ⟨cAr_r, cAr_r, trivial⟩, asA_agg (evO_spec rfl) ⟨cAr_r, cAr_r, trivial⟩, trivial⟩ rfl rfl)|exact at_dst 66 rfl (e_callS [(1000000000, 601), (1000000001, 602), (1000000002, 603)] KMS rfl ⟨asD_ren (evO_spec rfl), by rw [evO_spec rfl];exact asD_r rfl, trivial⟩ (by (repeat' (first|exact trivial|refine subHR_cons rfl ?_ ?_|rfl))) rfl)|exact at_dst 52 rfl (e_callS [(1000000000, 500)] KMG rfl ⟨asD_ren (evO_spec rfl), by rw [evO_spec rfl];exact asD_r rfl, trivial⟩ (by (repeat' (first|exact trivial|refine subHR_cons rfl ?_ ?_|rfl))) rfl)|exact at_dst 55 rfl (e_callS [(1000000000, 501), (1000000001, 502)] KMD rfl ⟨asD_ren (evO_spec rfl), by rw [evO_spec rfl];exact asD_r rfl, trivial⟩ (by (repeat' (first|exact trivial|refine subHR_cons rfl ?_ ?_|rfl))) rfl));(case xb => rfl);(case xc => rfl);(case xe => rfl);try dsimp only [P0.d, Res.d, List.map_cons, List.map_nil, List.set_cons_zero, List.set_cons_succ, Nat.reduceAdd])|((first|refine aw_ways rfl ?_ ?_|refine r_split rfl rfl rfl ?_ ?_) <;> intro hg_ <;> fail_if_success (exact Bool.noConfusion hg_)) <;> (try simp only [prn] at hg_) <;> (try first|contradiction|(exfalso;omega)))
  all_goals first
    | exact ret_tmp rfl (dres_bool rfl)
    | (exfalso;first|omega|(simp at hg_;done)|(simp at hg_;omega))
    | trace_state
set_option maxRecDepth 100000 in
set_option maxHeartbeats 4000000 in
theorem f_lawRecXsz (m : Int) (nil n1 n2 : Bool) (es : List E3) (xs ys : List Int) (h0 : es.length ≤ 9223372036854775807) (h1 : xs.length ≤ 9223372036854775807) (h2 : ys.length ≤ 9223372036854775807) (hz : 1048576 < es.length + xs.length + ys.length) :
    Fn Try.prog 4 [graphP m nil es, diskP n1 xs n2 ys] (.v (.one (bool true))) := by
  have KZ := f_szGraph m nil es 1048576 h0 (by omega) (by omega)
  by_cases he : es.length ≤ 1048576
  · rw [if_neg (by omega)] at KZ
    have KZ2 := f_szDisk n1 n2 xs ys (1048576 - es.length) h1 h2 (by omega) (by omega)
    rw [show szD (1048576 - (es.length : Int)) xs.length ys.length = -1 by unfold szD szL;split <;> first|rfl|(rw [if_pos (by omega)])] at KZ2
    refine fn_of (l := [.tmp 4]) Try.func4 (by kernel_rfl) rfl Try.ntmps4 rfl rfl ?_; simp only [argEnv, P0.d, Nat.reduceAdd, graphP, diskP, List.map_cons, List.map_nil]
    repeat' (first|(with_reducible first|refine aw_seq ?_|refine thn_normal ?_|refine thn_ret ?_|refine thn_exit ?_|refine blk_normal ?_|refine blk_ret ?_|refine blk_hit ?_|refine blk_miss rfl ?_|refine aw_block ?_|refine aw_ret ?_|refine aw_skip ?_|refine aw_exit ?_|refine w_nil ?_|refine x_nil (by kernel_rfl) ?_)|refine aw_region ?_|refine aw_region_draw (by kernel_rfl) ?_|refine aw_yes rfl ?_|refine aw_no rfl ?_|((with_reducible refine w_seq ?_);first|refine r_q tbOk rfl rfl rfl rfl ?_|refine r_e tbOk rfl rfl rfl rfl rfl ?_|refine r_yes tbOk rfl rfl rfl rfl rfl rfl ?_|refine w_no rfl rfl (lookO_spec rfl) rfl rfl rfl ?_|refine w_un rfl rfl (lookO_spec rfl) rfl rfl ?_)|((with_reducible refine w_drw ?_);first|refine rx_q tbOk rfl rfl rfl rfl ?_|refine rx_e tbOk rfl rfl rfl rfl rfl ?_|refine rx_yes tbOk rfl rfl rfl rfl rfl rfl ?_|refine x_no rfl rfl (lookO_spec rfl) rfl rfl rfl ?_|refine x_un rfl rfl (lookO_spec rfl) rfl rfl ?_)|((first|refine' w_q rfl rfl ?xa rfl ?_|refine' v_q rfl rfl ?xa rfl ?_|refine' w_yes rfl rfl (lookO_spec rfl) rfl ?xa rfl ?_|refine' v_yes rfl rfl (lookO_spec rfl) rfl ?xa rfl ?_);case xa => first|exact k_call KZ rfl ⟨asA_agg (evO_spec rfl) ⟨cAr_r, cAr_r, trivial⟩, asA_r (evO_spec rfl), trivial⟩|exact k_call KZ2 rfl ⟨asA_agg (evO_spec rfl) ⟨cAr_r, cAr_r, trivial⟩, asA_r (evO_spec rfl), trivial⟩)|((first|refine aw_ways rfl ?_ ?_|refine r_split rfl rfl rfl ?_ ?_) <;> intro hg_ <;> fail_if_success (exact Bool.noConfusion hg_)) <;> (try simp only [prn] at hg_) <;> (try first|contradiction|(exfalso;omega)))
    all_goals first
      | exact ret_tmp rfl (dres_bool rfl)
      | (exfalso;first|omega|(simp at hg_;done)|(simp at hg_;omega))
      | trace_state
  · rw [if_pos (by omega)] at KZ
    refine fn_of (l := [.tmp 4]) Try.func4 (by kernel_rfl) rfl Try.ntmps4 rfl rfl ?_; simp only [argEnv, P0.d, Nat.reduceAdd, graphP, diskP, List.map_cons, List.map_nil]
    repeat' (first|(with_reducible first|refine aw_seq ?_|refine thn_normal ?_|refine thn_ret ?_|refine thn_exit ?_|refine blk_normal ?_|refine blk_ret ?_|refine blk_hit ?_|refine blk_miss rfl ?_|refine aw_block ?_|refine aw_ret ?_|refine aw_skip ?_|refine aw_exit ?_|refine w_nil ?_|refine x_nil (by kernel_rfl) ?_)|refine aw_region ?_|refine aw_region_draw (by kernel_rfl) ?_|refine aw_yes rfl ?_|refine aw_no rfl ?_|((with_reducible refine w_seq ?_);first|refine r_q tbOk rfl rfl rfl rfl ?_|refine r_e tbOk rfl rfl rfl rfl rfl ?_|refine r_yes tbOk rfl rfl rfl rfl rfl rfl ?_|refine w_no rfl rfl (lookO_spec rfl) rfl rfl rfl ?_|refine w_un rfl rfl (lookO_spec rfl) rfl rfl ?_)|((with_reducible refine w_drw ?_);first|refine rx_q tbOk rfl rfl rfl rfl ?_|refine rx_e tbOk rfl rfl rfl rfl rfl ?_|refine rx_yes tbOk rfl rfl rfl rfl rfl rfl ?_|refine x_no rfl rfl (lookO_spec rfl) rfl rfl rfl ?_|refine x_un rfl rfl (lookO_spec rfl) rfl rfl ?_)|((first|refine' w_q rfl rfl ?xa rfl ?_|refine' v_q rfl rfl ?xa rfl ?_|refine' w_yes rfl rfl (lookO_spec rfl) rfl ?xa rfl ?_|refine' v_yes rfl rfl (lookO_spec rfl) rfl ?xa rfl ?_);case xa => exact k_call KZ rfl ⟨asA_agg (evO_spec rfl) ⟨cAr_r, cAr_r, trivial⟩, asA_r (evO_spec rfl), trivial⟩)|((first|refine aw_ways rfl ?_ ?_|refine r_split rfl rfl rfl ?_ ?_) <;> intro hg_ <;> fail_if_success (exact Bool.noConfusion hg_)) <;> (try simp only [prn] at hg_) <;> (try first|contradiction|(exfalso;omega)))
    all_goals first
      | exact ret_tmp rfl (dres_bool rfl)
      | (exfalso;first|omega|(simp at hg_;done)|(simp at hg_;omega))
      | trace_state
theorem law_recX (m : Int) (nil n1 n2 : Bool) (es : List E3) (xs ys : List Int) (h0 : es.length ≤ 9223372036854775807) (h1 : xs.length ≤ 9223372036854775807) (h2 : ys.length ≤ 9223372036854775807) :
    Fn Try.prog 4 [graphP m nil es, diskP n1 xs n2 ys] (.v (.one (bool true))) := by
  by_cases hz : es.length + xs.length + ys.length ≤ 1048576
  · cases hb : (gOk m es && diskOk xs ys) with
    | false => exact f_lawRecXZZ m nil n1 n2 es xs ys hz 0 true true true (f_specRecoverBad m false false false es xs ys (by omega) (by omega) (by omega) hb) (f_implRecoverBad m false false false es xs ys (by omega) (by omega) (by omega) hb)
    | true =>
      rw [Bool.and_eq_true] at hb
      obtain ⟨hg, hd⟩ := hb
      have hm := gOk_mC hg
      obtain ⟨M, rfl⟩ := Int.eq_ofNat_of_zero_le hm.1
      have hM : M ≤ 16 := by omega
      obtain ⟨hc, hL⟩ := recL_len hd
      have KS := f_specRecover M false false false es xs ys hM hg hd hc hL
      unfold recS at KS
      have e1 : (List.replicate M (0 : Int)).length = M := List.length_replicate
      have e2 : (List.replicate M true).length = M := List.length_replicate
      have start : (FnS Try.prog 21 [.agg [.r false (int (M : Int)), .r false (row false 3 (edges es))], .agg [.r false (row false 1 (ints xs)), .r false (row false 1 (ints ys))]] [] (.agg [.r true (int 0), .own 2000001 0 M 1, .own 2000002 0 M 1, Zc]) [(2000001, .sl 3 1 true (ints (List.replicate M 0))), (2000002, .sl 4 1 true (bools (List.replicate M true)))]) → (Fn Try.prog 18 [graphP M false es, diskP false xs false ys] (.v (stateP 0 false (List.replicate M 0) (List.replicate M true).isEmpty (List.replicate M true) true []))) → Fn Try.prog 4 [graphP M nil es, diskP n1 xs n2 ys] (.v (.one (bool true))) := fun KI KS => by
        refine f_lawRecXOZ M nil n1 n2 es xs ys hz 0 (List.replicate M 0) (List.replicate M true) (by omega) (by omega) false _ true KS ?_
        rw [e1, e2]; exact KI
      cases hk : lastCk (recL xs) with
      | none =>
        rw [hk] at KS
        exact start (f_implRecover0 M false false false es xs ys hM hg hd (by simp) hc hk) KS
      | some s =>
        rw [hk] at KS
        have hF := Sta.okF (lastCk_ok hk)
        obtain ⟨r, vs, gs, ms⟩ := s
        have b1 : vs.length ≤ 16 := hF.many
        have b2 : gs.length = vs.length := hF.gl
        have b3 : ms.length ≤ 2000 := hF.ml
        have bm : ∀ m ∈ ms, 0 ≤ m.1 ∧ m.1 < (vs.length : Int) := fun m hm => ⟨(hF.min m hm).1, (hF.min m hm).2.1⟩
        dsimp only at KS
        by_cases hv : vs = []
        · subst hv
          have hgs : gs = [] := List.eq_nil_of_length_eq_zero (by simpa using b2)
          subst hgs
          have hms : ms = [] := by
            cases ms with
            | nil => rfl
            | cons x t => have := bm x (by simp); simp at this; omega
          subst hms
          cases hst : stOk M r [] ([] : List Bool).length [] with
          | false =>
            rw [hst] at KS
            exact start (f_implRecoverNZZ M false false false es xs ys hM hg hd (by simp) hc r hk hst) KS
          | true =>
            rw [hst] at KS
            exact f_lawRecXZZ M nil n1 n2 es xs ys hz r true true true KS (f_implRecoverYZZ M false false false es xs ys hM hg hd (by simp) hc r hk hst)
        · by_cases hm0 : ms = []
          · subst hm0
            cases hst : stOk M r vs gs.length [] with
            | false =>
              rw [hst] at KS
              exact start (f_implRecoverNOZ M false false false es xs ys hM hg hd (by simp) hc r vs gs hv b2 b1 hk hst) KS
            | true =>
              rw [hst] at KS
              exact f_lawRecXOZ M nil n1 n2 es xs ys hz r vs gs b1 (by omega) _ _ _ KS (f_implRecoverYOZ M false false false es xs ys hM hg hd (by simp) hc r vs gs hv b2 b1 hk hst)
          · cases hst : stOk M r vs gs.length ms with
            | false =>
              rw [hst] at KS
              exact start (f_implRecoverNOO M false false false es xs ys hM hg hd (by simp) hc r vs gs hv b2 ms hm0 b1 b3 hk hst) KS
            | true =>
              rw [hst] at KS
              exact f_lawRecXOO M nil n1 n2 es xs ys hz r vs gs b1 (by omega) ms b3 _ _ _ KS (f_implRecoverYOO M false false false es xs ys hM hg hd (by simp) hc r vs gs hv b2 ms hm0 b1 b3 hk hst)
  · exact f_lawRecXsz m nil n1 n2 es xs ys h0 h1 h2 (by omega)
end Go.Proofs.Ytmkecjamfippfaa.Abs
