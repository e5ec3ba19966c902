/- Disks' records by states: the reference. No statement of the seat is proved here. -/
import Derived.Lib.Hide
import Derived.Test.YtmkecjamfippfaaRxTy
import Derived.Test.YtmkecjamfippfaaRxAGrH
import Derived.Test.YtmkecjamfippfaaRxASpE
import Derived.Test.YtmkecjamfippfaaRxLDkW
import Derived.Test.YtmkecjamfippfaaRxASt0
set_option linter.unusedSimpArgs false
set_option linter.unusedVariables false
namespace Go.Proofs.Ytmkecjamfippfaa.Abs
open Go.RowKit
open R (val row ref)
set_option maxRecDepth 100000 in
set_option maxHeartbeats 4000000 in
theorem f_ownDisk (n1 n2 : Bool) (xs ys : List Int) (hl : xs.length ≤ 1048576) (hl' : ys.length ≤ 1048576) : Fn Try.prog 52 [diskP n1 xs n2 ys] (.v (diskP false xs false ys)) := by
  have h1 := ints_len xs
  have h2 := ints_len ys
  refine fn_of (l := [.cell 2 48]) Try.func52 (by kernel_rfl) rfl Try.ntmps52 rfl rfl ?_; simp only [argEnv, P0.d, Nat.reduceAdd, diskP, List.map_cons, List.map_nil]
  repeat' (first|(with_reducible first|refine aw_seq ?_|refine thn_normal ?_|refine thn_ret ?_|refine thn_exit ?_|refine blk_normal ?_|refine blk_ret ?_|refine blk_hit ?_|refine blk_miss rfl ?_|refine aw_block ?_|refine aw_ret ?_|refine aw_skip ?_|refine aw_exit ?_|refine w_nil ?_|refine x_nil (by kernel_rfl) ?_)|refine aw_region ?_|refine aw_region_draw (by kernel_rfl) ?_|refine aw_yes rfl ?_|refine aw_no rfl ?_|((with_reducible refine w_seq ?_);first|refine r_q tbOk rfl rfl rfl rfl ?_|refine r_e tbOk rfl rfl rfl rfl rfl ?_|refine r_yes tbOk rfl rfl rfl rfl rfl rfl ?_|refine w_no rfl rfl (lookO_spec rfl) rfl rfl rfl ?_|refine w_un rfl rfl (lookO_spec rfl) rfl rfl ?_)|((with_reducible refine w_drw ?_);first|refine rx_q tbOk rfl rfl rfl rfl ?_|refine rx_e tbOk rfl rfl rfl rfl rfl ?_|refine rx_yes tbOk rfl rfl rfl rfl rfl rfl ?_|refine x_no rfl rfl (lookO_spec rfl) rfl rfl rfl ?_|refine x_un rfl rfl (lookO_spec rfl) rfl rfl ?_)|((first|refine' w_e rfl ?xa ?xb ?xc ?xe ?_|refine' v_e rfl ?xa ?xb ?xc ?xe ?_);(case xa => first|exact e_build [] tlOk rfl rfl rfl rfl rfl rfl (by simp [AllN]) (by simp)|exact e_append tlOk rfl rfl rfl rfl rfl rfl (slD_plain slD_row (ints_plain _)) rfl (by simp only [maxLen, List.length_nil];omega) (by simp only [List.length_nil];omega));(case xb => rfl);(case xc => rfl);(case xe => rfl);try dsimp only [P0.d, Res.d, List.map_cons, List.map_nil, List.set_cons_zero, List.set_cons_succ, Nat.reduceAdd])|((first|refine aw_ways rfl ?_ ?_|refine r_split rfl rfl rfl ?_ ?_) <;> intro hg_ <;> fail_if_success (exact Bool.noConfusion hg_)) <;> (try simp only [prn] at hg_) <;> (try first|contradiction|(exfalso;omega)))
  all_goals first
    | exact ret_v (rv_cell rfl rfl (by (with_reducible first|exact ty3|exact ty4|exact ty5|exact ty9|exact ty17|exact ty19|exact ty22|exact ty24|exact ty25|exact ty26|exact ty28|exact ty36|exact ty38|exact ty40|exact ty44|exact ty46|exact ty48|exact ty55|exact ty81|exact ty84|exact ty89|exact ty95|exact ty98|exact ty105|exact ty118|exact ty122|exact ty132|exact ty134|exact ty137|exact ty143|exact ty153|exact ty155|exact ty156|exact ty161)) rfl rfl rfl (dres_agg (by refine ⟨?_, ?_, trivial⟩ <;> exact cres_own0 (lookHO_spec rfl) (by simp only [List.length_nil, Nat.zero_add, List.nil_append]))))
    | trace_state
theorem diskOk_app {xs ys : List Int} (h : diskOk xs ys = true) : bytesOk (xs ++ ys) = true ∧ xs.length ≤ 2000 ∧ ys.length ≤ 2000 ∧ bytesOk xs = true := by
  unfold diskOk at h
  simp only [Bool.and_eq_true, decide_eq_true_eq] at h
  obtain ⟨⟨h1, h2⟩, h3⟩ := h
  refine ⟨bytesOk_of (fun z hz => ?_) (by rw [List.length_append]; exact h3), by omega, by omega, h1⟩
  rcases List.mem_append.1 hz with h | h
  · obtain ⟨i, hi, rfl⟩ := List.getElem_of_mem h
    exact bytesOk_get h1 i hi
  · obtain ⟨i, hi, rfl⟩ := List.getElem_of_mem h
    exact bytesOk_get h2 i hi
set_option maxRecDepth 100000 in
set_option maxHeartbeats 4000000 in
theorem f_specRecords (n1 n2 : Bool) (xs ys : List Int) (hv : diskOk xs ys = true) : Fn Try.prog 55 [diskP n1 xs n2 ys] (.v (.one (row false 1 (rowsI (scanF (xs ++ ys)).1)))) := by
  obtain ⟨hb, h1, h2, _⟩ := diskOk_app hv
  have K1 := f_ownDisk n1 n2 xs ys (by omega) (by omega)
  have K2 := f_specDiskValid false false xs ys (by omega) (by omega)
  rw [hv] at K2
  have K3 := f_specScanFrames false (xs ++ ys) hb
  have ha : ints (xs ++ ys) = ints xs ++ ints ys := by unfold ints; rw [List.map_append]
  rw [ha] at K3
  have hl1 := ints_len xs
  have hl2 := ints_len ys
  clear ha hb
  refine fn_of (l := [.tmp 2]) Try.func55 (by kernel_rfl) rfl Try.ntmps55 rfl rfl ?_; simp only [argEnv, P0.d, Nat.reduceAdd, diskP, List.map_cons, List.map_nil]
  repeat' (first|(with_reducible first|refine aw_seq ?_|refine thn_normal ?_|refine thn_ret ?_|refine thn_exit ?_|refine blk_normal ?_|refine blk_ret ?_|refine blk_hit ?_|refine blk_miss rfl ?_|refine aw_block ?_|refine aw_ret ?_|refine aw_skip ?_|refine aw_exit ?_|refine w_nil ?_|refine x_nil (by kernel_rfl) ?_)|refine aw_region ?_|refine aw_region_draw (by kernel_rfl) ?_|refine aw_yes rfl ?_|refine aw_no rfl ?_|((with_reducible refine w_seq ?_);first|refine r_q tbOk rfl rfl rfl rfl ?_|refine r_e tbOk rfl rfl rfl rfl rfl ?_|refine r_yes tbOk rfl rfl rfl rfl rfl rfl ?_|refine w_no rfl rfl (lookO_spec rfl) rfl rfl rfl ?_|refine w_un rfl rfl (lookO_spec rfl) rfl rfl ?_)|((with_reducible refine w_drw ?_);first|refine rx_q tbOk rfl rfl rfl rfl ?_|refine rx_e tbOk rfl rfl rfl rfl rfl ?_|refine rx_yes tbOk rfl rfl rfl rfl rfl rfl ?_|refine x_no rfl rfl (lookO_spec rfl) rfl rfl rfl ?_|refine x_un rfl rfl (lookO_spec rfl) rfl rfl ?_)|((first|refine' w_q rfl rfl ?xa rfl ?_|refine' v_q rfl rfl ?xa rfl ?_|refine' w_yes rfl rfl (lookO_spec rfl) rfl ?xa rfl ?_|refine' v_yes rfl rfl (lookO_spec rfl) rfl ?xa rfl ?_);case xa => first|exact k_call K1 rfl ⟨asA_agg (evO_spec rfl) ⟨cAr_r, cAr_r, trivial⟩, trivial⟩|exact k_call K2 rfl ⟨asA_agg (evO_spec rfl) ⟨cAr_r, cAr_r, trivial⟩, trivial⟩|exact k_call K3 rfl ⟨asA_own0M (evO_spec rfl) (lookHO_spec rfl) (by simp), trivial⟩)|((first|refine' w_e rfl ?xa ?xb ?xc ?xe ?_|refine' v_e rfl ?xa ?xb ?xc ?xe ?_);(case xa => first|exact e_build [] tlOk rfl rfl rfl rfl rfl rfl (by simp [AllN]) (by simp)|exact at_dst 15 rfl (e_append tlOk rfl rfl rfl rfl rfl rfl (slD_plain slD_row (ints_plain _)) rfl (by simp only [maxLen, List.length_nil];omega) (by simp only [List.length_nil];omega))|exact at_dst 18 rfl (e_append tlOk rfl rfl rfl rfl rfl rfl (slD_plain slD_row (ints_plain _)) (by simp only [List.length_append]) (by simp only [maxLen, List.length_append, List.length_nil];omega) (by simp only [List.length_append, List.length_nil];omega)));(case xb => rfl);(case xc => rfl);(case xe => rfl);try dsimp only [P0.d, Res.d, List.map_cons, List.map_nil, List.set_cons_zero, List.set_cons_succ, Nat.reduceAdd])|((first|refine aw_ways rfl ?_ ?_|refine r_split rfl rfl rfl ?_ ?_) <;> intro hg_ <;> fail_if_success (exact Bool.noConfusion hg_)) <;> (try simp only [prn] at hg_) <;> (try first|contradiction|(exfalso;omega)))
  all_goals first
    | exact ret_tmp rfl (dres_one cres_new)
    | trace_state
set_option maxRecDepth 100000 in
set_option maxHeartbeats 4000000 in
theorem f_specRepair (n1 n2 : Bool) (xs ys : List Int) (hv : diskOk xs ys = true) : Fn Try.prog 56 [diskP n1 xs n2 ys] (.v (diskP false (xs.take (scanF xs).2) true [])) := by
  obtain ⟨_, h1, h2, hb⟩ := diskOk_app hv
  have K1 := f_ownDisk n1 n2 xs ys (by omega) (by omega)
  have K2 := f_specDiskValid false false xs ys (by omega) (by omega)
  rw [hv] at K2
  have K3 := f_specScanFrames false xs hb
  have hn := scanF_le hb
  generalize (scanF xs).2 = n at *
  generalize (scanF xs).1 = R at *
  have hl1 := ints_len xs
  have hsl : ((ints xs).drop 0).take (n - 0) = ints (xs.take n) := by unfold ints; rw [List.drop_zero, Nat.sub_zero, List.map_take]
  have hlt := ints_len (xs.take n)
  have hlt2 : (xs.take n).length ≤ 2000 := by rw [List.length_take]; omega
  rw [← hsl] at hlt
  have hT : (diskP false (xs.take n) true [] : P0) = .agg [row false 1 (((ints xs).drop 0).take (n - 0)), row true 1 []] := by rw [hsl]; rfl
  rw [hT]
  clear hT hv hb hsl
  refine fn_of (l := [.cell 2 48]) Try.func56 (by kernel_rfl) rfl Try.ntmps56 rfl rfl ?_; simp only [argEnv, P0.d, Nat.reduceAdd, diskP, List.map_cons, List.map_nil]
  repeat' (first|(with_reducible first|refine aw_seq ?_|refine thn_normal ?_|refine thn_ret ?_|refine thn_exit ?_|refine blk_normal ?_|refine blk_ret ?_|refine blk_hit ?_|refine blk_miss rfl ?_|refine aw_block ?_|refine aw_ret ?_|refine aw_skip ?_|refine aw_exit ?_|refine w_nil ?_|refine x_nil (by kernel_rfl) ?_)|refine aw_region ?_|refine aw_region_draw (by kernel_rfl) ?_|refine aw_yes rfl ?_|refine aw_no rfl ?_|((with_reducible refine w_seq ?_);first|refine r_q tbOk rfl rfl rfl rfl ?_|refine r_e tbOk rfl rfl rfl rfl rfl ?_|refine r_yes tbOk rfl rfl rfl rfl rfl rfl ?_|refine w_no rfl rfl (lookO_spec rfl) rfl rfl rfl ?_|refine w_un rfl rfl (lookO_spec rfl) rfl rfl ?_)|((with_reducible refine w_drw ?_);first|refine rx_q tbOk rfl rfl rfl rfl ?_|refine rx_e tbOk rfl rfl rfl rfl rfl ?_|refine rx_yes tbOk rfl rfl rfl rfl rfl rfl ?_|refine x_no rfl rfl (lookO_spec rfl) rfl rfl rfl ?_|refine x_un rfl rfl (lookO_spec rfl) rfl rfl ?_)|((first|refine' w_q rfl rfl ?xa rfl ?_|refine' v_q rfl rfl ?xa rfl ?_|refine' w_yes rfl rfl (lookO_spec rfl) rfl ?xa rfl ?_|refine' v_yes rfl rfl (lookO_spec rfl) rfl ?xa rfl ?_);case xa => first|exact k_call K1 rfl ⟨asA_agg (evO_spec rfl) ⟨cAr_r, cAr_r, trivial⟩, trivial⟩|exact k_call K2 rfl ⟨asA_agg (evO_spec rfl) ⟨cAr_r, cAr_r, trivial⟩, trivial⟩|exact k_call K3 rfl ⟨asA_r (evO_spec rfl), trivial⟩|exact k_slice (a := 0) (b := n) tbOk rfl rfl rfl rfl ⟨_, evO_spec rfl⟩ (by omega) (by omega))|((first|refine' w_e rfl ?xa ?xb ?xc ?xe ?_|refine' v_e rfl ?xa ?xb ?xc ?xe ?_);(case xa => first|exact e_build [] tlOk rfl rfl rfl rfl rfl rfl (by simp [AllN]) (by simp)|exact at_dst 22 rfl (e_append tlOk rfl rfl rfl rfl rfl rfl (slD_plain slD_row (by first|exact ints_plain _|exact fun e he => ints_plain xs e (List.mem_of_mem_drop (List.mem_of_mem_take he)))) rfl (by simp only [maxLen, List.length_nil];omega) (by simp only [List.length_nil];omega)));(case xb => rfl);(case xc => rfl);(case xe => rfl);try dsimp only [P0.d, Res.d, List.map_cons, List.map_nil, List.set_cons_zero, List.set_cons_succ, Nat.reduceAdd])|((first|refine aw_ways rfl ?_ ?_|refine r_split rfl rfl rfl ?_ ?_) <;> intro hg_ <;> fail_if_success (exact Bool.noConfusion hg_)) <;> (try simp only [prn] at hg_) <;> (try first|contradiction|(exfalso;omega)))
  all_goals first
    | exact ret_v (rv_cell rfl rfl (by (with_reducible first|exact ty3|exact ty4|exact ty5|exact ty9|exact ty17|exact ty19|exact ty22|exact ty24|exact ty25|exact ty26|exact ty28|exact ty36|exact ty38|exact ty40|exact ty44|exact ty46|exact ty48|exact ty55|exact ty81|exact ty84|exact ty89|exact ty95|exact ty98|exact ty105|exact ty118|exact ty122|exact ty132|exact ty134|exact ty137|exact ty143|exact ty153|exact ty155|exact ty156|exact ty161)) rfl rfl rfl (dres_agg (by exact ⟨cres_own0 (lookHO_spec rfl) (by simp only [List.length_nil, Nat.zero_add, List.nil_append]), cres_nil, trivial⟩)))
    | trace_state
set_option maxRecDepth 100000 in
set_option maxHeartbeats 4000000 in
theorem f_implRepair (n1 n2 : Bool) (xs ys : List Int) (hn1 : n1 = true → xs = []) (hv : diskOk xs ys = true) : Fn Try.prog 62 [diskP n1 xs n2 ys] (.v (diskP n1 (xs.take (scanF xs).2) true [])) := by
  obtain ⟨_, h1, h2, hb⟩ := diskOk_app hv
  have K2 := f_implDiskValid n1 n2 xs ys (by omega) (by omega)
  rw [hv] at K2
  have K3 := f_implScanFrames n1 xs hb
  have hn := scanF_le hb
  generalize (scanF xs).2 = n at *
  generalize (scanF xs).1 = R at *
  have hl1 := ints_len xs
  have hsl : ((ints xs).drop 0).take (n - 0) = ints (xs.take n) := by unfold ints; rw [List.drop_zero, Nat.sub_zero, List.map_take]
  have KC := f_cloneD n1 (xs.take n) (fun h => by rw [hn1 h]; simp) (by rw [List.length_take]; omega)
  rw [← hsl] at KC
  have hT : (diskP n1 (xs.take n) true [] : P0) = .agg [row n1 1 (((ints xs).drop 0).take (n - 0)), row true 1 []] := by rw [hsl]; rfl
  rw [hT]
  clear hT hv hb hsl hn1
  refine fn_of (l := [.cell 2 48]) Try.func62 (by kernel_rfl) rfl Try.ntmps62 rfl rfl ?_; simp only [argEnv, P0.d, Nat.reduceAdd, diskP, List.map_cons, List.map_nil]
  repeat' (first|(with_reducible first|refine aw_seq ?_|refine thn_normal ?_|refine thn_ret ?_|refine thn_exit ?_|refine blk_normal ?_|refine blk_ret ?_|refine blk_hit ?_|refine blk_miss rfl ?_|refine aw_block ?_|refine aw_ret ?_|refine aw_skip ?_|refine aw_exit ?_|refine w_nil ?_|refine x_nil (by kernel_rfl) ?_)|refine aw_region ?_|refine aw_region_draw (by kernel_rfl) ?_|refine aw_yes rfl ?_|refine aw_no rfl ?_|((with_reducible refine w_seq ?_);first|refine r_q tbOk rfl rfl rfl rfl ?_|refine r_e tbOk rfl rfl rfl rfl rfl ?_|refine r_yes tbOk rfl rfl rfl rfl rfl rfl ?_|refine w_no rfl rfl (lookO_spec rfl) rfl rfl rfl ?_|refine w_un rfl rfl (lookO_spec rfl) rfl rfl ?_)|((with_reducible refine w_drw ?_);first|refine rx_q tbOk rfl rfl rfl rfl ?_|refine rx_e tbOk rfl rfl rfl rfl rfl ?_|refine rx_yes tbOk rfl rfl rfl rfl rfl rfl ?_|refine x_no rfl rfl (lookO_spec rfl) rfl rfl rfl ?_|refine x_un rfl rfl (lookO_spec rfl) rfl rfl ?_)|((first|refine' w_q rfl rfl ?xa rfl ?_|refine' v_q rfl rfl ?xa rfl ?_|refine' w_yes rfl rfl (lookO_spec rfl) rfl ?xa rfl ?_|refine' v_yes rfl rfl (lookO_spec rfl) rfl ?xa rfl ?_);case xa => first|exact k_call K2 rfl ⟨asA_agg (evO_spec rfl) ⟨cAr_r, cAr_r, trivial⟩, trivial⟩|exact k_call K3 rfl ⟨asA_r (evO_spec rfl), trivial⟩|exact k_call KC rfl ⟨asA_r (evO_spec rfl), trivial⟩|exact k_slice (a := 0) (b := n) tbOk rfl rfl rfl rfl ⟨_, evO_spec rfl⟩ (by omega) (by omega))|((first|refine aw_ways rfl ?_ ?_|refine r_split rfl rfl rfl ?_ ?_) <;> intro hg_ <;> fail_if_success (exact Bool.noConfusion hg_)) <;> (try simp only [prn] at hg_) <;> (try first|contradiction|(exfalso;omega)))
  all_goals first
    | exact ret_v (rv_cell rfl rfl (by (with_reducible first|exact ty3|exact ty4|exact ty5|exact ty9|exact ty17|exact ty19|exact ty22|exact ty24|exact ty25|exact ty26|exact ty28|exact ty36|exact ty38|exact ty40|exact ty44|exact ty46|exact ty48|exact ty55|exact ty81|exact ty84|exact ty89|exact ty95|exact ty98|exact ty105|exact ty118|exact ty122|exact ty132|exact ty134|exact ty137|exact ty143|exact ty153|exact ty155|exact ty156|exact ty161)) rfl rfl rfl (dres_agg (by exact ⟨cres_new, cres_nil, trivial⟩)))
    | trace_state
def recL (xs : List Int) : List (List Int) := (scanF (xs.take (scanF xs).2 ++ [])).1
noncomputable def recS (m : Nat) (xs : List Int) : Option Sta := match lastCk (recL xs) with
  | some s => if stOk m s.r s.vs s.gs.length s.ms then some s else none
  | none => none
theorem bytesOk_take {xs : List Int} {n : Nat} (h : bytesOk xs = true) : bytesOk (xs.take n) = true := by
  have hl := bytesOk_len h
  refine bytesOk_of (fun z hz => ?_) (by rw [List.length_take]; omega)
  obtain ⟨i, hi, rfl⟩ := List.getElem_of_mem (List.mem_of_mem_take hz)
  exact bytesOk_get h i hi
theorem diskOk_take {xs ys : List Int} {n : Nat} (h : diskOk xs ys = true) : diskOk (xs.take n) [] = true := by
  obtain ⟨_, h1, _, hb⟩ := diskOk_app h
  unfold diskOk
  rw [bytesOk_take hb]
  have : bytesOk [] = true := rfl
  rw [this]
  simp; omega
set_option maxRecDepth 100000 in
set_option maxHeartbeats 8000000 in
theorem f_specRecover (M : Nat) (nil n1 n2 : Bool) (es : List E3) (xs ys : List Int) (hM : M ≤ 16) (hg : gOk M es = true) (hv : diskOk xs ys = true) (hc : (recL xs).length ≤ 1048576) (hL : ∀ b ∈ recL xs, b.length ≤ 1048576) :
    Fn Try.prog 18 [graphP M nil es, diskP n1 xs n2 ys] (.v (match recS M xs with | some s => stateR s | none => stateP 0 false (List.replicate M 0) (List.replicate M true).isEmpty (List.replicate M true) true [])) := by
  have hl40 := gOk_len hg
  obtain ⟨_, h1, h2, _⟩ := diskOk_app hv
  have K1 := f_ownGraph M nil es (by omega)
  have K2 := f_ownDisk n1 n2 xs ys (by omega) (by omega)
  have K3 := f_specGraphValid M false es (by simp only [maxLen]; omega)
  rw [hg] at K3
  have K4 := f_specDiskValid false false xs ys (by omega) (by omega)
  rw [hv] at K4
  have K5 := f_specRepair false false xs ys hv
  have K6 := f_specRecords false true (xs.take (scanF xs).2) [] (diskOk_take hv)
  rw [show (scanF (xs.take (scanF xs).2 ++ [])).1 = recL xs from rfl] at K6
  have K7 := f_specLast false (recL xs) hc hL
  have K8 := f_specStart M hM
  unfold recS
  generalize xs.take (scanF xs).2 = ts at *
  generalize recL xs = RL at *
  cases hk : lastCk RL with
  | none =>
    rw [hk] at K7
    dsimp only
    have K7' : Fn Try.prog 8 [.one (row false 1 (rowsI RL))] (.tup [stateP 0 true [] true [] true [], .one (bool false)]) := K7
    clear K7 hk hL
    refine fn_of (l := [.cell 4 28]) Try.func18 (by kernel_rfl) rfl Try.ntmps18 rfl rfl ?_; simp only [argEnv, P0.d, Nat.reduceAdd, diskP, graphP, List.map_cons, List.map_nil]
    repeat' (first|(with_reducible first|refine aw_seq ?_|refine thn_normal ?_|refine thn_ret ?_|refine thn_exit ?_|refine blk_normal ?_|refine blk_ret ?_|refine blk_hit ?_|refine blk_miss rfl ?_|refine aw_block ?_|refine aw_ret ?_|refine aw_skip ?_|refine aw_exit ?_|refine w_nil ?_|refine x_nil (by kernel_rfl) ?_)|refine aw_region ?_|refine aw_region_draw (by kernel_rfl) ?_|refine aw_yes rfl ?_|refine aw_no rfl ?_|((with_reducible refine w_seq ?_);first|refine r_q tbOk rfl rfl rfl rfl ?_|refine r_e tbOk rfl rfl rfl rfl rfl ?_|refine r_yes tbOk rfl rfl rfl rfl rfl rfl ?_|refine w_no rfl rfl (lookO_spec rfl) rfl rfl rfl ?_|refine w_un rfl rfl (lookO_spec rfl) rfl rfl ?_)|((with_reducible refine w_drw ?_);first|refine rx_q tbOk rfl rfl rfl rfl ?_|refine rx_e tbOk rfl rfl rfl rfl rfl ?_|refine rx_yes tbOk rfl rfl rfl rfl rfl rfl ?_|refine x_no rfl rfl (lookO_spec rfl) rfl rfl rfl ?_|refine x_un rfl rfl (lookO_spec rfl) rfl rfl ?_)|((first|refine' w_q rfl rfl ?xa rfl ?_|refine' v_q rfl rfl ?xa rfl ?_|refine' w_yes rfl rfl (lookO_spec rfl) rfl ?xa rfl ?_|refine' v_yes rfl rfl (lookO_spec rfl) rfl ?xa rfl ?_);case xa => first|exact k_call K1 rfl ⟨asA_agg (evO_spec rfl) ⟨cAr_r, cAr_r, trivial⟩, trivial⟩|exact k_call K2 rfl ⟨asA_agg (evO_spec rfl) ⟨cAr_r, cAr_r, trivial⟩, trivial⟩|exact k_call K3 rfl ⟨asA_agg (evO_spec rfl) ⟨cAr_r, cAr_r, trivial⟩, trivial⟩|exact k_call K4 rfl ⟨asA_agg (evO_spec rfl) ⟨cAr_r, cAr_r, trivial⟩, trivial⟩|exact k_call K5 rfl ⟨asA_agg (evO_spec rfl) ⟨cAr_r, cAr_r, trivial⟩, trivial⟩|exact k_call K6 rfl ⟨asA_agg (evO_spec rfl) ⟨cAr_r, cAr_r, trivial⟩, trivial⟩|exact k_call K7' rfl ⟨asA_r (evO_spec rfl), trivial⟩|exact k_call K8 rfl ⟨asA_r (evO_spec rfl), trivial⟩)|((first|refine aw_ways rfl ?_ ?_|refine r_split rfl rfl rfl ?_ ?_) <;> intro hg_ <;> fail_if_success (exact Bool.noConfusion hg_)) <;> (try simp only [prn] at hg_) <;> (try first|contradiction|(exfalso;omega)))
    all_goals first
      | exact ret_v (rv_cell rfl rfl (by (with_reducible first|exact ty3|exact ty4|exact ty5|exact ty9|exact ty17|exact ty19|exact ty22|exact ty24|exact ty25|exact ty26|exact ty28|exact ty36|exact ty38|exact ty40|exact ty44|exact ty46|exact ty48|exact ty55|exact ty81|exact ty84|exact ty89|exact ty95|exact ty98|exact ty105|exact ty118|exact ty122|exact ty132|exact ty134|exact ty137|exact ty143|exact ty153|exact ty155|exact ty156|exact ty161)) rfl rfl rfl (dres_agg (by exact ⟨cres_new, cres_new, cres_new, cres_new, trivial⟩)))
      | trace_state
  | some s =>
    rw [hk] at K7
    have hF := Sta.okF (lastCk_ok hk)
    obtain ⟨r, vs, gs, ms⟩ := s
    have b1 : vs.length ≤ 16 := hF.many
    have b2 : gs.length = vs.length := hF.gl
    have b3 : ms.length ≤ 2000 := hF.ml
    have K7' : Fn Try.prog 8 [.one (row false 1 (rowsI RL))] (.tup [stateP r vs.isEmpty vs gs.isEmpty gs ms.isEmpty ms, .one (bool true)]) := K7
    have K9 := f_specStateValid M r vs.isEmpty gs.isEmpty ms.isEmpty vs gs ms (by simp only [maxLen]; omega) (by simp only [maxLen]; omega) (by simp only [maxLen]; omega)
    dsimp only
    clear K7 hk hL hF
    generalize stOk M r vs gs.length ms = ok at *
    cases ok
    · rw [if_neg (by decide)]
      dsimp only
      refine fn_of (l := [.cell 4 28]) Try.func18 (by kernel_rfl) rfl Try.ntmps18 rfl rfl ?_; simp only [argEnv, P0.d, Nat.reduceAdd, diskP, graphP, List.map_cons, List.map_nil]
      repeat' (first|(with_reducible first|refine aw_seq ?_|refine thn_normal ?_|refine thn_ret ?_|refine thn_exit ?_|refine blk_normal ?_|refine blk_ret ?_|refine blk_hit ?_|refine blk_miss rfl ?_|refine aw_block ?_|refine aw_ret ?_|refine aw_skip ?_|refine aw_exit ?_|refine w_nil ?_|refine x_nil (by kernel_rfl) ?_)|refine aw_region ?_|refine aw_region_draw (by kernel_rfl) ?_|refine aw_yes rfl ?_|refine aw_no rfl ?_|((with_reducible refine w_seq ?_);first|refine r_q tbOk rfl rfl rfl rfl ?_|refine r_e tbOk rfl rfl rfl rfl rfl ?_|refine r_yes tbOk rfl rfl rfl rfl rfl rfl ?_|refine w_no rfl rfl (lookO_spec rfl) rfl rfl rfl ?_|refine w_un rfl rfl (lookO_spec rfl) rfl rfl ?_)|((with_reducible refine w_drw ?_);first|refine rx_q tbOk rfl rfl rfl rfl ?_|refine rx_e tbOk rfl rfl rfl rfl rfl ?_|refine rx_yes tbOk rfl rfl rfl rfl rfl rfl ?_|refine x_no rfl rfl (lookO_spec rfl) rfl rfl rfl ?_|refine x_un rfl rfl (lookO_spec rfl) rfl rfl ?_)|((first|refine' w_q rfl rfl ?xa rfl ?_|refine' v_q rfl rfl ?xa rfl ?_|refine' w_yes rfl rfl (lookO_spec rfl) rfl ?xa rfl ?_|refine' v_yes rfl rfl (lookO_spec rfl) rfl ?xa rfl ?_);case xa => first|exact k_call K1 rfl ⟨asA_agg (evO_spec rfl) ⟨cAr_r, cAr_r, trivial⟩, trivial⟩|exact k_call K2 rfl ⟨asA_agg (evO_spec rfl) ⟨cAr_r, cAr_r, trivial⟩, trivial⟩|exact k_call K3 rfl ⟨asA_agg (evO_spec rfl) ⟨cAr_r, cAr_r, trivial⟩, trivial⟩|exact k_call K4 rfl ⟨asA_agg (evO_spec rfl) ⟨cAr_r, cAr_r, trivial⟩, trivial⟩|exact k_call K5 rfl ⟨asA_agg (evO_spec rfl) ⟨cAr_r, cAr_r, trivial⟩, trivial⟩|exact k_call K6 rfl ⟨asA_agg (evO_spec rfl) ⟨cAr_r, cAr_r, trivial⟩, trivial⟩|exact k_call K7' rfl ⟨asA_r (evO_spec rfl), trivial⟩|exact k_call K8 rfl ⟨asA_r (evO_spec rfl), trivial⟩|exact k_call K9 rfl ⟨asA_agg (evO_spec rfl) ⟨cAr_r, cAr_r, cAr_r, cAr_r, trivial⟩, asA_r (evO_spec rfl), trivial⟩)|((first|refine aw_ways rfl ?_ ?_|refine r_split rfl rfl rfl ?_ ?_) <;> intro hg_ <;> fail_if_success (exact Bool.noConfusion hg_)) <;> (try simp only [prn] at hg_) <;> (try first|contradiction|(exfalso;omega)))
      all_goals first
        | exact ret_v (rv_cell rfl rfl (by (with_reducible first|exact ty3|exact ty4|exact ty5|exact ty9|exact ty17|exact ty19|exact ty22|exact ty24|exact ty25|exact ty26|exact ty28|exact ty36|exact ty38|exact ty40|exact ty44|exact ty46|exact ty48|exact ty55|exact ty81|exact ty84|exact ty89|exact ty95|exact ty98|exact ty105|exact ty118|exact ty122|exact ty132|exact ty134|exact ty137|exact ty143|exact ty153|exact ty155|exact ty156|exact ty161)) rfl rfl rfl (dres_agg (by exact ⟨cres_new, cres_new, cres_new, cres_new, trivial⟩)))
        | trace_state
    · rw [if_pos rfl]
      dsimp only
      refine fn_of (l := [.cell 4 28]) Try.func18 (by kernel_rfl) rfl Try.ntmps18 rfl rfl ?_; simp only [argEnv, P0.d, Nat.reduceAdd, diskP, graphP, List.map_cons, List.map_nil]
      repeat' (first|(with_reducible first|refine aw_seq ?_|refine thn_normal ?_|refine thn_ret ?_|refine thn_exit ?_|refine blk_normal ?_|refine blk_ret ?_|refine blk_hit ?_|refine blk_miss rfl ?_|refine aw_block ?_|refine aw_ret ?_|refine aw_skip ?_|refine aw_exit ?_|refine w_nil ?_|refine x_nil (by kernel_rfl) ?_)|refine aw_region ?_|refine aw_region_draw (by kernel_rfl) ?_|refine aw_yes rfl ?_|refine aw_no rfl ?_|((with_reducible refine w_seq ?_);first|refine r_q tbOk rfl rfl rfl rfl ?_|refine r_e tbOk rfl rfl rfl rfl rfl ?_|refine r_yes tbOk rfl rfl rfl rfl rfl rfl ?_|refine w_no rfl rfl (lookO_spec rfl) rfl rfl rfl ?_|refine w_un rfl rfl (lookO_spec rfl) rfl rfl ?_)|((with_reducible refine w_drw ?_);first|refine rx_q tbOk rfl rfl rfl rfl ?_|refine rx_e tbOk rfl rfl rfl rfl rfl ?_|refine rx_yes tbOk rfl rfl rfl rfl rfl rfl ?_|refine x_no rfl rfl (lookO_spec rfl) rfl rfl rfl ?_|refine x_un rfl rfl (lookO_spec rfl) rfl rfl ?_)|((first|refine' w_q rfl rfl ?xa rfl ?_|refine' v_q rfl rfl ?xa rfl ?_|refine' w_yes rfl rfl (lookO_spec rfl) rfl ?xa rfl ?_|refine' v_yes rfl rfl (lookO_spec rfl) rfl ?xa rfl ?_);case xa => first|exact k_call K1 rfl ⟨asA_agg (evO_spec rfl) ⟨cAr_r, cAr_r, trivial⟩, trivial⟩|exact k_call K2 rfl ⟨asA_agg (evO_spec rfl) ⟨cAr_r, cAr_r, trivial⟩, trivial⟩|exact k_call K3 rfl ⟨asA_agg (evO_spec rfl) ⟨cAr_r, cAr_r, trivial⟩, trivial⟩|exact k_call K4 rfl ⟨asA_agg (evO_spec rfl) ⟨cAr_r, cAr_r, trivial⟩, trivial⟩|exact k_call K5 rfl ⟨asA_agg (evO_spec rfl) ⟨cAr_r, cAr_r, trivial⟩, trivial⟩|exact k_call K6 rfl ⟨asA_agg (evO_spec rfl) ⟨cAr_r, cAr_r, trivial⟩, trivial⟩|exact k_call K7' rfl ⟨asA_r (evO_spec rfl), trivial⟩|exact k_call K8 rfl ⟨asA_r (evO_spec rfl), trivial⟩|exact k_call K9 rfl ⟨asA_agg (evO_spec rfl) ⟨cAr_r, cAr_r, cAr_r, cAr_r, trivial⟩, asA_r (evO_spec rfl), trivial⟩)|((first|refine aw_ways rfl ?_ ?_|refine r_split rfl rfl rfl ?_ ?_) <;> intro hg_ <;> fail_if_success (exact Bool.noConfusion hg_)) <;> (try simp only [prn] at hg_) <;> (try first|contradiction|(exfalso;omega)))
      all_goals first
        | exact ret_v (rv_cell rfl rfl (by (with_reducible first|exact ty3|exact ty4|exact ty5|exact ty9|exact ty17|exact ty19|exact ty22|exact ty24|exact ty25|exact ty26|exact ty28|exact ty36|exact ty38|exact ty40|exact ty44|exact ty46|exact ty48|exact ty55|exact ty81|exact ty84|exact ty89|exact ty95|exact ty98|exact ty105|exact ty118|exact ty122|exact ty132|exact ty134|exact ty137|exact ty143|exact ty153|exact ty155|exact ty156|exact ty161)) rfl rfl rfl (dres_agg (by exact ⟨cres_new, cres_new, cres_new, cres_new, trivial⟩)))
        | trace_state
set_option maxRecDepth 100000 in
set_option maxHeartbeats 8000000 in
theorem f_implRecover0 (M : Nat) (nil n1 n2 : Bool) (es : List E3) (xs ys : List Int) (hM : M ≤ 16) (hg : gOk M es = true) (hv : diskOk xs ys = true) (hn1 : n1 = true → xs = []) (hc : (recL xs).length ≤ 1048576) (hk : lastCk (recL xs) = none) :
    FnS Try.prog 21 [.agg [.r false (int (M : Int)), .r false (row nil 3 (edges es))], .agg [.r false (row n1 1 (ints xs)), .r false (row n2 1 (ints ys))]] [] (.agg [.r true (int 0), .own 2000001 0 M 1, .own 2000002 0 M 1, Zc]) [(2000001, .sl 3 1 true (ints (List.replicate M 0))), (2000002, .sl 4 1 true (bools (List.replicate M true)))] := by
  have hl40 := gOk_len hg
  obtain ⟨_, h1, h2, _⟩ := diskOk_app hv
  have K3 := f_implGraphValid M nil es (by simp only [maxLen]; omega)
  rw [hg] at K3
  have K4 := f_implDiskValid n1 n2 xs ys (by omega) (by omega)
  rw [hv] at K4
  have K5 := f_implRepair n1 n2 xs ys hn1 hv
  have K6 := f_implRecords n1 true (xs.take (scanF xs).2) [] (diskOk_take hv)
  rw [show (scanF (xs.take (scanF xs).2 ++ [])).1 = recL xs from rfl] at K6
  have K7 := f_implLast (decide (recL xs = [])) (recL xs) hc
  rw [hk] at K7
  unfold stT stH at K7
  have K8 := f_implStartS M hM
  generalize xs.take (scanF xs).2 = ts at *
  generalize decide (recL xs = []) = nr at *
  generalize recL xs = RL at *
  clear hk
  refine fnS_of (l := [.cell 4 28]) Try.func21 (by kernel_rfl) rfl Try.ntmps21 rfl rfl ?_; simp only [dEnv, Nat.reduceAdd]
  repeat' (first|(with_reducible first|refine aw_seq ?_|refine thn_normal ?_|refine thn_ret ?_|refine thn_exit ?_|refine blk_normal ?_|refine blk_ret ?_|refine blk_hit ?_|refine blk_miss rfl ?_|refine aw_block ?_|refine aw_ret ?_|refine aw_skip ?_|refine aw_exit ?_|refine w_nil ?_|refine x_nil (by kernel_rfl) ?_)|refine aw_region ?_|refine aw_region_draw (by kernel_rfl) ?_|refine aw_yes rfl ?_|refine aw_no rfl ?_|((with_reducible refine w_seq ?_);first|refine r_q tbOk rfl rfl rfl rfl ?_|refine r_e tbOk rfl rfl rfl rfl rfl ?_|refine r_yes tbOk rfl rfl rfl rfl rfl rfl ?_|refine w_no rfl rfl (lookO_spec rfl) rfl rfl rfl ?_|refine w_un rfl rfl (lookO_spec rfl) rfl rfl ?_)|((with_reducible refine w_drw ?_);first|refine rx_q tbOk rfl rfl rfl rfl ?_|refine rx_e tbOk rfl rfl rfl rfl rfl ?_|refine rx_yes tbOk rfl rfl rfl rfl rfl rfl ?_|refine x_no rfl rfl (lookO_spec rfl) rfl rfl rfl ?_|refine x_un rfl rfl (lookO_spec rfl) rfl rfl ?_)|((first|refine' w_q rfl rfl ?xa rfl ?_|refine' v_q rfl rfl ?xa rfl ?_|refine' w_yes rfl rfl (lookO_spec rfl) rfl ?xa rfl ?_|refine' v_yes rfl rfl (lookO_spec rfl) rfl ?xa rfl ?_);case xa => first|exact k_call K3 rfl ⟨asA_agg (evO_spec rfl) ⟨cAr_r, cAr_r, trivial⟩, trivial⟩|exact k_call K4 rfl ⟨asA_agg (evO_spec rfl) ⟨cAr_r, cAr_r, trivial⟩, trivial⟩|exact k_call K5 rfl ⟨asA_agg (evO_spec rfl) ⟨cAr_r, cAr_r, trivial⟩, trivial⟩|exact k_call K6 rfl ⟨asA_agg (evO_spec rfl) ⟨cAr_r, cAr_r, trivial⟩, trivial⟩)|((first|refine' w_e rfl ?xa ?xb ?xc ?xe ?_|refine' v_e rfl ?xa ?xb ?xc ?xe ?_);(case xa => first|exact at_dst 20 rfl (e_callS0 (ys := [.one (row nr 1 (rowsI RL))]) [] K7 rfl rfl ⟨asA_r (evO_spec rfl), trivial⟩ rfl rfl)|exact at_dst 34 rfl (e_callS0 (ys := [iP (M : Int)]) [(2000001, 501), (2000002, 502)] K8 rfl rfl ⟨asA_r (evO_spec rfl), trivial⟩ rfl rfl));(case xb => rfl);(case xc => rfl);(case xe => rfl);try dsimp only [P0.d, Res.d, List.map_cons, List.map_nil, List.set_cons_zero, List.set_cons_succ, Nat.reduceAdd])|((first|refine aw_ways rfl ?_ ?_|refine r_split rfl rfl rfl ?_ ?_) <;> intro hg_ <;> fail_if_success (exact Bool.noConfusion hg_)) <;> (try simp only [prn] at hg_) <;> (try first|contradiction|(exfalso;omega)))
  all_goals first
    | exact ret_D [(2000001, 501), (2000002, 502)] rfl (by (repeat' (first|exact trivial|refine subHR_cons rfl ?_ ?_|rfl))) (retD_cell rfl rfl (by (with_reducible first|exact ty3|exact ty4|exact ty5|exact ty9|exact ty17|exact ty19|exact ty22|exact ty24|exact ty25|exact ty26|exact ty28|exact ty36|exact ty38|exact ty40|exact ty44|exact ty46|exact ty48|exact ty55|exact ty81|exact ty84|exact ty89|exact ty95|exact ty98|exact ty105|exact ty118|exact ty122|exact ty132|exact ty134|exact ty137|exact ty143|exact ty153|exact ty155|exact ty156|exact ty161)) rfl rfl rfl (imp_refl rfl))
    | trace_state
set_option maxRecDepth 100000 in
set_option maxHeartbeats 8000000 in
theorem f_implRecoverNZZ (M : Nat) (nil n1 n2 : Bool) (es : List E3) (xs ys : List Int) (hM : M ≤ 16) (hg : gOk M es = true) (hv : diskOk xs ys = true) (hn1 : n1 = true → xs = []) (hc : (recL xs).length ≤ 1048576) (r : Int) (hk : lastCk (recL xs) = some ⟨r, [], [], []⟩) (hst : stOk M r [] ([] : List Bool).length [] = false) :
    FnS Try.prog 21 [.agg [.r false (int (M : Int)), .r false (row nil 3 (edges es))], .agg [.r false (row n1 1 (ints xs)), .r false (row n2 1 (ints ys))]] [] (.agg [.r true (int 0), .own 2000001 0 M 1, .own 2000002 0 M 1, Zc]) [(2000001, .sl 3 1 true (ints (List.replicate M 0))), (2000002, .sl 4 1 true (bools (List.replicate M true)))] := by
  have hl40 := gOk_len hg
  obtain ⟨_, h1, h2, _⟩ := diskOk_app hv
  have K3 := f_implGraphValid M nil es (by simp only [maxLen]; omega)
  rw [hg] at K3
  have K4 := f_implDiskValid n1 n2 xs ys (by omega) (by omega)
  rw [hv] at K4
  have K5 := f_implRepair n1 n2 xs ys hn1 hv
  have K6 := f_implRecords n1 true (xs.take (scanF xs).2) [] (diskOk_take hv)
  rw [show (scanF (xs.take (scanF xs).2 ++ [])).1 = recL xs from rfl] at K6
  have K7 := f_implLast (decide (recL xs = [])) (recL xs) hc
  rw [hk] at K7
  have hT : stT (some ⟨r, [], [], []⟩) = .tups [(true, [.r true (int r), Zc, Zc, Zc]), (false, [.r true (bool true)])] := rfl
  have hH : stH (some ⟨r, [], [], []⟩) = [] := rfl
  rw [hT, hH] at K7
  clear hT hH
  have K9 := f_implStateValid M r true true true [] [] [] (by simp only [maxLen, List.length_nil]; omega) (by simp only [maxLen, List.length_nil]; omega) (by simp only [maxLen, List.length_nil]; omega)
  rw [hst] at K9
  have K8 := f_implStartS M hM
  generalize xs.take (scanF xs).2 = ts at *
  generalize decide (recL xs = []) = nr at *
  generalize recL xs = RL at *
  clear hk
  refine fnS_of (l := [.cell 4 28]) Try.func21 (by kernel_rfl) rfl Try.ntmps21 rfl rfl ?_; simp only [dEnv, Nat.reduceAdd]
  repeat' (first|(with_reducible first|refine aw_seq ?_|refine thn_normal ?_|refine thn_ret ?_|refine thn_exit ?_|refine blk_normal ?_|refine blk_ret ?_|refine blk_hit ?_|refine blk_miss rfl ?_|refine aw_block ?_|refine aw_ret ?_|refine aw_skip ?_|refine aw_exit ?_|refine w_nil ?_|refine x_nil (by kernel_rfl) ?_)|refine aw_region ?_|refine aw_region_draw (by kernel_rfl) ?_|refine aw_yes rfl ?_|refine aw_no rfl ?_|((with_reducible refine w_seq ?_);first|refine r_q tbOk rfl rfl rfl rfl ?_|refine r_e tbOk rfl rfl rfl rfl rfl ?_|refine r_yes tbOk rfl rfl rfl rfl rfl rfl ?_|refine w_no rfl rfl (lookO_spec rfl) rfl rfl rfl ?_|refine w_un rfl rfl (lookO_spec rfl) rfl rfl ?_)|((with_reducible refine w_drw ?_);first|refine rx_q tbOk rfl rfl rfl rfl ?_|refine rx_e tbOk rfl rfl rfl rfl rfl ?_|refine rx_yes tbOk rfl rfl rfl rfl rfl rfl ?_|refine x_no rfl rfl (lookO_spec rfl) rfl rfl rfl ?_|refine x_un rfl rfl (lookO_spec rfl) rfl rfl ?_)|((first|refine' w_q rfl rfl ?xa rfl ?_|refine' v_q rfl rfl ?xa rfl ?_|refine' w_yes rfl rfl (lookO_spec rfl) rfl ?xa rfl ?_|refine' v_yes rfl rfl (lookO_spec rfl) rfl ?xa rfl ?_);case xa => first|exact k_call K3 rfl ⟨asA_agg (evO_spec rfl) ⟨cAr_r, cAr_r, trivial⟩, trivial⟩|exact k_call K4 rfl ⟨asA_agg (evO_spec rfl) ⟨cAr_r, cAr_r, trivial⟩, trivial⟩|exact k_call K5 rfl ⟨asA_agg (evO_spec rfl) ⟨cAr_r, cAr_r, trivial⟩, trivial⟩|exact k_call K6 rfl ⟨asA_agg (evO_spec rfl) ⟨cAr_r, cAr_r, trivial⟩, trivial⟩|exact k_call K9 rfl ⟨asA_agg (evO_spec rfl) ⟨cAr_r, cAr_nil, cAr_nil, cAr_nil, trivial⟩, asA_r (evO_spec rfl), trivial⟩)|((first|refine' w_e rfl ?xa ?xb ?xc ?xe ?_|refine' v_e rfl ?xa ?xb ?xc ?xe ?_);(case xa => first|exact at_dst 20 rfl (e_callS0 (ys := [.one (row nr 1 (rowsI RL))]) [(2000001, 501), (2000002, 502), (2000003, 503)] K7 rfl rfl ⟨asA_r (evO_spec rfl), trivial⟩ rfl rfl)|exact at_dst 34 rfl (e_callS0 (ys := [iP (M : Int)]) [(2000001, 504), (2000002, 505)] K8 rfl rfl ⟨asA_r (evO_spec rfl), trivial⟩ rfl rfl));(case xb => rfl);(case xc => rfl);(case xe => rfl);try dsimp only [P0.d, Res.d, List.map_cons, List.map_nil, List.set_cons_zero, List.set_cons_succ, Nat.reduceAdd])|((first|refine aw_ways rfl ?_ ?_|refine r_split rfl rfl rfl ?_ ?_) <;> intro hg_ <;> fail_if_success (exact Bool.noConfusion hg_)) <;> (try simp only [prn] at hg_) <;> (try first|contradiction|(exfalso;omega)))
  all_goals first
    | exact ret_D [(2000001, 504), (2000002, 505), (2000003, 503)] rfl (by (repeat' (first|exact trivial|refine subHR_cons rfl ?_ ?_|rfl))) (retD_cell rfl rfl (by (with_reducible first|exact ty3|exact ty4|exact ty5|exact ty9|exact ty17|exact ty19|exact ty22|exact ty24|exact ty25|exact ty26|exact ty28|exact ty36|exact ty38|exact ty40|exact ty44|exact ty46|exact ty48|exact ty55|exact ty81|exact ty84|exact ty89|exact ty95|exact ty98|exact ty105|exact ty118|exact ty122|exact ty132|exact ty134|exact ty137|exact ty143|exact ty153|exact ty155|exact ty156|exact ty161)) rfl rfl rfl (imp_refl rfl))
    | trace_state
set_option maxRecDepth 100000 in
set_option maxHeartbeats 8000000 in
theorem f_implRecoverYZZ (M : Nat) (nil n1 n2 : Bool) (es : List E3) (xs ys : List Int) (hM : M ≤ 16) (hg : gOk M es = true) (hv : diskOk xs ys = true) (hn1 : n1 = true → xs = []) (hc : (recL xs).length ≤ 1048576) (r : Int) (hk : lastCk (recL xs) = some ⟨r, [], [], []⟩) (hst : stOk M r [] ([] : List Bool).length [] = true) :
    FnS Try.prog 21 [.agg [.r false (int (M : Int)), .r false (row nil 3 (edges es))], .agg [.r false (row n1 1 (ints xs)), .r false (row n2 1 (ints ys))]] [] (.agg [.r true (int r), Zc, Zc, Zc]) [] := by
  have hl40 := gOk_len hg
  obtain ⟨_, h1, h2, _⟩ := diskOk_app hv
  have K3 := f_implGraphValid M nil es (by simp only [maxLen]; omega)
  rw [hg] at K3
  have K4 := f_implDiskValid n1 n2 xs ys (by omega) (by omega)
  rw [hv] at K4
  have K5 := f_implRepair n1 n2 xs ys hn1 hv
  have K6 := f_implRecords n1 true (xs.take (scanF xs).2) [] (diskOk_take hv)
  rw [show (scanF (xs.take (scanF xs).2 ++ [])).1 = recL xs from rfl] at K6
  have K7 := f_implLast (decide (recL xs = [])) (recL xs) hc
  rw [hk] at K7
  have hT : stT (some ⟨r, [], [], []⟩) = .tups [(true, [.r true (int r), Zc, Zc, Zc]), (false, [.r true (bool true)])] := rfl
  have hH : stH (some ⟨r, [], [], []⟩) = [] := rfl
  rw [hT, hH] at K7
  clear hT hH
  have K9 := f_implStateValid M r true true true [] [] [] (by simp only [maxLen, List.length_nil]; omega) (by simp only [maxLen, List.length_nil]; omega) (by simp only [maxLen, List.length_nil]; omega)
  rw [hst] at K9
  have K8 := f_implStartS M hM
  generalize xs.take (scanF xs).2 = ts at *
  generalize decide (recL xs = []) = nr at *
  generalize recL xs = RL at *
  clear hk
  refine fnS_of (l := [.cell 4 28]) Try.func21 (by kernel_rfl) rfl Try.ntmps21 rfl rfl ?_; simp only [dEnv, Nat.reduceAdd]
  repeat' (first|(with_reducible first|refine aw_seq ?_|refine thn_normal ?_|refine thn_ret ?_|refine thn_exit ?_|refine blk_normal ?_|refine blk_ret ?_|refine blk_hit ?_|refine blk_miss rfl ?_|refine aw_block ?_|refine aw_ret ?_|refine aw_skip ?_|refine aw_exit ?_|refine w_nil ?_|refine x_nil (by kernel_rfl) ?_)|refine aw_region ?_|refine aw_region_draw (by kernel_rfl) ?_|refine aw_yes rfl ?_|refine aw_no rfl ?_|((with_reducible refine w_seq ?_);first|refine r_q tbOk rfl rfl rfl rfl ?_|refine r_e tbOk rfl rfl rfl rfl rfl ?_|refine r_yes tbOk rfl rfl rfl rfl rfl rfl ?_|refine w_no rfl rfl (lookO_spec rfl) rfl rfl rfl ?_|refine w_un rfl rfl (lookO_spec rfl) rfl rfl ?_)|((with_reducible refine w_drw ?_);first|refine rx_q tbOk rfl rfl rfl rfl ?_|refine rx_e tbOk rfl rfl rfl rfl rfl ?_|refine rx_yes tbOk rfl rfl rfl rfl rfl rfl ?_|refine x_no rfl rfl (lookO_spec rfl) rfl rfl rfl ?_|refine x_un rfl rfl (lookO_spec rfl) rfl rfl ?_)|((first|refine' w_q rfl rfl ?xa rfl ?_|refine' v_q rfl rfl ?xa rfl ?_|refine' w_yes rfl rfl (lookO_spec rfl) rfl ?xa rfl ?_|refine' v_yes rfl rfl (lookO_spec rfl) rfl ?xa rfl ?_);case xa => first|exact k_call K3 rfl ⟨asA_agg (evO_spec rfl) ⟨cAr_r, cAr_r, trivial⟩, trivial⟩|exact k_call K4 rfl ⟨asA_agg (evO_spec rfl) ⟨cAr_r, cAr_r, trivial⟩, trivial⟩|exact k_call K5 rfl ⟨asA_agg (evO_spec rfl) ⟨cAr_r, cAr_r, trivial⟩, trivial⟩|exact k_call K6 rfl ⟨asA_agg (evO_spec rfl) ⟨cAr_r, cAr_r, trivial⟩, trivial⟩|exact k_call K9 rfl ⟨asA_agg (evO_spec rfl) ⟨cAr_r, cAr_nil, cAr_nil, cAr_nil, trivial⟩, asA_r (evO_spec rfl), trivial⟩)|((first|refine' w_e rfl ?xa ?xb ?xc ?xe ?_|refine' v_e rfl ?xa ?xb ?xc ?xe ?_);(case xa => first|exact at_dst 20 rfl (e_callS0 (ys := [.one (row nr 1 (rowsI RL))]) [(2000001, 501), (2000002, 502), (2000003, 503)] K7 rfl rfl ⟨asA_r (evO_spec rfl), trivial⟩ rfl rfl)|exact at_dst 34 rfl (e_callS0 (ys := [iP (M : Int)]) [(2000001, 504), (2000002, 505)] K8 rfl rfl ⟨asA_r (evO_spec rfl), trivial⟩ rfl rfl));(case xb => rfl);(case xc => rfl);(case xe => rfl);try dsimp only [P0.d, Res.d, List.map_cons, List.map_nil, List.set_cons_zero, List.set_cons_succ, Nat.reduceAdd])|((first|refine aw_ways rfl ?_ ?_|refine r_split rfl rfl rfl ?_ ?_) <;> intro hg_ <;> fail_if_success (exact Bool.noConfusion hg_)) <;> (try simp only [prn] at hg_) <;> (try first|contradiction|(exfalso;omega)))
  all_goals first
    | exact ret_D [(2000001, 501), (2000002, 502), (2000003, 503)] rfl (by (repeat' (first|exact trivial|refine subHR_cons rfl ?_ ?_|rfl))) (retD_cell rfl rfl (by (with_reducible first|exact ty3|exact ty4|exact ty5|exact ty9|exact ty17|exact ty19|exact ty22|exact ty24|exact ty25|exact ty26|exact ty28|exact ty36|exact ty38|exact ty40|exact ty44|exact ty46|exact ty48|exact ty55|exact ty81|exact ty84|exact ty89|exact ty95|exact ty98|exact ty105|exact ty118|exact ty122|exact ty132|exact ty134|exact ty137|exact ty143|exact ty153|exact ty155|exact ty156|exact ty161)) rfl rfl rfl (imp_refl rfl))
    | trace_state
set_option maxRecDepth 100000 in
set_option maxHeartbeats 8000000 in
theorem f_implRecoverNOZ (M : Nat) (nil n1 n2 : Bool) (es : List E3) (xs ys : List Int) (hM : M ≤ 16) (hg : gOk M es = true) (hv : diskOk xs ys = true) (hn1 : n1 = true → xs = []) (hc : (recL xs).length ≤ 1048576) (r : Int) (vs : List Int) (gs : List Bool) (hvs : vs ≠ []) (hgl : gs.length = vs.length) (b1 : vs.length ≤ 16) (hk : lastCk (recL xs) = some ⟨r, vs, gs, []⟩) (hst : stOk M r vs (gs : List Bool).length [] = false) :
    FnS Try.prog 21 [.agg [.r false (int (M : Int)), .r false (row nil 3 (edges es))], .agg [.r false (row n1 1 (ints xs)), .r false (row n2 1 (ints ys))]] [] (.agg [.r true (int 0), .own 2000001 0 M 1, .own 2000002 0 M 1, Zc]) [(2000001, .sl 3 1 true (ints (List.replicate M 0))), (2000002, .sl 4 1 true (bools (List.replicate M true)))] := by
  have hl40 := gOk_len hg
  obtain ⟨_, h1, h2, _⟩ := diskOk_app hv
  have K3 := f_implGraphValid M nil es (by simp only [maxLen]; omega)
  rw [hg] at K3
  have K4 := f_implDiskValid n1 n2 xs ys (by omega) (by omega)
  rw [hv] at K4
  have K5 := f_implRepair n1 n2 xs ys hn1 hv
  have K6 := f_implRecords n1 true (xs.take (scanF xs).2) [] (diskOk_take hv)
  rw [show (scanF (xs.take (scanF xs).2 ++ [])).1 = recL xs from rfl] at K6
  have K7 := f_implLast (decide (recL xs = [])) (recL xs) hc
  rw [hk] at K7
  have hve : vs.isEmpty = false := by cases vs with
    | nil => exact absurd rfl hvs
    | cons x y => rfl
  have hvi := (ints_len vs).symm
  have hgi := (bools_len gs).symm
  have hT : stT (some ⟨r, vs, gs, []⟩) = .tups [(true, [.r true (int r), .own 2000001 0 vs.length 1, .own 2000002 0 gs.length 1, Zc]), (false, [.r true (bool true)])] := by simp only [stT, rowC, hve]; rfl
  have hH : stH (some ⟨r, vs, gs, []⟩) = [(2000001, .sl 3 1 true (ints vs)), (2000002, .sl 4 1 true (bools gs))] := by simp only [stH, hve]; rfl
  rw [hT, hH] at K7
  clear hT hH
  have K9 := f_implStateValid M r false false true vs gs [] (by simp only [maxLen]; omega) (by simp only [maxLen]; omega) (by simp only [maxLen, List.length_nil]; omega)
  rw [hst] at K9
  have K8 := f_implStartS M hM
  generalize xs.take (scanF xs).2 = ts at *
  generalize decide (recL xs = []) = nr at *
  generalize recL xs = RL at *
  clear hk
  refine fnS_of (l := [.cell 4 28]) Try.func21 (by kernel_rfl) rfl Try.ntmps21 rfl rfl ?_; simp only [dEnv, Nat.reduceAdd]
  repeat' (first|(with_reducible first|refine aw_seq ?_|refine thn_normal ?_|refine thn_ret ?_|refine thn_exit ?_|refine blk_normal ?_|refine blk_ret ?_|refine blk_hit ?_|refine blk_miss rfl ?_|refine aw_block ?_|refine aw_ret ?_|refine aw_skip ?_|refine aw_exit ?_|refine w_nil ?_|refine x_nil (by kernel_rfl) ?_)|refine aw_region ?_|refine aw_region_draw (by kernel_rfl) ?_|refine aw_yes rfl ?_|refine aw_no rfl ?_|((with_reducible refine w_seq ?_);first|refine r_q tbOk rfl rfl rfl rfl ?_|refine r_e tbOk rfl rfl rfl rfl rfl ?_|refine r_yes tbOk rfl rfl rfl rfl rfl rfl ?_|refine w_no rfl rfl (lookO_spec rfl) rfl rfl rfl ?_|refine w_un rfl rfl (lookO_spec rfl) rfl rfl ?_)|((with_reducible refine w_drw ?_);first|refine rx_q tbOk rfl rfl rfl rfl ?_|refine rx_e tbOk rfl rfl rfl rfl rfl ?_|refine rx_yes tbOk rfl rfl rfl rfl rfl rfl ?_|refine x_no rfl rfl (lookO_spec rfl) rfl rfl rfl ?_|refine x_un rfl rfl (lookO_spec rfl) rfl rfl ?_)|((first|refine' w_q rfl rfl ?xa rfl ?_|refine' v_q rfl rfl ?xa rfl ?_|refine' w_yes rfl rfl (lookO_spec rfl) rfl ?xa rfl ?_|refine' v_yes rfl rfl (lookO_spec rfl) rfl ?xa rfl ?_);case xa => first|exact k_call K3 rfl ⟨asA_agg (evO_spec rfl) ⟨cAr_r, cAr_r, trivial⟩, trivial⟩|exact k_call K4 rfl ⟨asA_agg (evO_spec rfl) ⟨cAr_r, cAr_r, trivial⟩, trivial⟩|exact k_call K5 rfl ⟨asA_agg (evO_spec rfl) ⟨cAr_r, cAr_r, trivial⟩, trivial⟩|exact k_call K6 rfl ⟨asA_agg (evO_spec rfl) ⟨cAr_r, cAr_r, trivial⟩, trivial⟩|exact k_call K9 rfl ⟨asA_agg (evO_spec rfl) ⟨cAr_r, cAr_own0 (lookHO_spec rfl) hvi, cAr_own0 (lookHO_spec rfl) hgi, cAr_nil, trivial⟩, asA_r (evO_spec rfl), trivial⟩)|((first|refine' w_e rfl ?xa ?xb ?xc ?xe ?_|refine' v_e rfl ?xa ?xb ?xc ?xe ?_);(case xa => first|exact at_dst 20 rfl (e_callS0 (ys := [.one (row nr 1 (rowsI RL))]) [(2000001, 501), (2000002, 502), (2000003, 503)] K7 rfl rfl ⟨asA_r (evO_spec rfl), trivial⟩ rfl rfl)|exact at_dst 34 rfl (e_callS0 (ys := [iP (M : Int)]) [(2000001, 504), (2000002, 505)] K8 rfl rfl ⟨asA_r (evO_spec rfl), trivial⟩ rfl rfl));(case xb => rfl);(case xc => rfl);(case xe => rfl);try dsimp only [P0.d, Res.d, List.map_cons, List.map_nil, List.set_cons_zero, List.set_cons_succ, Nat.reduceAdd])|((first|refine aw_ways rfl ?_ ?_|refine r_split rfl rfl rfl ?_ ?_) <;> intro hg_ <;> fail_if_success (exact Bool.noConfusion hg_)) <;> (try simp only [prn] at hg_) <;> (try first|contradiction|(exfalso;omega)))
  all_goals first
    | exact ret_D [(2000001, 504), (2000002, 505), (2000003, 503)] rfl (by (repeat' (first|exact trivial|refine subHR_cons rfl ?_ ?_|rfl))) (retD_cell rfl rfl (by (with_reducible first|exact ty3|exact ty4|exact ty5|exact ty9|exact ty17|exact ty19|exact ty22|exact ty24|exact ty25|exact ty26|exact ty28|exact ty36|exact ty38|exact ty40|exact ty44|exact ty46|exact ty48|exact ty55|exact ty81|exact ty84|exact ty89|exact ty95|exact ty98|exact ty105|exact ty118|exact ty122|exact ty132|exact ty134|exact ty137|exact ty143|exact ty153|exact ty155|exact ty156|exact ty161)) rfl rfl rfl (imp_refl rfl))
    | trace_state
set_option maxRecDepth 100000 in
set_option maxHeartbeats 8000000 in
theorem f_implRecoverYOZ (M : Nat) (nil n1 n2 : Bool) (es : List E3) (xs ys : List Int) (hM : M ≤ 16) (hg : gOk M es = true) (hv : diskOk xs ys = true) (hn1 : n1 = true → xs = []) (hc : (recL xs).length ≤ 1048576) (r : Int) (vs : List Int) (gs : List Bool) (hvs : vs ≠ []) (hgl : gs.length = vs.length) (b1 : vs.length ≤ 16) (hk : lastCk (recL xs) = some ⟨r, vs, gs, []⟩) (hst : stOk M r vs (gs : List Bool).length [] = true) :
    FnS Try.prog 21 [.agg [.r false (int (M : Int)), .r false (row nil 3 (edges es))], .agg [.r false (row n1 1 (ints xs)), .r false (row n2 1 (ints ys))]] [] (.agg [.r true (int r), .own 2000001 0 vs.length 1, .own 2000002 0 gs.length 1, Zc]) [(2000001, .sl 3 1 true (ints vs)), (2000002, .sl 4 1 true (bools gs))] := by
  have hl40 := gOk_len hg
  obtain ⟨_, h1, h2, _⟩ := diskOk_app hv
  have K3 := f_implGraphValid M nil es (by simp only [maxLen]; omega)
  rw [hg] at K3
  have K4 := f_implDiskValid n1 n2 xs ys (by omega) (by omega)
  rw [hv] at K4
  have K5 := f_implRepair n1 n2 xs ys hn1 hv
  have K6 := f_implRecords n1 true (xs.take (scanF xs).2) [] (diskOk_take hv)
  rw [show (scanF (xs.take (scanF xs).2 ++ [])).1 = recL xs from rfl] at K6
  have K7 := f_implLast (decide (recL xs = [])) (recL xs) hc
  rw [hk] at K7
  have hve : vs.isEmpty = false := by cases vs with
    | nil => exact absurd rfl hvs
    | cons x y => rfl
  have hvi := (ints_len vs).symm
  have hgi := (bools_len gs).symm
  have hT : stT (some ⟨r, vs, gs, []⟩) = .tups [(true, [.r true (int r), .own 2000001 0 vs.length 1, .own 2000002 0 gs.length 1, Zc]), (false, [.r true (bool true)])] := by simp only [stT, rowC, hve]; rfl
  have hH : stH (some ⟨r, vs, gs, []⟩) = [(2000001, .sl 3 1 true (ints vs)), (2000002, .sl 4 1 true (bools gs))] := by simp only [stH, hve]; rfl
  rw [hT, hH] at K7
  clear hT hH
  have K9 := f_implStateValid M r false false true vs gs [] (by simp only [maxLen]; omega) (by simp only [maxLen]; omega) (by simp only [maxLen, List.length_nil]; omega)
  rw [hst] at K9
  have K8 := f_implStartS M hM
  generalize xs.take (scanF xs).2 = ts at *
  generalize decide (recL xs = []) = nr at *
  generalize recL xs = RL at *
  clear hk
  refine fnS_of (l := [.cell 4 28]) Try.func21 (by kernel_rfl) rfl Try.ntmps21 rfl rfl ?_; simp only [dEnv, Nat.reduceAdd]
  repeat' (first|(with_reducible first|refine aw_seq ?_|refine thn_normal ?_|refine thn_ret ?_|refine thn_exit ?_|refine blk_normal ?_|refine blk_ret ?_|refine blk_hit ?_|refine blk_miss rfl ?_|refine aw_block ?_|refine aw_ret ?_|refine aw_skip ?_|refine aw_exit ?_|refine w_nil ?_|refine x_nil (by kernel_rfl) ?_)|refine aw_region ?_|refine aw_region_draw (by kernel_rfl) ?_|refine aw_yes rfl ?_|refine aw_no rfl ?_|((with_reducible refine w_seq ?_);first|refine r_q tbOk rfl rfl rfl rfl ?_|refine r_e tbOk rfl rfl rfl rfl rfl ?_|refine r_yes tbOk rfl rfl rfl rfl rfl rfl ?_|refine w_no rfl rfl (lookO_spec rfl) rfl rfl rfl ?_|refine w_un rfl rfl (lookO_spec rfl) rfl rfl ?_)|((with_reducible refine w_drw ?_);first|refine rx_q tbOk rfl rfl rfl rfl ?_|refine rx_e tbOk rfl rfl rfl rfl rfl ?_|refine rx_yes tbOk rfl rfl rfl rfl rfl rfl ?_|refine x_no rfl rfl (lookO_spec rfl) rfl rfl rfl ?_|refine x_un rfl rfl (lookO_spec rfl) rfl rfl ?_)|((first|refine' w_q rfl rfl ?xa rfl ?_|refine' v_q rfl rfl ?xa rfl ?_|refine' w_yes rfl rfl (lookO_spec rfl) rfl ?xa rfl ?_|refine' v_yes rfl rfl (lookO_spec rfl) rfl ?xa rfl ?_);case xa => first|exact k_call K3 rfl ⟨asA_agg (evO_spec rfl) ⟨cAr_r, cAr_r, trivial⟩, trivial⟩|exact k_call K4 rfl ⟨asA_agg (evO_spec rfl) ⟨cAr_r, cAr_r, trivial⟩, trivial⟩|exact k_call K5 rfl ⟨asA_agg (evO_spec rfl) ⟨cAr_r, cAr_r, trivial⟩, trivial⟩|exact k_call K6 rfl ⟨asA_agg (evO_spec rfl) ⟨cAr_r, cAr_r, trivial⟩, trivial⟩|exact k_call K9 rfl ⟨asA_agg (evO_spec rfl) ⟨cAr_r, cAr_own0 (lookHO_spec rfl) hvi, cAr_own0 (lookHO_spec rfl) hgi, cAr_nil, trivial⟩, asA_r (evO_spec rfl), trivial⟩)|((first|refine' w_e rfl ?xa ?xb ?xc ?xe ?_|refine' v_e rfl ?xa ?xb ?xc ?xe ?_);(case xa => first|exact at_dst 20 rfl (e_callS0 (ys := [.one (row nr 1 (rowsI RL))]) [(2000001, 501), (2000002, 502), (2000003, 503)] K7 rfl rfl ⟨asA_r (evO_spec rfl), trivial⟩ rfl rfl)|exact at_dst 34 rfl (e_callS0 (ys := [iP (M : Int)]) [(2000001, 504), (2000002, 505)] K8 rfl rfl ⟨asA_r (evO_spec rfl), trivial⟩ rfl rfl));(case xb => rfl);(case xc => rfl);(case xe => rfl);try dsimp only [P0.d, Res.d, List.map_cons, List.map_nil, List.set_cons_zero, List.set_cons_succ, Nat.reduceAdd])|((first|refine aw_ways rfl ?_ ?_|refine r_split rfl rfl rfl ?_ ?_) <;> intro hg_ <;> fail_if_success (exact Bool.noConfusion hg_)) <;> (try simp only [prn] at hg_) <;> (try first|contradiction|(exfalso;omega)))
  all_goals first
    | exact ret_D [(2000001, 501), (2000002, 502), (2000003, 503)] rfl (by (repeat' (first|exact trivial|refine subHR_cons rfl ?_ ?_|rfl))) (retD_cell rfl rfl (by (with_reducible first|exact ty3|exact ty4|exact ty5|exact ty9|exact ty17|exact ty19|exact ty22|exact ty24|exact ty25|exact ty26|exact ty28|exact ty36|exact ty38|exact ty40|exact ty44|exact ty46|exact ty48|exact ty55|exact ty81|exact ty84|exact ty89|exact ty95|exact ty98|exact ty105|exact ty118|exact ty122|exact ty132|exact ty134|exact ty137|exact ty143|exact ty153|exact ty155|exact ty156|exact ty161)) rfl rfl rfl (imp_refl rfl))
    | trace_state
set_option maxRecDepth 100000 in
set_option maxHeartbeats 8000000 in
theorem f_implRecoverNOO (M : Nat) (nil n1 n2 : Bool) (es : List E3) (xs ys : List Int) (hM : M ≤ 16) (hg : gOk M es = true) (hv : diskOk xs ys = true) (hn1 : n1 = true → xs = []) (hc : (recL xs).length ≤ 1048576) (r : Int) (vs : List Int) (gs : List Bool) (hvs : vs ≠ []) (hgl : gs.length = vs.length) (ms : List E3) (hms : ms ≠ []) (b1 : vs.length ≤ 16) (b3 : ms.length ≤ 2000) (hk : lastCk (recL xs) = some ⟨r, vs, gs, ms⟩) (hst : stOk M r vs (gs : List Bool).length ms = false) :
    FnS Try.prog 21 [.agg [.r false (int (M : Int)), .r false (row nil 3 (edges es))], .agg [.r false (row n1 1 (ints xs)), .r false (row n2 1 (ints ys))]] [] (.agg [.r true (int 0), .own 2000001 0 M 1, .own 2000002 0 M 1, Zc]) [(2000001, .sl 3 1 true (ints (List.replicate M 0))), (2000002, .sl 4 1 true (bools (List.replicate M true)))] := by
  have hl40 := gOk_len hg
  obtain ⟨_, h1, h2, _⟩ := diskOk_app hv
  have K3 := f_implGraphValid M nil es (by simp only [maxLen]; omega)
  rw [hg] at K3
  have K4 := f_implDiskValid n1 n2 xs ys (by omega) (by omega)
  rw [hv] at K4
  have K5 := f_implRepair n1 n2 xs ys hn1 hv
  have K6 := f_implRecords n1 true (xs.take (scanF xs).2) [] (diskOk_take hv)
  rw [show (scanF (xs.take (scanF xs).2 ++ [])).1 = recL xs from rfl] at K6
  have K7 := f_implLast (decide (recL xs = [])) (recL xs) hc
  rw [hk] at K7
  have hve : vs.isEmpty = false := by cases vs with
    | nil => exact absurd rfl hvs
    | cons x y => rfl
  have hvi := (ints_len vs).symm
  have hgi := (bools_len gs).symm
  have hme : ms.isEmpty = false := by cases ms with
    | nil => exact absurd rfl hms
    | cons x y => rfl
  have hmi := (edges_len ms).symm
  have hT : stT (some ⟨r, vs, gs, ms⟩) = .tups [(true, [.r true (int r), .own 2000001 0 vs.length 1, .own 2000002 0 gs.length 1, .own 2000003 0 ms.length 3]), (false, [.r true (bool true)])] := by simp only [stT, rowC, hve, hme]; rfl
  have hH : stH (some ⟨r, vs, gs, ms⟩) = [(2000001, .sl 3 1 true (ints vs)), (2000002, .sl 4 1 true (bools gs)), (2000003, .sl 95 3 true (edges ms))] := by simp only [stH, hve, hme]; rfl
  rw [hT, hH] at K7
  clear hT hH
  have K9 := f_implStateValid M r false false false vs gs ms (by simp only [maxLen]; omega) (by simp only [maxLen]; omega) (by simp only [maxLen]; omega)
  rw [hst] at K9
  have K8 := f_implStartS M hM
  generalize xs.take (scanF xs).2 = ts at *
  generalize decide (recL xs = []) = nr at *
  generalize recL xs = RL at *
  clear hk
  refine fnS_of (l := [.cell 4 28]) Try.func21 (by kernel_rfl) rfl Try.ntmps21 rfl rfl ?_; simp only [dEnv, Nat.reduceAdd]
  repeat' (first|(with_reducible first|refine aw_seq ?_|refine thn_normal ?_|refine thn_ret ?_|refine thn_exit ?_|refine blk_normal ?_|refine blk_ret ?_|refine blk_hit ?_|refine blk_miss rfl ?_|refine aw_block ?_|refine aw_ret ?_|refine aw_skip ?_|refine aw_exit ?_|refine w_nil ?_|refine x_nil (by kernel_rfl) ?_)|refine aw_region ?_|refine aw_region_draw (by kernel_rfl) ?_|refine aw_yes rfl ?_|refine aw_no rfl ?_|((with_reducible refine w_seq ?_);first|refine r_q tbOk rfl rfl rfl rfl ?_|refine r_e tbOk rfl rfl rfl rfl rfl ?_|refine r_yes tbOk rfl rfl rfl rfl rfl rfl ?_|refine w_no rfl rfl (lookO_spec rfl) rfl rfl rfl ?_|refine w_un rfl rfl (lookO_spec rfl) rfl rfl ?_)|((with_reducible refine w_drw ?_);first|refine rx_q tbOk rfl rfl rfl rfl ?_|refine rx_e tbOk rfl rfl rfl rfl rfl ?_|refine rx_yes tbOk rfl rfl rfl rfl rfl rfl ?_|refine x_no rfl rfl (lookO_spec rfl) rfl rfl rfl ?_|refine x_un rfl rfl (lookO_spec rfl) rfl rfl ?_)|((first|refine' w_q rfl rfl ?xa rfl ?_|refine' v_q rfl rfl ?xa rfl ?_|refine' w_yes rfl rfl (lookO_spec rfl) rfl ?xa rfl ?_|refine' v_yes rfl rfl (lookO_spec rfl) rfl ?xa rfl ?_);case xa => first|exact k_call K3 rfl ⟨asA_agg (evO_spec rfl) ⟨cAr_r, cAr_r, trivial⟩, trivial⟩|exact k_call K4 rfl ⟨asA_agg (evO_spec rfl) ⟨cAr_r, cAr_r, trivial⟩, trivial⟩|exact k_call K5 rfl ⟨asA_agg (evO_spec rfl) ⟨cAr_r, cAr_r, trivial⟩, trivial⟩|exact k_call K6 rfl ⟨asA_agg (evO_spec rfl) ⟨cAr_r, cAr_r, trivial⟩, trivial⟩|exact k_call K9 rfl ⟨asA_agg (evO_spec rfl) ⟨cAr_r, cAr_own0 (lookHO_spec rfl) hvi, cAr_own0 (lookHO_spec rfl) hgi, cAr_own0 (lookHO_spec rfl) hmi, trivial⟩, asA_r (evO_spec rfl), trivial⟩)|((first|refine' w_e rfl ?xa ?xb ?xc ?xe ?_|refine' v_e rfl ?xa ?xb ?xc ?xe ?_);(case xa => first|exact at_dst 20 rfl (e_callS0 (ys := [.one (row nr 1 (rowsI RL))]) [(2000001, 501), (2000002, 502), (2000003, 503)] K7 rfl rfl ⟨asA_r (evO_spec rfl), trivial⟩ rfl rfl)|exact at_dst 34 rfl (e_callS0 (ys := [iP (M : Int)]) [(2000001, 504), (2000002, 505)] K8 rfl rfl ⟨asA_r (evO_spec rfl), trivial⟩ rfl rfl));(case xb => rfl);(case xc => rfl);(case xe => rfl);try dsimp only [P0.d, Res.d, List.map_cons, List.map_nil, List.set_cons_zero, List.set_cons_succ, Nat.reduceAdd])|((first|refine aw_ways rfl ?_ ?_|refine r_split rfl rfl rfl ?_ ?_) <;> intro hg_ <;> fail_if_success (exact Bool.noConfusion hg_)) <;> (try simp only [prn] at hg_) <;> (try first|contradiction|(exfalso;omega)))
  all_goals first
    | exact ret_D [(2000001, 504), (2000002, 505), (2000003, 503)] rfl (by (repeat' (first|exact trivial|refine subHR_cons rfl ?_ ?_|rfl))) (retD_cell rfl rfl (by (with_reducible first|exact ty3|exact ty4|exact ty5|exact ty9|exact ty17|exact ty19|exact ty22|exact ty24|exact ty25|exact ty26|exact ty28|exact ty36|exact ty38|exact ty40|exact ty44|exact ty46|exact ty48|exact ty55|exact ty81|exact ty84|exact ty89|exact ty95|exact ty98|exact ty105|exact ty118|exact ty122|exact ty132|exact ty134|exact ty137|exact ty143|exact ty153|exact ty155|exact ty156|exact ty161)) rfl rfl rfl (imp_refl rfl))
    | trace_state
set_option maxRecDepth 100000 in
set_option maxHeartbeats 8000000 in
theorem f_implRecoverYOO (M : Nat) (nil n1 n2 : Bool) (es : List E3) (xs ys : List Int) (hM : M ≤ 16) (hg : gOk M es = true) (hv : diskOk xs ys = true) (hn1 : n1 = true → xs = []) (hc : (recL xs).length ≤ 1048576) (r : Int) (vs : List Int) (gs : List Bool) (hvs : vs ≠ []) (hgl : gs.length = vs.length) (ms : List E3) (hms : ms ≠ []) (b1 : vs.length ≤ 16) (b3 : ms.length ≤ 2000) (hk : lastCk (recL xs) = some ⟨r, vs, gs, ms⟩) (hst : stOk M r vs (gs : List Bool).length ms = true) :
    FnS Try.prog 21 [.agg [.r false (int (M : Int)), .r false (row nil 3 (edges es))], .agg [.r false (row n1 1 (ints xs)), .r false (row n2 1 (ints ys))]] [] (.agg [.r true (int r), .own 2000001 0 vs.length 1, .own 2000002 0 gs.length 1, .own 2000003 0 ms.length 3]) [(2000001, .sl 3 1 true (ints vs)), (2000002, .sl 4 1 true (bools gs)), (2000003, .sl 95 3 true (edges ms))] := by
  have hl40 := gOk_len hg
  obtain ⟨_, h1, h2, _⟩ := diskOk_app hv
  have K3 := f_implGraphValid M nil es (by simp only [maxLen]; omega)
  rw [hg] at K3
  have K4 := f_implDiskValid n1 n2 xs ys (by omega) (by omega)
  rw [hv] at K4
  have K5 := f_implRepair n1 n2 xs ys hn1 hv
  have K6 := f_implRecords n1 true (xs.take (scanF xs).2) [] (diskOk_take hv)
  rw [show (scanF (xs.take (scanF xs).2 ++ [])).1 = recL xs from rfl] at K6
  have K7 := f_implLast (decide (recL xs = [])) (recL xs) hc
  rw [hk] at K7
  have hve : vs.isEmpty = false := by cases vs with
    | nil => exact absurd rfl hvs
    | cons x y => rfl
  have hvi := (ints_len vs).symm
  have hgi := (bools_len gs).symm
  have hme : ms.isEmpty = false := by cases ms with
    | nil => exact absurd rfl hms
    | cons x y => rfl
  have hmi := (edges_len ms).symm
  have hT : stT (some ⟨r, vs, gs, ms⟩) = .tups [(true, [.r true (int r), .own 2000001 0 vs.length 1, .own 2000002 0 gs.length 1, .own 2000003 0 ms.length 3]), (false, [.r true (bool true)])] := by simp only [stT, rowC, hve, hme]; rfl
  have hH : stH (some ⟨r, vs, gs, ms⟩) = [(2000001, .sl 3 1 true (ints vs)), (2000002, .sl 4 1 true (bools gs)), (2000003, .sl 95 3 true (edges ms))] := by simp only [stH, hve, hme]; rfl
  rw [hT, hH] at K7
  clear hT hH
  have K9 := f_implStateValid M r false false false vs gs ms (by simp only [maxLen]; omega) (by simp only [maxLen]; omega) (by simp only [maxLen]; omega)
  rw [hst] at K9
  have K8 := f_implStartS M hM
  generalize xs.take (scanF xs).2 = ts at *
  generalize decide (recL xs = []) = nr at *
  generalize recL xs = RL at *
  clear hk
  refine fnS_of (l := [.cell 4 28]) Try.func21 (by kernel_rfl) rfl Try.ntmps21 rfl rfl ?_; simp only [dEnv, Nat.reduceAdd]
  repeat' (first|(with_reducible first|refine aw_seq ?_|refine thn_normal ?_|refine thn_ret ?_|refine thn_exit ?_|refine blk_normal ?_|refine blk_ret ?_|refine blk_hit ?_|refine blk_miss rfl ?_|refine aw_block ?_|refine aw_ret ?_|refine aw_skip ?_|refine aw_exit ?_|refine w_nil ?_|refine x_nil (by kernel_rfl) ?_)|refine aw_region ?_|refine aw_region_draw (by kernel_rfl) ?_|refine aw_yes rfl ?_|refine aw_no rfl ?_|((with_reducible refine w_seq ?_);first|refine r_q tbOk rfl rfl rfl rfl ?_|refine r_e tbOk rfl rfl rfl rfl rfl ?_|refine r_yes tbOk rfl rfl rfl rfl rfl rfl ?_|refine w_no rfl rfl (lookO_spec rfl) rfl rfl rfl ?_|refine w_un rfl rfl (lookO_spec rfl) rfl rfl ?_)|((with_reducible refine w_drw ?_);first|refine rx_q tbOk rfl rfl rfl rfl ?_|refine rx_e tbOk rfl rfl rfl rfl rfl ?_|refine rx_yes tbOk rfl rfl rfl rfl rfl rfl ?_|refine x_no rfl rfl (lookO_spec rfl) rfl rfl rfl ?_|refine x_un rfl rfl (lookO_spec rfl) rfl rfl ?_)|((first|refine' w_q rfl rfl ?xa rfl ?_|refine' v_q rfl rfl ?xa rfl ?_|refine' w_yes rfl rfl (lookO_spec rfl) rfl ?xa rfl ?_|refine' v_yes rfl rfl (lookO_spec rfl) rfl ?xa rfl ?_);case xa => first|exact k_call K3 rfl ⟨asA_agg (evO_spec rfl) ⟨cAr_r, cAr_r, trivial⟩, trivial⟩|exact k_call K4 rfl ⟨asA_agg (evO_spec rfl) ⟨cAr_r, cAr_r, trivial⟩, trivial⟩|exact k_call K5 rfl ⟨asA_agg (evO_spec rfl) ⟨cAr_r, cAr_r, trivial⟩, trivial⟩|exact k_call K6 rfl ⟨asA_agg (evO_spec rfl) ⟨cAr_r, cAr_r, trivial⟩, trivial⟩|exact k_call K9 rfl ⟨asA_agg (evO_spec rfl) ⟨cAr_r, cAr_own0 (lookHO_spec rfl) hvi, cAr_own0 (lookHO_spec rfl) hgi, cAr_own0 (lookHO_spec rfl) hmi, trivial⟩, asA_r (evO_spec rfl), trivial⟩)|((first|refine' w_e rfl ?xa ?xb ?xc ?xe ?_|refine' v_e rfl ?xa ?xb ?xc ?xe ?_);(case xa => first|exact at_dst 20 rfl (e_callS0 (ys := [.one (row nr 1 (rowsI RL))]) [(2000001, 501), (2000002, 502), (2000003, 503)] K7 rfl rfl ⟨asA_r (evO_spec rfl), trivial⟩ rfl rfl)|exact at_dst 34 rfl (e_callS0 (ys := [iP (M : Int)]) [(2000001, 504), (2000002, 505)] K8 rfl rfl ⟨asA_r (evO_spec rfl), trivial⟩ rfl rfl));(case xb => rfl);(case xc => rfl);(case xe => rfl);try dsimp only [P0.d, Res.d, List.map_cons, List.map_nil, List.set_cons_zero, List.set_cons_succ, Nat.reduceAdd])|((first|refine aw_ways rfl ?_ ?_|refine r_split rfl rfl rfl ?_ ?_) <;> intro hg_ <;> fail_if_success (exact Bool.noConfusion hg_)) <;> (try simp only [prn] at hg_) <;> (try first|contradiction|(exfalso;omega)))
  all_goals first
    | exact ret_D [(2000001, 501), (2000002, 502), (2000003, 503)] rfl (by (repeat' (first|exact trivial|refine subHR_cons rfl ?_ ?_|rfl))) (retD_cell rfl rfl (by (with_reducible first|exact ty3|exact ty4|exact ty5|exact ty9|exact ty17|exact ty19|exact ty22|exact ty24|exact ty25|exact ty26|exact ty28|exact ty36|exact ty38|exact ty40|exact ty44|exact ty46|exact ty48|exact ty55|exact ty81|exact ty84|exact ty89|exact ty95|exact ty98|exact ty105|exact ty118|exact ty122|exact ty132|exact ty134|exact ty137|exact ty143|exact ty153|exact ty155|exact ty156|exact ty161)) rfl rfl rfl (imp_refl rfl))
    | trace_state
end Go.Proofs.Ytmkecjamfippfaa.Abs
