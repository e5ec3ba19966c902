/- Hops by states: HopsFrom of the program. No statement of the seat is proved here. -/
import Derived.Test.YthjnidcmhegoeaaDoorTy
import Derived.Lib.Hide
import Derived.Test.YthjnidcmhegoeaaDoorAHopF
import Derived.Test.YthjnidcmhegoeaaDoorABits
set_option linter.unusedSimpArgs false
set_option linter.unusedVariables false
namespace Go.Proofs.YthjnidcmhegoeaaDoor.Abs
open Go.RowKit
open R (val row ref)

/-! ## AHopI -/
theorem unk_set {k m : Nat} {a b : Int} (h : k < m) : (List.replicate k a ++ List.replicate (m - k) b).set k a = List.replicate (k + 1) a ++ List.replicate (m - (k + 1)) b := by
  rw [show m - k = (m - (k + 1)) + 1 by omega, List.replicate_succ, List.set_append_right _ _ (by simp)]
  simp [List.replicate_succ']
set_option maxRecDepth 100000 in
set_option maxHeartbeats 4000000 in
theorem f_unknowns (m : Nat) (hm : m ≤ 16) : FnO Tryd.prog 66 [iP m] 3 1 (ints (List.replicate m (-1))) := by
  refine fn_ofO Tryd.func66 (by kernel_rfl) rfl Tryd.ntmps66 rfl rfl ?_
  simp only [argEnv, P0.d, Nat.reduceAdd, List.map_cons, List.map_nil]
  repeat' (first | (with_reducible first | refine aw_seq ?_ | refine thn_normal ?_ | refine thn_ret ?_ | refine thn_exit ?_ | refine blk_normal ?_ | refine blk_ret ?_ | refine blk_hit ?_ | refine blk_miss rfl ?_ | refine aw_block ?_ | refine aw_ret ?_ | refine aw_skip ?_ | refine aw_exit ?_ | refine w_nil ?_ | refine x_nil (by kernel_rfl) ?_) | refine aw_region ?_ | refine aw_region_draw (by kernel_rfl) ?_ | refine aw_yes rfl ?_ | refine aw_no rfl ?_ | ((with_reducible refine w_seq ?_); first | refine r_q tbOk rfl rfl rfl rfl ?_ | refine r_e tbOk rfl rfl rfl rfl rfl ?_ | refine r_yes tbOk rfl rfl rfl rfl rfl rfl ?_ | refine w_no rfl rfl (lookO_spec rfl) rfl rfl rfl ?_ | refine w_un rfl rfl (lookO_spec rfl) rfl rfl ?_) | ((with_reducible refine w_drw ?_); first | refine rx_q tbOk rfl rfl rfl rfl ?_ | refine rx_e tbOk rfl rfl rfl rfl rfl ?_ | refine rx_yes tbOk rfl rfl rfl rfl rfl rfl ?_ | refine x_no rfl rfl (lookO_spec rfl) rfl rfl rfl ?_ | refine x_un rfl rfl (lookO_spec rfl) rfl rfl ?_) | ((first | refine' w_e rfl ?xa ?xb ?xc ?xe ?_ | refine' v_e rfl ?xa ?xb ?xc ?xe ?_); (case xa => exact e_make tlOk rfl rfl rfl rfl rfl rfl (c := m) rfl rfl (by omega) (by simp only [maxLen]; omega)); (case xb => rfl); (case xc => rfl); (case xe => rfl); try dsimp only [P0.d, Res.d, List.map_cons, List.map_nil, List.set_cons_zero, List.set_cons_succ, Nat.reduceAdd]) | ((first | refine aw_ways rfl ?_ ?_ | refine r_split rfl rfl rfl ?_ ?_) <;> intro hg_ <;> fail_if_success (exact Bool.noConfusion hg_)) <;> (try simp only [prn] at hg_) <;> (try first | contradiction | (exfalso; omega)))
  refine aw_loopI (fun k : Nat => k ≤ m) (fun k => mkS 17 [(9, .one (.r true (int k))), (8, .one (.r true (int m))), (3, .one (.own 100 0 m 1))] [(100, .sl 3 1 true (ints (List.replicate k (-1) ++ List.replicate (m - k) 0)))]) (fun k => m - k) 0 (Nat.zero_le _) (by (refine weak_ren [(100, 6)] rfl ?_ ?_ <;> repeat' (first | exact trivial | refine subR_cons rfl ?_ ?_ | refine subHR_cons rfl ?_ ?_ | rfl | (refine d_int ?_; (first | rfl | omega | (rw [IntWalk.i64_in _ (by omega)] <;> omega) | (simp; done) | (simp; omega))) | (refine d_bool ?_; (first | (simp_all; done) | (rw [Bool.eq_iff_iff]; simp_all; done) | (rw [Bool.eq_iff_iff]; simp_all; omega) | (rw [Bool.eq_iff_iff]; simp; omega))) | exact ob_sl rfl (by simp [ints])))) ?_
  intro k hk
  have hlen : (ints (List.replicate k (-1) ++ List.replicate (m - k) 0)).length = m := by rw [ints_len, List.length_append, List.length_replicate, List.length_replicate]; omega
  by_cases hlt : k < m
  · have hS : (ints (List.replicate k (-1) ++ List.replicate (m - k) 0)).set k (iP (-1)) = ints (List.replicate (k + 1) (-1) ++ List.replicate (m - (k + 1)) 0) := by rw [ints_set, unk_set hlt]
    repeat' (first | (with_reducible first | refine aw_seq ?_ | refine thn_normal ?_ | refine thn_ret ?_ | refine thn_exit ?_ | refine blk_normal ?_ | refine blk_ret ?_ | refine blk_hit ?_ | refine blk_miss rfl ?_ | refine aw_block ?_ | refine aw_ret ?_ | refine aw_skip ?_ | refine aw_exit ?_ | refine w_nil ?_ | refine x_nil (by kernel_rfl) ?_) | refine aw_region ?_ | refine aw_region_draw (by kernel_rfl) ?_ | refine aw_yes rfl ?_ | refine aw_no rfl ?_ | ((with_reducible refine w_seq ?_); first | refine r_q tbOk rfl rfl rfl rfl ?_ | refine r_e tbOk rfl rfl rfl rfl rfl ?_ | refine r_yes tbOk rfl rfl rfl rfl rfl rfl ?_ | refine w_no rfl rfl (lookO_spec rfl) rfl rfl rfl ?_ | refine w_un rfl rfl (lookO_spec rfl) rfl rfl ?_) | ((with_reducible refine w_drw ?_); first | refine rx_q tbOk rfl rfl rfl rfl ?_ | refine rx_e tbOk rfl rfl rfl rfl rfl ?_ | refine rx_yes tbOk rfl rfl rfl rfl rfl rfl ?_ | refine x_no rfl rfl (lookO_spec rfl) rfl rfl rfl ?_ | refine x_un rfl rfl (lookO_spec rfl) rfl rfl ?_) | ((first | refine' w_q rfl rfl ?xa rfl ?_ | refine' v_q rfl rfl ?xa rfl ?_ | refine' w_yes rfl rfl (lookO_spec rfl) rfl ?xa rfl ?_ | refine' v_yes rfl rfl (lookO_spec rfl) rfl ?xa rfl ?_); case xa => exact k_indexO tbOk rfl rfl rfl rfl (by omega) (by omega)) | ((first | refine' w_e rfl ?xa ?xb ?xc ?xe ?_ | refine' v_e rfl ?xa ?xb ?xc ?xe ?_); (case xa => exact e_storeS tbOk rfl rfl rfl rfl rfl rfl rfl rfl (by rw [hlen]; omega)); (case xb => rfl); (case xc => rfl); (case xe => rfl); try dsimp only [P0.d, Res.d, List.map_cons, List.map_nil, List.set_cons_zero, List.set_cons_succ, Nat.reduceAdd]) | ((first | refine aw_ways rfl ?_ ?_ | refine r_split rfl rfl rfl ?_ ?_) <;> intro hg_ <;> fail_if_success (exact Bool.noConfusion hg_)) <;> (try simp only [prn] at hg_) <;> (try first | contradiction | (exfalso; omega)))
    all_goals first
      | exact ⟨k + 1, by omega, by (refine weak_ren [(100, 100)] rfl ?_ ?_ <;> repeat' (first | exact trivial | refine subR_cons rfl ?_ ?_ | refine subHR_cons rfl ?_ ?_ | rfl | (refine d_int ?_; (first | rfl | omega | (rw [IntWalk.i64_in _ (by omega)] <;> omega) | (simp; done) | (simp; omega))) | (refine d_bool ?_; (first | (simp_all; done) | (rw [Bool.eq_iff_iff]; simp_all; done) | (rw [Bool.eq_iff_iff]; simp_all; omega) | (rw [Bool.eq_iff_iff]; simp; omega))) | exact d_int (by rw [IntWalk.i64_in _ (by omega)]; omega) | exact ob_sl rfl (by rw [Nat.zero_add]; exact hS))), by omega⟩
      | trace_state
  · obtain rfl : k = m := by omega
    have hE : ints (List.replicate k (-1) ++ List.replicate (k - k) 0) = ints (List.replicate k (-1)) := by simp
    rw [hE]
    clear hE hlen
    repeat' (first | (with_reducible first | refine aw_seq ?_ | refine thn_normal ?_ | refine thn_ret ?_ | refine thn_exit ?_ | refine blk_normal ?_ | refine blk_ret ?_ | refine blk_hit ?_ | refine blk_miss rfl ?_ | refine aw_block ?_ | refine aw_ret ?_ | refine aw_skip ?_ | refine aw_exit ?_ | refine w_nil ?_ | refine x_nil (by kernel_rfl) ?_) | refine aw_region ?_ | refine aw_region_draw (by kernel_rfl) ?_ | refine aw_yes rfl ?_ | refine aw_no rfl ?_ | ((with_reducible refine w_seq ?_); first | refine r_q tbOk rfl rfl rfl rfl ?_ | refine r_e tbOk rfl rfl rfl rfl rfl ?_ | refine r_yes tbOk rfl rfl rfl rfl rfl rfl ?_ | refine w_no rfl rfl (lookO_spec rfl) rfl rfl rfl ?_ | refine w_un rfl rfl (lookO_spec rfl) rfl rfl ?_) | ((with_reducible refine w_drw ?_); first | refine rx_q tbOk rfl rfl rfl rfl ?_ | refine rx_e tbOk rfl rfl rfl rfl rfl ?_ | refine rx_yes tbOk rfl rfl rfl rfl rfl rfl ?_ | refine x_no rfl rfl (lookO_spec rfl) rfl rfl rfl ?_ | refine x_un rfl rfl (lookO_spec rfl) rfl rfl ?_) | ((first | refine aw_ways rfl ?_ ?_ | refine r_split rfl rfl rfl ?_ ?_) <;> intro hg_ <;> fail_if_success (exact Bool.noConfusion hg_)) <;> (try simp only [prn] at hg_) <;> (try first | contradiction | (exfalso; omega)))
    all_goals first
      | exact ret_own rfl rfl (by rw [ints_len, List.length_replicate])
      | trace_state
/-- The neighbours that the masks say. -/
noncomputable def nbR (m : Nat) (es : List E3) (v : Int) : List Int := bitsR ((nextM m es).getD v.toNat 0)
theorem val_at (xs : List Int) (v : Int) : xs.getD (0 + v.toNat) 0 = Go.Proofs.YthjnidcmhegoeaaDoor.val xs v := by rw [Nat.zero_add]; rfl
set_option maxRecDepth 100000 in
set_option maxHeartbeats 8000000 in
theorem f_stepsOver (m : Nat) (es : List E3) (s : Int) (nil : Bool) (ms : List Nat) (hm : m ≤ 16) (hI : Inside m es) (hs : 0 ≤ s ∧ s < (m : Int)) (hL : ms.length = m) (hS : Sm ms) (hN : ∀ v : Int, 0 ≤ v → v < (m : Int) → ∀ u : Int, u ∈ bitsR (ms.getD v.toNat 0) ↔ ∃ e ∈ es, e.1 = v ∧ e.2.1 = u) :
    FnO Tryd.prog 65 [.one (row nil 1 (ms.map mP)), iP s] 3 1 (ints (hopsN m es s m)) := by
  have KU := f_unknowns m hm
  have hml : (ms.map mP).length = m := by rw [List.length_map, hL]
  have hr0 : (ints (List.replicate m (-1))).length = m := by rw [ints_len, List.length_replicate]
  have hst : (ints (List.replicate m (-1))).set (0 + s.toNat) (iP 0) = ints (hops0 m s) := by rw [ints_set, Nat.zero_add]; rfl
  obtain ⟨hB0, hU0⟩ := Bf.init (m := m) (es := es) (s := s) hI hs
  refine fn_ofO Tryd.func65 (by kernel_rfl) rfl Tryd.ntmps65 rfl rfl ?_
  simp only [argEnv, P0.d, Nat.reduceAdd, List.map_cons, List.map_nil]
  rw [← hml] at KU
  repeat' (first | (with_reducible first | refine aw_seq ?_ | refine thn_normal ?_ | refine thn_ret ?_ | refine thn_exit ?_ | refine blk_normal ?_ | refine blk_ret ?_ | refine blk_hit ?_ | refine blk_miss rfl ?_ | refine aw_block ?_ | refine aw_ret ?_ | refine aw_skip ?_ | refine aw_exit ?_ | refine w_nil ?_ | refine x_nil (by kernel_rfl) ?_) | refine aw_region ?_ | refine aw_region_draw (by kernel_rfl) ?_ | refine aw_yes rfl ?_ | refine aw_no rfl ?_ | ((with_reducible refine w_seq ?_); first | refine r_q tbOk rfl rfl rfl rfl ?_ | refine r_e tbOk rfl rfl rfl rfl rfl ?_ | refine r_yes tbOk rfl rfl rfl rfl rfl rfl ?_ | refine w_no rfl rfl (lookO_spec rfl) rfl rfl rfl ?_ | refine w_un rfl rfl (lookO_spec rfl) rfl rfl ?_) | ((with_reducible refine w_drw ?_); first | refine rx_q tbOk rfl rfl rfl rfl ?_ | refine rx_e tbOk rfl rfl rfl rfl rfl ?_ | refine rx_yes tbOk rfl rfl rfl rfl rfl rfl ?_ | refine x_no rfl rfl (lookO_spec rfl) rfl rfl rfl ?_ | refine x_un rfl rfl (lookO_spec rfl) rfl rfl ?_) | ((first | refine' w_q rfl rfl ?xa rfl ?_ | refine' v_q rfl rfl ?xa rfl ?_ | refine' w_yes rfl rfl (lookO_spec rfl) rfl ?xa rfl ?_ | refine' v_yes rfl rfl (lookO_spec rfl) rfl ?xa rfl ?_); case xa => exact k_indexO tbOk rfl rfl rfl rfl (by omega) (by rw [hml, hr0]; omega)) | ((first | refine' w_e rfl ?xa ?xb ?xc ?xe ?_ | refine' v_e rfl ?xa ?xb ?xc ?xe ?_); (case xa => first | exact e_callO KU rfl rfl ⟨asA_r (evO_spec rfl), trivial⟩ | exact e_storeS tbOk rfl rfl rfl rfl rfl rfl rfl rfl (by rw [hml, hr0]; omega) | exact e_build [.tmp 16] tlOk rfl rfl rfl rfl rfl rfl (allN_one rfl) (by simp)); (case xb => rfl); (case xc => rfl); (case xe => rfl); try dsimp only [P0.d, Res.d, List.map_cons, List.map_nil, List.set_cons_zero, List.set_cons_succ, Nat.reduceAdd]) | ((first | refine aw_ways rfl ?_ ?_ | refine r_split rfl rfl rfl ?_ ?_) <;> intro hg_ <;> fail_if_success (exact Bool.noConfusion hg_)) <;> (try simp only [prn] at hg_) <;> (try first | contradiction | (exfalso; omega)))
  rw [hml]
  refine aw_loopI (fun x : List Int × List Int => ∃ d, Bf m es s x.1 x.2 d (fun _ => False) ∧ unset x.1 + x.2.length ≤ m) (fun x => mkS 55 [(6, .one (.own 101 0 x.2.length 1)), (5, .one (.own 100 0 m 1)), (0, .one (.r false (row nil 1 (ms.map mP))))] [(101, .sl 3 1 true (ints x.2)), (100, .sl 3 1 true (ints x.1))]) (fun x => unset x.1 + x.2.length) (hops0 m s, [s]) ⟨0, hB0, by simp; omega⟩ (by (refine weak_ren [(100, 12), (101, 17)] rfl ?_ ?_ <;> repeat' (first | exact trivial | refine subR_cons rfl ?_ ?_ | refine subHR_cons rfl ?_ ?_ | rfl | (refine d_int ?_; (first | rfl | omega | (rw [IntWalk.i64_in _ (by omega)] <;> omega) | (simp; done) | (simp; omega))) | (refine d_bool ?_; (first | (simp_all; done) | (rw [Bool.eq_iff_iff]; simp_all; done) | (rw [Bool.eq_iff_iff]; simp_all; omega) | (rw [Bool.eq_iff_iff]; simp; omega))) | exact d_own hr0 | exact ob_sl rfl hst))) ?_
  rintro ⟨xs, q⟩ ⟨d, hB, hU⟩
  dsimp only at hB hU ⊢
  cases q with
  | nil =>
    have hH := hB.done hI hs
    have hE := hH.uniq (hopsN_isH hI hs)
    rw [← hE]
    have hlx : m = (ints xs).length := by rw [ints_len, hB.len]
    clear hE hH hB0 hB
    repeat' (first | (with_reducible first | refine aw_seq ?_ | refine thn_normal ?_ | refine thn_ret ?_ | refine thn_exit ?_ | refine blk_normal ?_ | refine blk_ret ?_ | refine blk_hit ?_ | refine blk_miss rfl ?_ | refine aw_block ?_ | refine aw_ret ?_ | refine aw_skip ?_ | refine aw_exit ?_ | refine w_nil ?_ | refine x_nil (by kernel_rfl) ?_) | refine aw_region ?_ | refine aw_region_draw (by kernel_rfl) ?_ | refine aw_yes rfl ?_ | refine aw_no rfl ?_ | ((with_reducible refine w_seq ?_); first | refine r_q tbOk rfl rfl rfl rfl ?_ | refine r_e tbOk rfl rfl rfl rfl rfl ?_ | refine r_yes tbOk rfl rfl rfl rfl rfl rfl ?_ | refine w_no rfl rfl (lookO_spec rfl) rfl rfl rfl ?_ | refine w_un rfl rfl (lookO_spec rfl) rfl rfl ?_) | ((with_reducible refine w_drw ?_); first | refine rx_q tbOk rfl rfl rfl rfl ?_ | refine rx_e tbOk rfl rfl rfl rfl rfl ?_ | refine rx_yes tbOk rfl rfl rfl rfl rfl rfl ?_ | refine x_no rfl rfl (lookO_spec rfl) rfl rfl rfl ?_ | refine x_un rfl rfl (lookO_spec rfl) rfl rfl ?_) | ((first | refine aw_ways rfl ?_ ?_ | refine r_split rfl rfl rfl ?_ ?_) <;> intro hg_ <;> fail_if_success (exact Bool.noConfusion hg_)) <;> (try simp only [prn] at hg_) <;> (try first | contradiction | (exfalso; omega)))
    all_goals first
      | exact ret_own rfl rfl hlx
      | trace_state
  | cons v q =>
    have hv := hB.qs v (by simp)
    have K := f_list (ms.getD v.toNat 0) (hS _)
    have hix : (ms.map mP)[v.toNat]? = some (mP (ms.getD v.toNat 0)) := mP_get (by omega)
    have hR := Bf.round hI hs rfl hv.1 (hN v hv.1.1 hv.1.2) hB.pop
    have hAll := Bf.all hI hs (hN v hv.1.1 hv.1.2) hB
    have hLl := Nat.le_trans (bitsR_len (ms.getD v.toNat 0)) (Nat.le_of_lt (hS v.toNat))
    have hLu : ∀ u ∈ bitsR (ms.getD v.toNat 0), 0 ≤ u ∧ u < (m : Int) := fun u hu => by
      obtain ⟨e, he, _, rfl⟩ := (hN v hv.1.1 hv.1.2 u).1 hu
      exact (hI e he).2
    generalize decide (ms.getD v.toNat 0 = 0) = nb at *
    generalize ms.getD v.toNat 0 = x at *
    generalize bitsR x = L at *
    have hfin : ∀ s' : St, Weak s' (mkS 55 [(6, .one (.own 101 0 (visS (Go.Proofs.YthjnidcmhegoeaaDoor.val xs v) L (xs, q)).2.length 1)), (5, .one (.own 100 0 m 1)), (0, .one (.r false (row nil 1 (ms.map mP))))] [(101, .sl 3 1 true (ints (visS (Go.Proofs.YthjnidcmhegoeaaDoor.val xs v) L (xs, q)).2)), (100, .sl 3 1 true (ints (visS (Go.Proofs.YthjnidcmhegoeaaDoor.val xs v) L (xs, q)).1))]) → ∃ x' : List Int × List Int, (∃ d, Bf m es s x'.1 x'.2 d (fun _ => False) ∧ unset x'.1 + x'.2.length ≤ m) ∧ Weak s' (mkS 55 [(6, .one (.own 101 0 x'.2.length 1)), (5, .one (.own 100 0 m 1)), (0, .one (.r false (row nil 1 (ms.map mP))))] [(101, .sl 3 1 true (ints x'.2)), (100, .sl 3 1 true (ints x'.1))]) ∧ unset x'.1 + x'.2.length < unset xs + (v :: q).length := fun s' h => ⟨_, ⟨_, hAll.1, by rw [hAll.2]; rw [List.length_cons] at hU; omega⟩, h, by rw [hAll.2, List.length_cons]; omega⟩
    clear hAll
    repeat' (first | (with_reducible first | refine aw_seq ?_ | refine thn_normal ?_ | refine thn_ret ?_ | refine thn_exit ?_ | refine blk_normal ?_ | refine blk_ret ?_ | refine blk_hit ?_ | refine blk_miss rfl ?_ | refine aw_block ?_ | refine aw_ret ?_ | refine aw_skip ?_ | refine aw_exit ?_ | refine w_nil ?_ | refine x_nil (by kernel_rfl) ?_) | refine aw_region ?_ | refine aw_region_draw (by kernel_rfl) ?_ | refine aw_yes rfl ?_ | refine aw_no rfl ?_ | ((with_reducible refine w_seq ?_); first | refine r_q tbOk rfl rfl rfl rfl ?_ | refine r_e tbOk rfl rfl rfl rfl rfl ?_ | refine r_yes tbOk rfl rfl rfl rfl rfl rfl ?_ | refine w_no rfl rfl (lookO_spec rfl) rfl rfl rfl ?_ | refine w_un rfl rfl (lookO_spec rfl) rfl rfl ?_) | ((with_reducible refine w_drw ?_); first | refine rx_q tbOk rfl rfl rfl rfl ?_ | refine rx_e tbOk rfl rfl rfl rfl rfl ?_ | refine rx_yes tbOk rfl rfl rfl rfl rfl rfl ?_ | refine x_no rfl rfl (lookO_spec rfl) rfl rfl rfl ?_ | refine x_un rfl rfl (lookO_spec rfl) rfl rfl ?_) | ((first | refine' w_q rfl rfl ?xa rfl ?_ | refine' v_q rfl rfl ?xa rfl ?_ | refine' w_yes rfl rfl (lookO_spec rfl) rfl ?xa rfl ?_ | refine' v_yes rfl rfl (lookO_spec rfl) rfl ?xa rfl ?_); case xa => first | exact k_indexO tbOk rfl rfl rfl rfl (by omega) (by simp only [List.length_cons]; omega) | exact k_loadI (xs := v :: q) tbOk rfl rfl rfl rfl (by simp only [List.length_cons]; omega) | exact k_sliceO (a := 1) (b := (v :: q).length) tbOk rfl rfl rfl ⟨_, evO_spec rfl⟩ rfl (by simp only [List.length_cons]; omega) (by simp only [List.length_cons]; omega) | exact k_index tbOk rfl rfl rfl rfl hv.1.1 (by exact hix) | exact k_call K rfl ⟨asA_r (evO_spec rfl), trivial⟩) | ((first | refine aw_ways rfl ?_ ?_ | refine r_split rfl rfl rfl ?_ ?_) <;> intro hg_ <;> fail_if_success (exact Bool.noConfusion hg_)) <;> (try simp only [prn] at hg_) <;> (try first | contradiction | (exfalso; omega)))
    clear KU hr0 hst hB0 hU0 hix hN hS K
    refine aw_loopI (fun i : Nat => i ≤ L.length) (fun i => mkS 55 [(32, .one (.r true (int i))), (31, .one (.r true (int L.length))), (30, .one (.r true (row nb 1 (ints L)))), (7, .one (.r true (int v))), (6, .one (.own 101 0 (visS (Go.Proofs.YthjnidcmhegoeaaDoor.val xs v) (L.take i) (xs, q)).2.length 1)), (5, .one (.own 100 0 m 1)), (0, .one (.r false (row nil 1 (ms.map mP))))] [(101, .sl 3 1 true (ints (visS (Go.Proofs.YthjnidcmhegoeaaDoor.val xs v) (L.take i) (xs, q)).2)), (100, .sl 3 1 true (ints (visS (Go.Proofs.YthjnidcmhegoeaaDoor.val xs v) (L.take i) (xs, q)).1))]) (fun i => L.length - i) 0 (Nat.zero_le _) ((weak_shift 101 102 1 rfl (by rw [ints_len, List.length_cons]; omega) rfl).trans (by (refine weak_ren [(101, 102)] rfl ?_ ?_ <;> repeat' (first | exact trivial | refine subR_cons rfl ?_ ?_ | refine subHR_cons rfl ?_ ?_ | rfl | (refine d_int ?_; (first | rfl | omega | (rw [IntWalk.i64_in _ (by omega)] <;> omega) | (simp; done) | (simp; omega))) | (refine d_bool ?_; (first | (simp_all; done) | (rw [Bool.eq_iff_iff]; simp_all; done) | (rw [Bool.eq_iff_iff]; simp_all; omega) | (rw [Bool.eq_iff_iff]; simp; omega))) | exact d_int (by rw [ints_len]) | exact ob_sl rfl rfl)))) ?_
    intro i hi
    obtain ⟨hR1, hR2, hR3⟩ := hR i hi
    by_cases hlt : i < L.length
    · have hnx : visS (Go.Proofs.YthjnidcmhegoeaaDoor.val xs v) (L.take (i + 1)) (xs, q) = vis (Go.Proofs.YthjnidcmhegoeaaDoor.val xs v) (visS (Go.Proofs.YthjnidcmhegoeaaDoor.val xs v) (L.take i) (xs, q)) L[i] := by rw [List.take_succ_eq_append_getElem hlt, visS_snoc]
      obtain ⟨hu0, hu1⟩ := hLu L[i] (List.getElem_mem hlt)
      have hxi := ints_at hlt
      have hll := ints_len L
      have hD : 0 ≤ Go.Proofs.YthjnidcmhegoeaaDoor.val xs v ∧ Go.Proofs.YthjnidcmhegoeaaDoor.val xs v ≤ 16 := by
        have h1 := hB.pos
        rcases hB.wy v hv.1.1 hv.1.2 with h2 | ⟨k, h2, h3, h4, h5⟩ <;> omega
      clear hfin hR hLu
      generalize Go.Proofs.YthjnidcmhegoeaaDoor.val xs v = d0 at *
      generalize visS d0 (L.take i) (xs, q) = XQ at *
      obtain ⟨XS, Q⟩ := XQ
      dsimp only at *
      generalize L[i] = u at *
      have hXL := hR1.len
      have hXI : (ints XS).length = m := by rw [ints_len, hXL]
      have hQI := ints_len Q
      have hQ16 : Q.length ≤ 40 := by rw [List.length_cons] at hU; omega
      have hdv : XS.getD (0 + v.toNat) 0 = d0 := by rw [val_at]; exact hR2
      have hw : IntKind.i64.wrap (XS.getD (0 + v.toNat) 0 + 1) = d0 + 1 := by rw [hdv]; exact IntWalk.i64_in _ (by omega)
      unfold vis at hnx
      dsimp only at hnx
      rw [← val_at] at hnx
      clear hR1 hR3 hB hI hU
      repeat' (first | (with_reducible first | refine aw_seq ?_ | refine thn_normal ?_ | refine thn_ret ?_ | refine thn_exit ?_ | refine blk_normal ?_ | refine blk_ret ?_ | refine blk_hit ?_ | refine blk_miss rfl ?_ | refine aw_block ?_ | refine aw_ret ?_ | refine aw_skip ?_ | refine aw_exit ?_ | refine w_nil ?_ | refine x_nil (by kernel_rfl) ?_) | refine aw_region ?_ | refine aw_region_draw (by kernel_rfl) ?_ | refine aw_yes rfl ?_ | refine aw_no rfl ?_ | ((with_reducible refine w_seq ?_); first | refine r_q tbOk rfl rfl rfl rfl ?_ | refine r_e tbOk rfl rfl rfl rfl rfl ?_ | refine r_yes tbOk rfl rfl rfl rfl rfl rfl ?_ | refine w_no rfl rfl (lookO_spec rfl) rfl rfl rfl ?_ | refine w_un rfl rfl (lookO_spec rfl) rfl rfl ?_) | ((with_reducible refine w_drw ?_); first | refine rx_q tbOk rfl rfl rfl rfl ?_ | refine rx_e tbOk rfl rfl rfl rfl rfl ?_ | refine rx_yes tbOk rfl rfl rfl rfl rfl rfl ?_ | refine x_no rfl rfl (lookO_spec rfl) rfl rfl rfl ?_ | refine x_un rfl rfl (lookO_spec rfl) rfl rfl ?_) | ((first | refine' w_q rfl rfl ?xa rfl ?_ | refine' v_q rfl rfl ?xa rfl ?_ | refine' w_yes rfl rfl (lookO_spec rfl) rfl ?xa rfl ?_ | refine' v_yes rfl rfl (lookO_spec rfl) rfl ?xa rfl ?_); case xa => first | exact k_index tbOk rfl rfl rfl rfl (by omega) (by exact hxi) | exact k_indexO tbOk rfl rfl rfl rfl (by omega) (by omega) | exact k_loadI tbOk rfl rfl rfl rfl (by omega)) | ((first | refine' w_e rfl ?xa ?xb ?xc ?xe ?_ | refine' v_e rfl ?xa ?xb ?xc ?xe ?_); (case xa => first | exact e_storeS tbOk rfl rfl rfl rfl rfl rfl rfl rfl (by rw [hXI]; omega) | exact e_build [.tmp 50] tlOk rfl rfl rfl rfl rfl rfl (allN_one rfl) (by simp) | exact e_append tlOk rfl rfl rfl rfl rfl rfl (slD_plain (slD_own (lookHO_spec rfl) rfl) (by simp [plain1, iP])) hQI.symm (by simp only [maxLen, List.length_cons, List.length_nil]; omega) (by simp only [List.length_cons, List.length_nil]; omega)); (case xb => rfl); (case xc => rfl); (case xe => rfl); try dsimp only [P0.d, Res.d, List.map_cons, List.map_nil, List.set_cons_zero, List.set_cons_succ, Nat.reduceAdd]) | ((first | refine aw_ways rfl ?_ ?_ | refine r_split rfl rfl rfl ?_ ?_) <;> intro hg_ <;> fail_if_success (exact Bool.noConfusion hg_)) <;> (try simp only [prn] at hg_) <;> (try first | contradiction | (exfalso; omega)))
      all_goals
        first
          | (rw [if_pos (by simpa using hg_)] at hnx
             refine ⟨i + 1, by omega, ?_, by omega⟩
             rw [hnx]
             dsimp only
             (refine weak_ren [(101, 52)] rfl ?_ ?_ <;> repeat' (first | exact trivial | refine subR_cons rfl ?_ ?_ | refine subHR_cons rfl ?_ ?_ | rfl | (refine d_int ?_; (first | rfl | omega | (rw [IntWalk.i64_in _ (by omega)] <;> omega) | (simp; done) | (simp; omega))) | (refine d_bool ?_; (first | (simp_all; done) | (rw [Bool.eq_iff_iff]; simp_all; done) | (rw [Bool.eq_iff_iff]; simp_all; omega) | (rw [Bool.eq_iff_iff]; simp; omega))) | exact d_int (by rw [IntWalk.i64_in _ (by omega)]; omega) | exact d_own (by rw [hQI, List.length_append]; rfl) | exact ob_sl rfl (ints_app _ _).symm | exact ob_sl rfl (by rw [hw, Nat.zero_add]; exact ints_set _ _ _))))
          | (rw [if_neg (by simpa using hg_)] at hnx
             refine ⟨i + 1, by omega, ?_, by omega⟩
             rw [hnx]
             dsimp only
             (refine weak_ren [(101, 101)] rfl ?_ ?_ <;> repeat' (first | exact trivial | refine subR_cons rfl ?_ ?_ | refine subHR_cons rfl ?_ ?_ | rfl | (refine d_int ?_; (first | rfl | omega | (rw [IntWalk.i64_in _ (by omega)] <;> omega) | (simp; done) | (simp; omega))) | (refine d_bool ?_; (first | (simp_all; done) | (rw [Bool.eq_iff_iff]; simp_all; done) | (rw [Bool.eq_iff_iff]; simp_all; omega) | (rw [Bool.eq_iff_iff]; simp; omega))) | exact d_int (by rw [IntWalk.i64_in _ (by omega)]; omega))))
          | trace_state
    · obtain rfl : i = L.length := by omega
      rw [List.take_length] at *
      have hll := ints_len L
      repeat' (first | (with_reducible first | refine aw_seq ?_ | refine thn_normal ?_ | refine thn_ret ?_ | refine thn_exit ?_ | refine blk_normal ?_ | refine blk_ret ?_ | refine blk_hit ?_ | refine blk_miss rfl ?_ | refine aw_block ?_ | refine aw_ret ?_ | refine aw_skip ?_ | refine aw_exit ?_ | refine w_nil ?_ | refine x_nil (by kernel_rfl) ?_) | refine aw_region ?_ | refine aw_region_draw (by kernel_rfl) ?_ | refine aw_yes rfl ?_ | refine aw_no rfl ?_ | ((with_reducible refine w_seq ?_); first | refine r_q tbOk rfl rfl rfl rfl ?_ | refine r_e tbOk rfl rfl rfl rfl rfl ?_ | refine r_yes tbOk rfl rfl rfl rfl rfl rfl ?_ | refine w_no rfl rfl (lookO_spec rfl) rfl rfl rfl ?_ | refine w_un rfl rfl (lookO_spec rfl) rfl rfl ?_) | ((with_reducible refine w_drw ?_); first | refine rx_q tbOk rfl rfl rfl rfl ?_ | refine rx_e tbOk rfl rfl rfl rfl rfl ?_ | refine rx_yes tbOk rfl rfl rfl rfl rfl rfl ?_ | refine x_no rfl rfl (lookO_spec rfl) rfl rfl rfl ?_ | refine x_un rfl rfl (lookO_spec rfl) rfl rfl ?_) | ((first | refine aw_ways rfl ?_ ?_ | refine r_split rfl rfl rfl ?_ ?_) <;> intro hg_ <;> fail_if_success (exact Bool.noConfusion hg_)) <;> (try simp only [prn] at hg_) <;> (try first | contradiction | (exfalso; omega)))
      all_goals first
        | (refine hfin _ ?_
           (refine weak_ren [(101, 101)] rfl ?_ ?_ <;> repeat' (first | exact trivial | refine subR_cons rfl ?_ ?_ | refine subHR_cons rfl ?_ ?_ | rfl | (refine d_int ?_; (first | rfl | omega | (rw [IntWalk.i64_in _ (by omega)] <;> omega) | (simp; done) | (simp; omega))) | (refine d_bool ?_; (first | (simp_all; done) | (rw [Bool.eq_iff_iff]; simp_all; done) | (rw [Bool.eq_iff_iff]; simp_all; omega) | (rw [Bool.eq_iff_iff]; simp; omega))))))
        | trace_state
/-! ## AHopJ -/
theorem addM_bitH {ms : List Nat} {a b : Nat} (ha : a < ms.length) (v p : Nat) : ((addM ms a b).getD v 0).testBit p = ((ms.getD v 0).testBit p || (decide (v = a) && decide (p = b))) := by
  unfold addM
  rw [List.getD_eq_getElem?_getD, List.getElem?_set]
  by_cases h : a = v
  · subst h
    rw [if_pos rfl, if_pos ha]
    simp only [Option.getD_some, Nat.testBit_or, Nat.testBit_two_pow]
    simp [eq_comm]
  · rw [if_neg h, List.getD_eq_getElem?_getD]
    have h' : ¬ v = a := fun e => h e.symm
    simp [h']
def toEH (a b : Int) (e : E3) : Bool := decide (e.1 = a) && decide (e.2.1 = b)
theorem next_bitH (m : Nat) (v p : Nat) : ∀ (es : List E3), (∀ e ∈ es, (0 ≤ e.1 ∧ e.1 < (m : Int)) ∧ (0 ≤ e.2.1 ∧ e.2.1 < (m : Int))) → ∀ ms : List Nat, ms.length = m →
    ((es.foldl (fun ms e => addM ms e.1.toNat e.2.1.toNat) ms).getD v 0).testBit p = ((ms.getD v 0).testBit p || es.any (toEH v p))
  | [], _, ms, _ => by simp
  | e :: es, hg, ms, h1 => by
    have := hg e (by simp)
    rw [List.foldl_cons, next_bitH m v p es (fun e he => hg e (by simp [he])) _ (by rw [addM_len]; exact h1), addM_bitH (by omega), List.any_cons, Bool.or_assoc]
    congr 2
    unfold toEH
    rw [Bool.eq_iff_iff]; simp; omega
theorem f_implHasH (m : Int) (nil : Bool) (es : List E3) (v : Int) : Fn Tryd.prog 61 [graphP m nil es, iP v] (.v (.one (bool (hasV m v)))) := by
  refine fn_of (l := [.tmp 4]) Tryd.func61 (by kernel_rfl) rfl Tryd.ntmps61 rfl rfl ?_; simp only [argEnv, P0.d, Nat.reduceAdd, graphP, List.map_cons, List.map_nil]
  repeat' (first | (with_reducible first | refine aw_seq ?_ | refine thn_normal ?_ | refine thn_ret ?_ | refine thn_exit ?_ | refine blk_normal ?_ | refine blk_ret ?_ | refine blk_hit ?_ | refine blk_miss rfl ?_ | refine aw_block ?_ | refine aw_ret ?_ | refine aw_skip ?_ | refine aw_exit ?_ | refine w_nil ?_ | refine x_nil (by kernel_rfl) ?_) | refine aw_region ?_ | refine aw_region_draw (by kernel_rfl) ?_ | refine aw_yes rfl ?_ | refine aw_no rfl ?_ | ((with_reducible refine w_seq ?_); first | refine r_q tbOk rfl rfl rfl rfl ?_ | refine r_e tbOk rfl rfl rfl rfl rfl ?_ | refine r_yes tbOk rfl rfl rfl rfl rfl rfl ?_ | refine w_no rfl rfl (lookO_spec rfl) rfl rfl rfl ?_ | refine w_un rfl rfl (lookO_spec rfl) rfl rfl ?_) | ((with_reducible refine w_drw ?_); first | refine rx_q tbOk rfl rfl rfl rfl ?_ | refine rx_e tbOk rfl rfl rfl rfl rfl ?_ | refine rx_yes tbOk rfl rfl rfl rfl rfl rfl ?_ | refine x_no rfl rfl (lookO_spec rfl) rfl rfl rfl ?_ | refine x_un rfl rfl (lookO_spec rfl) rfl rfl ?_) | ((first | refine aw_ways rfl ?_ ?_ | refine r_split rfl rfl rfl ?_ ?_) <;> intro hg_ <;> fail_if_success (exact Bool.noConfusion hg_)) <;> (try simp only [prn] at hg_) <;> (try first | contradiction | (exfalso; omega)))
  all_goals exact ret_tmp rfl (dres_bool (by unfold hasV; (first | (simp_all; done) | (rw [Bool.eq_iff_iff]; simp_all; done) | (rw [Bool.eq_iff_iff]; simp_all; omega) | (rw [Bool.eq_iff_iff]; simp; omega))))
theorem nextM_ok {m : Nat} {es : List E3} (hm : m ≤ 16) (hI : Inside m es) : (nextM m es).length = m ∧ Sm (nextM m es) := next_ok m hm es hI _ (by simp) (fun i => by rw [List.getD_eq_getElem?_getD, List.getElem?_replicate]; split <;> simp)
theorem nextM_mem {m : Nat} {es : List E3} (hI : Inside m es) (v : Int) (h0 : 0 ≤ v) (h1 : v < (m : Int)) (u : Int) : u ∈ bitsR ((nextM m es).getD v.toNat 0) ↔ ∃ e ∈ es, e.1 = v ∧ e.2.1 = u := by
  have h0' : ((List.replicate m 0).getD v.toNat 0).testBit u.toNat = false := by
    rw [List.getD_eq_getElem?_getD, List.getElem?_replicate]
    split <;> simp
  rw [mem_bitsR]
  unfold nextM
  rw [next_bitH m v.toNat u.toNat es hI _ (by simp), h0', Bool.false_or, List.any_eq_true]
  constructor
  · rintro ⟨hu, e, he, hE⟩
    refine ⟨e, he, ?_⟩
    unfold toEH at hE; simp at hE; omega
  · rintro ⟨e, he, rfl, rfl⟩
    have := hI e he
    exact ⟨this.2.1, e, he, by unfold toEH; simp; omega⟩
theorem asA_own0H {H : Nat → Option Ob} {k n sz : Nat} {E : TypeId} {els : List P0} {new : Bool} {ev : Operand → D} {x : Operand} (h : ev x = .one (.own k 0 n sz)) (hk : H k = some (.sl E sz new els)) (hn : n = els.length) : AsArg H (ev x) (.one (row false sz els)) := by
  have h2 := asA_own h hk (by omega)
  rwa [List.drop_zero, List.take_of_length_le (by omega)] at h2
theorem hasV_inR (m s : Int) : hasV m s = inR 0 (m - 1) s := by unfold hasV inR; rw [Bool.eq_iff_iff]; simp; omega
set_option maxRecDepth 100000 in
set_option maxHeartbeats 4000000 in
theorem f_implHopsFrom (m : Int) (nil : Bool) (es : List E3) (s : Int) (hl : es.length ≤ 1048576) (hv : (gOk m es && inR 0 (m - 1) s) = true) : FnO Tryd.prog 36 [graphP m nil es, iP s] 3 1 (ints (hopsF m es s)) := by
  have KG := f_implGraphValid m nil es (by simp only [maxLen]; omega)
  have KH := f_implHasH m nil es s
  have hgk : gOk m es = true := by cases h : gOk m es <;> simp_all
  have hR : inR 0 (m - 1) s = true := by cases h : inR 0 (m - 1) s <;> simp_all
  rw [hgk] at KG
  rw [hasV_inR, hR] at KH
  have hm := gOk_m hgk
  have hI := gOk_edges hgk
  have hs : 0 ≤ s ∧ s < m := by unfold inR at hR; simp at hR; omega
  obtain ⟨M, rfl⟩ : ∃ M : Nat, m = (M : Int) := ⟨m.toNat, by omega⟩
  have hIn : Inside M es := fun e he => ⟨(hI e he).1, (hI e he).2.1⟩
  have e : hopsF M es s = hopsN M es s M := by unfold hopsF; rw [hgk, hR]; rfl
  obtain ⟨hL, hS⟩ := nextM_ok (m := M) (by omega) hIn
  have KN := f_nextMasks M nil es (by omega) hl hIn
  have KS := f_stepsOver M es s false (nextM M es) (by omega) hIn hs hL hS (fun v h0 h1 u => nextM_mem hIn v h0 h1 u)
  rw [e]
  clear e hI hv hgk hR hIn
  generalize nextM M es = ms at *
  have hml : (ms.map mP).length = (ms.map mP).length := rfl
  refine fn_ofO Tryd.func36 (by kernel_rfl) rfl Tryd.ntmps36 rfl rfl ?_
  simp only [argEnv, P0.d, Nat.reduceAdd, List.map_cons, List.map_nil, graphP]
  repeat' (first | (with_reducible first | refine aw_seq ?_ | refine thn_normal ?_ | refine thn_ret ?_ | refine thn_exit ?_ | refine blk_normal ?_ | refine blk_ret ?_ | refine blk_hit ?_ | refine blk_miss rfl ?_ | refine aw_block ?_ | refine aw_ret ?_ | refine aw_skip ?_ | refine aw_exit ?_ | refine w_nil ?_ | refine x_nil (by kernel_rfl) ?_) | refine aw_region ?_ | refine aw_region_draw (by kernel_rfl) ?_ | refine aw_yes rfl ?_ | refine aw_no rfl ?_ | ((with_reducible refine w_seq ?_); first | refine r_q tbOk rfl rfl rfl rfl ?_ | refine r_e tbOk rfl rfl rfl rfl rfl ?_ | refine r_yes tbOk rfl rfl rfl rfl rfl rfl ?_ | refine w_no rfl rfl (lookO_spec rfl) rfl rfl rfl ?_ | refine w_un rfl rfl (lookO_spec rfl) rfl rfl ?_) | ((with_reducible refine w_drw ?_); first | refine rx_q tbOk rfl rfl rfl rfl ?_ | refine rx_e tbOk rfl rfl rfl rfl rfl ?_ | refine rx_yes tbOk rfl rfl rfl rfl rfl rfl ?_ | refine x_no rfl rfl (lookO_spec rfl) rfl rfl rfl ?_ | refine x_un rfl rfl (lookO_spec rfl) rfl rfl ?_) | ((first | refine' w_q rfl rfl ?xa rfl ?_ | refine' v_q rfl rfl ?xa rfl ?_ | refine' w_yes rfl rfl (lookO_spec rfl) rfl ?xa rfl ?_ | refine' v_yes rfl rfl (lookO_spec rfl) rfl ?xa rfl ?_); case xa => first | exact k_call KG rfl ⟨asA_agg (evO_spec rfl) ⟨cAr_r, cAr_r, trivial⟩, trivial⟩ | exact k_call KH rfl ⟨asA_agg (evO_spec rfl) ⟨cAr_r, cAr_r, trivial⟩, asA_r (evO_spec rfl), trivial⟩) | ((first | refine' w_e rfl ?xa ?xb ?xc ?xe ?_ | refine' v_e rfl ?xa ?xb ?xc ?xe ?_); (case xa => first | exact e_callO KN rfl rfl ⟨asA_agg (evO_spec rfl) ⟨cAr_r, cAr_r, trivial⟩, trivial⟩ | exact e_callO KS rfl rfl ⟨asA_own0H (evO_spec rfl) (lookHO_spec rfl) rfl, asA_r (evO_spec rfl), trivial⟩); (case xb => rfl); (case xc => rfl); (case xe => rfl); try dsimp only [P0.d, Res.d, List.map_cons, List.map_nil, List.set_cons_zero, List.set_cons_succ, Nat.reduceAdd]) | ((first | refine aw_ways rfl ?_ ?_ | refine r_split rfl rfl rfl ?_ ?_) <;> intro hg_ <;> fail_if_success (exact Bool.noConfusion hg_)) <;> (try simp only [prn] at hg_) <;> (try first | contradiction | (exfalso; omega)))
  all_goals first
    | exact ret_own rfl rfl rfl
    | trace_state
set_option maxRecDepth 100000 in
set_option maxHeartbeats 4000000 in
theorem f_implHopsNo (m : Int) (nil : Bool) (es : List E3) (s : Int) (hl : es.length ≤ 1048576) (hv : (gOk m es && inR 0 (m - 1) s) = false) : Fn Tryd.prog 36 [graphP m nil es, iP s] (.v (.one (row true 1 []))) := by
  have KG := f_implGraphValid m nil es (by simp only [maxLen]; omega)
  have KH := f_implHasH m nil es s
  rw [hasV_inR] at KH
  cases hgk : gOk m es
  · rw [hgk] at KG
    refine fn_of (l := [.tmp 4]) Tryd.func36 (by kernel_rfl) rfl Tryd.ntmps36 rfl rfl ?_; simp only [argEnv, P0.d, Nat.reduceAdd, graphP, List.map_cons, List.map_nil]
    repeat' (first | (with_reducible first | refine aw_seq ?_ | refine thn_normal ?_ | refine thn_ret ?_ | refine thn_exit ?_ | refine blk_normal ?_ | refine blk_ret ?_ | refine blk_hit ?_ | refine blk_miss rfl ?_ | refine aw_block ?_ | refine aw_ret ?_ | refine aw_skip ?_ | refine aw_exit ?_ | refine w_nil ?_ | refine x_nil (by kernel_rfl) ?_) | refine aw_region ?_ | refine aw_region_draw (by kernel_rfl) ?_ | refine aw_yes rfl ?_ | refine aw_no rfl ?_ | ((with_reducible refine w_seq ?_); first | refine r_q tbOk rfl rfl rfl rfl ?_ | refine r_e tbOk rfl rfl rfl rfl rfl ?_ | refine r_yes tbOk rfl rfl rfl rfl rfl rfl ?_ | refine w_no rfl rfl (lookO_spec rfl) rfl rfl rfl ?_ | refine w_un rfl rfl (lookO_spec rfl) rfl rfl ?_) | ((with_reducible refine w_drw ?_); first | refine rx_q tbOk rfl rfl rfl rfl ?_ | refine rx_e tbOk rfl rfl rfl rfl rfl ?_ | refine rx_yes tbOk rfl rfl rfl rfl rfl rfl ?_ | refine x_no rfl rfl (lookO_spec rfl) rfl rfl rfl ?_ | refine x_un rfl rfl (lookO_spec rfl) rfl rfl ?_) | ((first | refine' w_q rfl rfl ?xa rfl ?_ | refine' v_q rfl rfl ?xa rfl ?_ | refine' w_yes rfl rfl (lookO_spec rfl) rfl ?xa rfl ?_ | refine' v_yes rfl rfl (lookO_spec rfl) rfl ?xa rfl ?_); case xa => exact k_call KG rfl ⟨asA_agg (evO_spec rfl) ⟨cAr_r, cAr_r, trivial⟩, trivial⟩) | ((first | refine aw_ways rfl ?_ ?_ | refine r_split rfl rfl rfl ?_ ?_) <;> intro hg_ <;> fail_if_success (exact Bool.noConfusion hg_)) <;> (try simp only [prn] at hg_) <;> (try first | contradiction | (exfalso; omega)))
    all_goals first
      | exact ret_tmp rfl (dres_one cres_nil)
      | trace_state
  · rw [hgk] at KG hv
    rw [Bool.true_and] at hv
    rw [hv] at KH
    refine fn_of (l := [.tmp 4]) Tryd.func36 (by kernel_rfl) rfl Tryd.ntmps36 rfl rfl ?_; simp only [argEnv, P0.d, Nat.reduceAdd, graphP, List.map_cons, List.map_nil]
    repeat' (first | (with_reducible first | refine aw_seq ?_ | refine thn_normal ?_ | refine thn_ret ?_ | refine thn_exit ?_ | refine blk_normal ?_ | refine blk_ret ?_ | refine blk_hit ?_ | refine blk_miss rfl ?_ | refine aw_block ?_ | refine aw_ret ?_ | refine aw_skip ?_ | refine aw_exit ?_ | refine w_nil ?_ | refine x_nil (by kernel_rfl) ?_) | refine aw_region ?_ | refine aw_region_draw (by kernel_rfl) ?_ | refine aw_yes rfl ?_ | refine aw_no rfl ?_ | ((with_reducible refine w_seq ?_); first | refine r_q tbOk rfl rfl rfl rfl ?_ | refine r_e tbOk rfl rfl rfl rfl rfl ?_ | refine r_yes tbOk rfl rfl rfl rfl rfl rfl ?_ | refine w_no rfl rfl (lookO_spec rfl) rfl rfl rfl ?_ | refine w_un rfl rfl (lookO_spec rfl) rfl rfl ?_) | ((with_reducible refine w_drw ?_); first | refine rx_q tbOk rfl rfl rfl rfl ?_ | refine rx_e tbOk rfl rfl rfl rfl rfl ?_ | refine rx_yes tbOk rfl rfl rfl rfl rfl rfl ?_ | refine x_no rfl rfl (lookO_spec rfl) rfl rfl rfl ?_ | refine x_un rfl rfl (lookO_spec rfl) rfl rfl ?_) | ((first | refine' w_q rfl rfl ?xa rfl ?_ | refine' v_q rfl rfl ?xa rfl ?_ | refine' w_yes rfl rfl (lookO_spec rfl) rfl ?xa rfl ?_ | refine' v_yes rfl rfl (lookO_spec rfl) rfl ?xa rfl ?_); case xa => first | exact k_call KG rfl ⟨asA_agg (evO_spec rfl) ⟨cAr_r, cAr_r, trivial⟩, trivial⟩ | exact k_call KH rfl ⟨asA_agg (evO_spec rfl) ⟨cAr_r, cAr_r, trivial⟩, asA_r (evO_spec rfl), trivial⟩) | ((first | refine aw_ways rfl ?_ ?_ | refine r_split rfl rfl rfl ?_ ?_) <;> intro hg_ <;> fail_if_success (exact Bool.noConfusion hg_)) <;> (try simp only [prn] at hg_) <;> (try first | contradiction | (exfalso; omega)))
    all_goals first
      | exact ret_tmp rfl (dres_one cres_nil)
      | trace_state
end Go.Proofs.YthjnidcmhegoeaaDoor.Abs
