/- FnReadGraph by states: the draw, the law's walk. -/
import Derived.Test.YtihpchbkodihpaaTy
import Derived.Lib.Hide
import Derived.Test.YtihpchbkodihpaaASamG
import Derived.Test.YtihpchbkodihpaaASpF
import Derived.Test.YtihpchbkodihpaaADrS
set_option linter.unusedSimpArgs false
set_option linter.unusedVariables false
namespace Go.Proofs.Ytihpchbkodihpaa.Abs
open Go.RowKit
open R (val row ref)

theorem cres_ownF {H : Nat → Option Ob} {k j n sz : Nat} {E : TypeId} {els els' : List P0} (hk : H k = some (.sl E sz true els)) (hn : j + n ≤ els.length) (he : (els.drop j).take n = els') : CRes H (.own k j n sz) (row false sz els') := he ▸ cres_own hk hn
theorem bytesG_pos {m : Int} {es : List E3} (hg : gOk m es = true) : 0 < (bytesG m es).length := by
  unfold bytesG bodiesG
  rw [joined_cons]
  have hb := bodiesG_ok hg (enc m) (by simp [bodiesG])
  rw [frame_eq hb]; simp
set_option maxRecDepth 100000 in
set_option maxHeartbeats 8000000 in
theorem f_drawReadGraph (nb : Bool) (code : List Int) (hB : Byte code) (hl : code.length ≤ 1048576) :
    ∃ xs : List Int, xs.length ≤ 2600 ∧ Fn Try.prog 37 [.one (row nb 1 (bys code))] (.v (.one (row false 1 (ints xs)))) := by
  have K0 := f_open nb code hl
  have hB2 := byte_take2 hB 2000
  have hl2 : (code.take 2000).length ≤ 2000 := by rw [List.length_take]; omega
  obtain ⟨nE, m, es, p', ⟨e1, e2, e3, e4, e5, e6, e7⟩, KG0⟩ := f_l20Graph0 (bs := code.take 2000) 0 0 (by omega) (by omega) hB2 hl2 (by omega) (by omega)
  have KG := KG0 false true nb
  have hg := e7 rfl
  have KS := f_specGraphBytes m nE es (by omega)
  unfold bytesS at KS
  rw [if_pos hg] at KS
  have hX := bytesG_len hg
  have hX0 := bytesG_pos hg
  have hlX := ints_len (bytesG m es)
  clear KG0 hg e7 e1 e2 e3
  generalize bytesG m es = X at *
  have K1 := f_odd p' 3 (by omega) (by omega) hB2 hl2 (by omega) (by omega) false true nb
  have K2 := f_pick (p' + 1) 4 hB2 hl2 (by omega) (by omega) false true nb
  have K3 := f_pick (p' + 1 + 1) (if ((ints X).length : Int) < 256 then ((ints X).length : Int) else 256) hB2 hl2 (by omega) (by omega) false true nb
  have hv3 := pickV_in (code.take 2000) (p' + 1 + 1) (if ((ints X).length : Int) < 256 then ((ints X).length : Int) else 256)
  have K4 := f_l20Frames (p' + 1 + 1) hB2 hl2 (by omega) (by omega) false true nb
  have hb4 := drF_bd (code.take 2000) (p' + 1 + 1)
  have KE := f_specEdgeBody (0, 0, 0)
  have KF := f_specFrameOf false (edgeB 0 0 0)
  have hfl := frame_len (edgeB 0 0 0)
  have hM : (if ((ints X).length : Int) < 256 then ((ints X).length : Int) else 256) ≤ X.length := by rw [hlX]; split <;> omega
  dsimp only at KE
  generalize oddV (code.take 2000) p' 3 = od at *
  generalize pickV (code.take 2000) (p' + 1 + 1) (if ((ints X).length : Int) < 256 then ((ints X).length : Int) else 256) = v3 at *
  generalize pickV (code.take 2000) (p' + 1) 4 = v2 at *
  generalize drF (code.take 2000) (p' + 1 + 1) = b at *
  obtain ⟨B, q4⟩ := b
  dsimp only at hb4 K4
  have hlB := ints_len B
  generalize edgeB 0 0 0 = eb at *
  have hlF := ints_len (frameOf eb)
  generalize frameOf eb = fr at *
  obtain ⟨N, rfl⟩ : ∃ N : Nat, v3 = (N : Int) := ⟨v3.toNat, by omega⟩
  have hN : N < X.length := by rw [hlX] at *; omega
  clear hB2 hl2 hB
  generalize code.take 2000 = bs at *
  unfold rdH at *
  cases od with
  | false =>
    refine ⟨X, by omega, ?_⟩
    refine fn_of (l := [.tmp 2]) Try.func37 (by kernel_rfl) rfl Try.ntmps37 rfl rfl ?_; simp only [argEnv, P0.d, Nat.reduceAdd]
    repeat' (first | (with_reducible first | refine aw_seq ?_ | refine thn_normal ?_ | refine thn_ret ?_ | refine thn_exit ?_ | refine blk_normal ?_ | refine blk_ret ?_ | refine blk_hit ?_ | refine blk_miss rfl ?_ | refine aw_block ?_ | refine aw_ret ?_ | refine aw_skip ?_ | refine aw_exit ?_ | refine w_nil ?_ | refine x_nil (by kernel_rfl) ?_) | refine aw_region ?_ | refine aw_region_draw (by kernel_rfl) ?_ | refine aw_yes rfl ?_ | refine aw_no rfl ?_ | ((with_reducible refine w_seq ?_); first | refine r_q tbOk rfl rfl rfl rfl ?_ | refine r_e tbOk rfl rfl rfl rfl rfl ?_ | refine r_yes tbOk rfl rfl rfl rfl rfl rfl ?_ | refine w_no rfl rfl (lookO_spec rfl) rfl rfl rfl ?_ | refine w_un rfl rfl (lookO_spec rfl) rfl rfl ?_) | ((with_reducible refine w_drw ?_); first | refine rx_q tbOk rfl rfl rfl rfl ?_ | refine rx_e tbOk rfl rfl rfl rfl rfl ?_ | refine rx_yes tbOk rfl rfl rfl rfl rfl rfl ?_ | refine x_no rfl rfl (lookO_spec rfl) rfl rfl rfl ?_ | refine x_un rfl rfl (lookO_spec rfl) rfl rfl ?_) | ((first | refine' w_e rfl ?xa ?xb ?xc ?xe ?_ | refine' v_e rfl ?xa ?xb ?xc ?xe ?_); (case xa => first | exact e_callS [(2000001, 600)] K0 rfl ⟨by rw [evO_spec rfl]; exact asD_r rfl, trivial⟩ trivial rfl | exact at_dst 9 rfl (e_callS [(1000000000, 600)] KG rfl ⟨asD_ren (evO_spec rfl), by rw [evO_spec rfl]; exact asD_r rfl, trivial⟩ (by (repeat' (first | exact trivial | refine subHR_cons rfl ?_ ?_ | rfl))) rfl) | exact e_callO KS rfl rfl ⟨asA_agg (evO_spec rfl) ⟨cAr_r, cAr_r, trivial⟩, trivial⟩ | exact at_dst 12 rfl (e_callS [(1000000000, 600)] K1 rfl ⟨asD_ren (evO_spec rfl), by rw [evO_spec rfl]; exact asD_r rfl, trivial⟩ (by (repeat' (first | exact trivial | refine subHR_cons rfl ?_ ?_ | rfl))) rfl)); (case xb => rfl); (case xc => rfl); (case xe => rfl); try dsimp only [P0.d, Res.d, List.map_cons, List.map_nil, List.set_cons_zero, List.set_cons_succ, Nat.reduceAdd]) | ((first | refine aw_ways rfl ?_ ?_ | refine r_split rfl rfl rfl ?_ ?_) <;> intro hg_ <;> fail_if_success (exact Bool.noConfusion hg_)) <;> (try simp only [prn] at hg_) <;> (try first | contradiction | (exfalso; omega)))
    all_goals first
      | exact ret_tmp rfl (dres_one (cres_own0 (lookHO_spec rfl) rfl))
      | trace_state
  | true =>
    by_cases h0 : v2 = 0
    · subst h0
      refine ⟨X.take N, by rw [List.length_take]; omega, ?_⟩
      refine fn_of (l := [.tmp 2]) Try.func37 (by kernel_rfl) rfl Try.ntmps37 rfl rfl ?_; simp only [argEnv, P0.d, Nat.reduceAdd]
      repeat' (first | (with_reducible first | refine aw_seq ?_ | refine thn_normal ?_ | refine thn_ret ?_ | refine thn_exit ?_ | refine blk_normal ?_ | refine blk_ret ?_ | refine blk_hit ?_ | refine blk_miss rfl ?_ | refine aw_block ?_ | refine aw_ret ?_ | refine aw_skip ?_ | refine aw_exit ?_ | refine w_nil ?_ | refine x_nil (by kernel_rfl) ?_) | refine aw_region ?_ | refine aw_region_draw (by kernel_rfl) ?_ | refine aw_yes rfl ?_ | refine aw_no rfl ?_ | ((with_reducible refine w_seq ?_); first | refine r_q tbOk rfl rfl rfl rfl ?_ | refine r_e tbOk rfl rfl rfl rfl rfl ?_ | refine r_yes tbOk rfl rfl rfl rfl rfl rfl ?_ | refine w_no rfl rfl (lookO_spec rfl) rfl rfl rfl ?_ | refine w_un rfl rfl (lookO_spec rfl) rfl rfl ?_) | ((with_reducible refine w_drw ?_); first | refine rx_q tbOk rfl rfl rfl rfl ?_ | refine rx_e tbOk rfl rfl rfl rfl rfl ?_ | refine rx_yes tbOk rfl rfl rfl rfl rfl rfl ?_ | refine x_no rfl rfl (lookO_spec rfl) rfl rfl rfl ?_ | refine x_un rfl rfl (lookO_spec rfl) rfl rfl ?_) | ((first | refine' w_q rfl rfl ?xa rfl ?_ | refine' v_q rfl rfl ?xa rfl ?_ | refine' w_yes rfl rfl (lookO_spec rfl) rfl ?xa rfl ?_ | refine' v_yes rfl rfl (lookO_spec rfl) rfl ?xa rfl ?_); case xa => exact k_sliceO (a := 0) (b := N) tbOk rfl rfl rfl rfl ⟨_, evO_spec rfl⟩ (by omega) (by omega)) | ((first | refine' w_e rfl ?xa ?xb ?xc ?xe ?_ | refine' v_e rfl ?xa ?xb ?xc ?xe ?_); (case xa => first | exact e_callS [(2000001, 600)] K0 rfl ⟨by rw [evO_spec rfl]; exact asD_r rfl, trivial⟩ trivial rfl | exact at_dst 9 rfl (e_callS [(1000000000, 600)] KG rfl ⟨asD_ren (evO_spec rfl), by rw [evO_spec rfl]; exact asD_r rfl, trivial⟩ (by (repeat' (first | exact trivial | refine subHR_cons rfl ?_ ?_ | rfl))) rfl) | exact e_callO KS rfl rfl ⟨asA_agg (evO_spec rfl) ⟨cAr_r, cAr_r, trivial⟩, trivial⟩ | exact at_dst 12 rfl (e_callS [(1000000000, 600)] K1 rfl ⟨asD_ren (evO_spec rfl), by rw [evO_spec rfl]; exact asD_r rfl, trivial⟩ (by (repeat' (first | exact trivial | refine subHR_cons rfl ?_ ?_ | rfl))) rfl) | exact at_dst 14 rfl (e_callS [(1000000000, 600)] K2 rfl ⟨asD_ren (evO_spec rfl), by rw [evO_spec rfl]; exact asD_r rfl, trivial⟩ (by (repeat' (first | exact trivial | refine subHR_cons rfl ?_ ?_ | rfl))) rfl) | exact at_dst 24 rfl (e_callS [(1000000000, 600)] K3 rfl ⟨asD_ren (evO_spec rfl), by rw [evO_spec rfl]; exact asD_r rfl, trivial⟩ (by (repeat' (first | exact trivial | refine subHR_cons rfl ?_ ?_ | rfl))) rfl)); (case xb => rfl); (case xc => rfl); (case xe => rfl); try dsimp only [P0.d, Res.d, List.map_cons, List.map_nil, List.set_cons_zero, List.set_cons_succ, Nat.reduceAdd]) | ((first | refine aw_ways rfl ?_ ?_ | refine r_split rfl rfl rfl ?_ ?_) <;> intro hg_ <;> fail_if_success (exact Bool.noConfusion hg_)) <;> (try simp only [prn] at hg_) <;> (try first | contradiction | (exfalso; omega)))
      all_goals first
        | (exfalso; omega)
        | exact ret_tmp rfl (dres_one (cres_ownF (lookHO_spec rfl) (by rw [hlX]; omega) (by rw [Nat.zero_add, Nat.sub_zero, List.drop_zero, ints_take])))
        | trace_state
    · by_cases h1 : v2 = 1
      · subst h1
        refine ⟨X.set N ((IntKind.i64.wrap (X.getD N 0 + 1)).tmod 256), by rw [List.length_set]; omega, ?_⟩
        refine fn_of (l := [.tmp 2]) Try.func37 (by kernel_rfl) rfl Try.ntmps37 rfl rfl ?_; simp only [argEnv, P0.d, Nat.reduceAdd]
        repeat' (first | (with_reducible first | refine aw_seq ?_ | refine thn_normal ?_ | refine thn_ret ?_ | refine thn_exit ?_ | refine blk_normal ?_ | refine blk_ret ?_ | refine blk_hit ?_ | refine blk_miss rfl ?_ | refine aw_block ?_ | refine aw_ret ?_ | refine aw_skip ?_ | refine aw_exit ?_ | refine w_nil ?_ | refine x_nil (by kernel_rfl) ?_) | refine aw_region ?_ | refine aw_region_draw (by kernel_rfl) ?_ | refine aw_yes rfl ?_ | refine aw_no rfl ?_ | ((with_reducible refine w_seq ?_); first | refine r_q tbOk rfl rfl rfl rfl ?_ | refine r_e tbOk rfl rfl rfl rfl rfl ?_ | refine r_yes tbOk rfl rfl rfl rfl rfl rfl ?_ | refine w_no rfl rfl (lookO_spec rfl) rfl rfl rfl ?_ | refine w_un rfl rfl (lookO_spec rfl) rfl rfl ?_) | ((with_reducible refine w_drw ?_); first | refine rx_q tbOk rfl rfl rfl rfl ?_ | refine rx_e tbOk rfl rfl rfl rfl rfl ?_ | refine rx_yes tbOk rfl rfl rfl rfl rfl rfl ?_ | refine x_no rfl rfl (lookO_spec rfl) rfl rfl rfl ?_ | refine x_un rfl rfl (lookO_spec rfl) rfl rfl ?_) | ((first | refine' w_q rfl rfl ?xa rfl ?_ | refine' v_q rfl rfl ?xa rfl ?_ | refine' w_yes rfl rfl (lookO_spec rfl) rfl ?xa rfl ?_ | refine' v_yes rfl rfl (lookO_spec rfl) rfl ?xa rfl ?_); case xa => first | exact k_rem rfl rfl rfl (by decide) | exact k_indexO tbOk rfl rfl rfl rfl (by omega) (by omega) | exact k_loadI (xs := X) tbOk rfl rfl rfl rfl (by omega)) | ((first | refine' w_e rfl ?xa ?xb ?xc ?xe ?_ | refine' v_e rfl ?xa ?xb ?xc ?xe ?_); (case xa => first | exact e_callS [(2000001, 600)] K0 rfl ⟨by rw [evO_spec rfl]; exact asD_r rfl, trivial⟩ trivial rfl | exact at_dst 9 rfl (e_callS [(1000000000, 600)] KG rfl ⟨asD_ren (evO_spec rfl), by rw [evO_spec rfl]; exact asD_r rfl, trivial⟩ (by (repeat' (first | exact trivial | refine subHR_cons rfl ?_ ?_ | rfl))) rfl) | exact e_callO KS rfl rfl ⟨asA_agg (evO_spec rfl) ⟨cAr_r, cAr_r, trivial⟩, trivial⟩ | exact at_dst 12 rfl (e_callS [(1000000000, 600)] K1 rfl ⟨asD_ren (evO_spec rfl), by rw [evO_spec rfl]; exact asD_r rfl, trivial⟩ (by (repeat' (first | exact trivial | refine subHR_cons rfl ?_ ?_ | rfl))) rfl) | exact at_dst 14 rfl (e_callS [(1000000000, 600)] K2 rfl ⟨asD_ren (evO_spec rfl), by rw [evO_spec rfl]; exact asD_r rfl, trivial⟩ (by (repeat' (first | exact trivial | refine subHR_cons rfl ?_ ?_ | rfl))) rfl) | exact at_dst 32 rfl (e_callS [(1000000000, 600)] K3 rfl ⟨asD_ren (evO_spec rfl), by rw [evO_spec rfl]; exact asD_r rfl, trivial⟩ (by (repeat' (first | exact trivial | refine subHR_cons rfl ?_ ?_ | rfl))) rfl) | exact e_storeS tbOk rfl rfl rfl rfl rfl rfl rfl rfl (by rw [hlX]; omega)); (case xb => rfl); (case xc => rfl); (case xe => rfl); try dsimp only [P0.d, Res.d, List.map_cons, List.map_nil, List.set_cons_zero, List.set_cons_succ, Nat.reduceAdd]) | ((first | refine aw_ways rfl ?_ ?_ | refine r_split rfl rfl rfl ?_ ?_) <;> intro hg_ <;> fail_if_success (exact Bool.noConfusion hg_)) <;> (try simp only [prn] at hg_) <;> (try first | contradiction | (exfalso; omega)))
        all_goals first
          | (exfalso; omega)
          | exact ret_tmp rfl (dres_one (cres_own0F (lookHO_spec rfl) (by rw [List.length_set]) (by rw [Nat.zero_add, Int.toNat_natCast, ints_setQ] <;> rfl)))
          | trace_state
      · by_cases h2 : v2 = 2
        · subst h2
          refine ⟨X ++ fr, by rw [List.length_append]; omega, ?_⟩
          refine fn_of (l := [.tmp 2]) Try.func37 (by kernel_rfl) rfl Try.ntmps37 rfl rfl ?_; simp only [argEnv, P0.d, Nat.reduceAdd]
          repeat' (first | (with_reducible first | refine aw_seq ?_ | refine thn_normal ?_ | refine thn_ret ?_ | refine thn_exit ?_ | refine blk_normal ?_ | refine blk_ret ?_ | refine blk_hit ?_ | refine blk_miss rfl ?_ | refine aw_block ?_ | refine aw_ret ?_ | refine aw_skip ?_ | refine aw_exit ?_ | refine w_nil ?_ | refine x_nil (by kernel_rfl) ?_) | refine aw_region ?_ | refine aw_region_draw (by kernel_rfl) ?_ | refine aw_yes rfl ?_ | refine aw_no rfl ?_ | ((with_reducible refine w_seq ?_); first | refine r_q tbOk rfl rfl rfl rfl ?_ | refine r_e tbOk rfl rfl rfl rfl rfl ?_ | refine r_yes tbOk rfl rfl rfl rfl rfl rfl ?_ | refine w_no rfl rfl (lookO_spec rfl) rfl rfl rfl ?_ | refine w_un rfl rfl (lookO_spec rfl) rfl rfl ?_) | ((with_reducible refine w_drw ?_); first | refine rx_q tbOk rfl rfl rfl rfl ?_ | refine rx_e tbOk rfl rfl rfl rfl rfl ?_ | refine rx_yes tbOk rfl rfl rfl rfl rfl rfl ?_ | refine x_no rfl rfl (lookO_spec rfl) rfl rfl rfl ?_ | refine x_un rfl rfl (lookO_spec rfl) rfl rfl ?_) | ((first | refine' w_e rfl ?xa ?xb ?xc ?xe ?_ | refine' v_e rfl ?xa ?xb ?xc ?xe ?_); (case xa => first | exact e_callS [(2000001, 600)] K0 rfl ⟨by rw [evO_spec rfl]; exact asD_r rfl, trivial⟩ trivial rfl | exact at_dst 9 rfl (e_callS [(1000000000, 600)] KG rfl ⟨asD_ren (evO_spec rfl), by rw [evO_spec rfl]; exact asD_r rfl, trivial⟩ (by (repeat' (first | exact trivial | refine subHR_cons rfl ?_ ?_ | rfl))) rfl) | exact e_callO KS rfl rfl ⟨asA_agg (evO_spec rfl) ⟨cAr_r, cAr_r, trivial⟩, trivial⟩ | exact at_dst 12 rfl (e_callS [(1000000000, 600)] K1 rfl ⟨asD_ren (evO_spec rfl), by rw [evO_spec rfl]; exact asD_r rfl, trivial⟩ (by (repeat' (first | exact trivial | refine subHR_cons rfl ?_ ?_ | rfl))) rfl) | exact at_dst 14 rfl (e_callS [(1000000000, 600)] K2 rfl ⟨asD_ren (evO_spec rfl), by rw [evO_spec rfl]; exact asD_r rfl, trivial⟩ (by (repeat' (first | exact trivial | refine subHR_cons rfl ?_ ?_ | rfl))) rfl) | exact e_callO KE rfl rfl ⟨asA_agg (evO_spec rfl) ⟨cAr_r, cAr_r, cAr_r, trivial⟩, trivial⟩ | exact e_callO KF rfl rfl ⟨asA_own0H (evO_spec rfl) (lookHO_spec rfl) rfl, trivial⟩ | exact e_append tlOk rfl rfl rfl rfl rfl rfl (slD_plain (slD_own (lookHO_spec rfl) rfl) (ints_plain _)) rfl (by simp only [maxLen, List.length_append, List.length_cons, List.length_nil]; omega) (by (try simp only [List.length_append, List.length_cons, List.length_nil]); omega)); (case xb => rfl); (case xc => rfl); (case xe => rfl); try dsimp only [P0.d, Res.d, List.map_cons, List.map_nil, List.set_cons_zero, List.set_cons_succ, Nat.reduceAdd]) | ((first | refine aw_ways rfl ?_ ?_ | refine r_split rfl rfl rfl ?_ ?_) <;> intro hg_ <;> fail_if_success (exact Bool.noConfusion hg_)) <;> (try simp only [prn] at hg_) <;> (try first | contradiction | (exfalso; omega)))
          all_goals first
            | (exfalso; omega)
            | exact ret_tmp rfl (dres_one (cres_own0F (lookHO_spec rfl) (by simp only [List.length_append]) (ints_appB _ _).symm))
            | trace_state
        · refine ⟨B, by omega, ?_⟩
          refine fn_of (l := [.tmp 2]) Try.func37 (by kernel_rfl) rfl Try.ntmps37 rfl rfl ?_; simp only [argEnv, P0.d, Nat.reduceAdd]
          repeat' (first | (with_reducible first | refine aw_seq ?_ | refine thn_normal ?_ | refine thn_ret ?_ | refine thn_exit ?_ | refine blk_normal ?_ | refine blk_ret ?_ | refine blk_hit ?_ | refine blk_miss rfl ?_ | refine aw_block ?_ | refine aw_ret ?_ | refine aw_skip ?_ | refine aw_exit ?_ | refine w_nil ?_ | refine x_nil (by kernel_rfl) ?_) | refine aw_region ?_ | refine aw_region_draw (by kernel_rfl) ?_ | refine aw_yes rfl ?_ | refine aw_no rfl ?_ | ((with_reducible refine w_seq ?_); first | refine r_q tbOk rfl rfl rfl rfl ?_ | refine r_e tbOk rfl rfl rfl rfl rfl ?_ | refine r_yes tbOk rfl rfl rfl rfl rfl rfl ?_ | refine w_no rfl rfl (lookO_spec rfl) rfl rfl rfl ?_ | refine w_un rfl rfl (lookO_spec rfl) rfl rfl ?_) | ((with_reducible refine w_drw ?_); first | refine rx_q tbOk rfl rfl rfl rfl ?_ | refine rx_e tbOk rfl rfl rfl rfl rfl ?_ | refine rx_yes tbOk rfl rfl rfl rfl rfl rfl ?_ | refine x_no rfl rfl (lookO_spec rfl) rfl rfl rfl ?_ | refine x_un rfl rfl (lookO_spec rfl) rfl rfl ?_) | ((first | refine' w_e rfl ?xa ?xb ?xc ?xe ?_ | refine' v_e rfl ?xa ?xb ?xc ?xe ?_); (case xa => first | exact e_callS [(2000001, 600)] K0 rfl ⟨by rw [evO_spec rfl]; exact asD_r rfl, trivial⟩ trivial rfl | exact at_dst 9 rfl (e_callS [(1000000000, 600)] KG rfl ⟨asD_ren (evO_spec rfl), by rw [evO_spec rfl]; exact asD_r rfl, trivial⟩ (by (repeat' (first | exact trivial | refine subHR_cons rfl ?_ ?_ | rfl))) rfl) | exact e_callO KS rfl rfl ⟨asA_agg (evO_spec rfl) ⟨cAr_r, cAr_r, trivial⟩, trivial⟩ | exact at_dst 12 rfl (e_callS [(1000000000, 600)] K1 rfl ⟨asD_ren (evO_spec rfl), by rw [evO_spec rfl]; exact asD_r rfl, trivial⟩ (by (repeat' (first | exact trivial | refine subHR_cons rfl ?_ ?_ | rfl))) rfl) | exact at_dst 14 rfl (e_callS [(1000000000, 600)] K2 rfl ⟨asD_ren (evO_spec rfl), by rw [evO_spec rfl]; exact asD_r rfl, trivial⟩ (by (repeat' (first | exact trivial | refine subHR_cons rfl ?_ ?_ | rfl))) rfl) | exact at_dst 16 rfl (e_callS [(1000000000, 600), (2000001, 501)] K4 rfl ⟨asD_ren (evO_spec rfl), trivial⟩ (by (repeat' (first | exact trivial | refine subHR_cons rfl ?_ ?_ | rfl))) rfl)); (case xb => rfl); (case xc => rfl); (case xe => rfl); try dsimp only [P0.d, Res.d, List.map_cons, List.map_nil, List.set_cons_zero, List.set_cons_succ, Nat.reduceAdd]) | ((first | refine aw_ways rfl ?_ ?_ | refine r_split rfl rfl rfl ?_ ?_) <;> intro hg_ <;> fail_if_success (exact Bool.noConfusion hg_)) <;> (try simp only [prn] at hg_) <;> (try first | contradiction | (exfalso; omega)))
          all_goals first
            | (exfalso; omega)
            | exact ret_tmp rfl (dres_one (cres_own0F (lookHO_spec rfl) hlB.symm rfl))
            | trace_state
set_option maxRecDepth 100000 in
set_option maxHeartbeats 8000000 in
theorem f_lawRdG (nb : Bool) (code : List Int) (hB : Byte code) (hl : code.length ≤ 1048576) : Fn Try.prog 8 [.one (row nb 1 (bys code))] (.v (.one (bool true))) := by
  obtain ⟨xs, hX, KD⟩ := f_drawReadGraph nb code hB hl
  have hcl := bys_len code
  have hxl := ints_len xs
  have KI := f_implReadGraph false xs (by omega)
  have KS := f_specReadGraph false xs (by omega)
  cases hr : readG xs with
  | none =>
    rw [hr] at KI KS
    unfold graphRes at KI KS
    dsimp only at KI KS
    have KM := f_sameGraphR 0 true true [] (by simp)
    refine fn_of (l := [.tmp 2]) Try.func8 (by kernel_rfl) rfl Try.ntmps8 rfl rfl ?_; simp only [argEnv, P0.d, Nat.reduceAdd]
    repeat' (first | (with_reducible first | refine aw_seq ?_ | refine thn_normal ?_ | refine thn_ret ?_ | refine thn_exit ?_ | refine blk_normal ?_ | refine blk_ret ?_ | refine blk_hit ?_ | refine blk_miss rfl ?_ | refine aw_block ?_ | refine aw_ret ?_ | refine aw_skip ?_ | refine aw_exit ?_ | refine w_nil ?_ | refine x_nil (by kernel_rfl) ?_) | refine aw_region ?_ | refine aw_region_draw (by kernel_rfl) ?_ | refine aw_yes rfl ?_ | refine aw_no rfl ?_ | ((with_reducible refine w_seq ?_); first | refine r_q tbOk rfl rfl rfl rfl ?_ | refine r_e tbOk rfl rfl rfl rfl rfl ?_ | refine r_yes tbOk rfl rfl rfl rfl rfl rfl ?_ | refine w_no rfl rfl (lookO_spec rfl) rfl rfl rfl ?_ | refine w_un rfl rfl (lookO_spec rfl) rfl rfl ?_) | ((with_reducible refine w_drw ?_); first | refine rx_q tbOk rfl rfl rfl rfl ?_ | refine rx_e tbOk rfl rfl rfl rfl rfl ?_ | refine rx_yes tbOk rfl rfl rfl rfl rfl rfl ?_ | refine x_no rfl rfl (lookO_spec rfl) rfl rfl rfl ?_ | refine x_un rfl rfl (lookO_spec rfl) rfl rfl ?_) | ((first | refine' w_q rfl rfl ?xa rfl ?_ | refine' v_q rfl rfl ?xa rfl ?_ | refine' w_yes rfl rfl (lookO_spec rfl) rfl ?xa rfl ?_ | refine' v_yes rfl rfl (lookO_spec rfl) rfl ?xa rfl ?_); case xa => first | exact k_call KD rfl ⟨asA_r (evO_spec rfl), trivial⟩ | exact k_call KI rfl ⟨asA_r (evO_spec rfl), trivial⟩ | exact k_call KS rfl ⟨asA_r (evO_spec rfl), trivial⟩ | exact k_call KM rfl ⟨asA_agg (evO_spec rfl) ⟨cAr_r, cAr_r, trivial⟩, asA_agg (evO_spec rfl) ⟨cAr_r, cAr_r, trivial⟩, trivial⟩ | exact k_neB bo4 rfl rfl rfl | exact k_call f_alive2 rfl trivial) | ((first | refine aw_ways rfl ?_ ?_ | refine r_split rfl rfl rfl ?_ ?_) <;> intro hg_ <;> fail_if_success (exact Bool.noConfusion hg_)) <;> (try simp only [prn] at hg_) <;> (try first | contradiction | (exfalso; omega)))
    all_goals first
      | exact ret_tmp rfl (dres_bool rfl)
      | (exfalso; simp at hg_; done)
      | trace_state
  | some r =>
    obtain ⟨m, es⟩ := r
    obtain ⟨hxs, hg⟩ := readG_canon hr
    have h40 := gOk_len hg
    rw [hr] at KI KS
    have KN := f_implReadGraph false (xs ++ [0]) (by simp; omega)
    rw [readG_more hr] at KN
    unfold graphRes at KI KS KN
    dsimp only at KI KS KN
    have KM := f_sameGraphR m (decide (es = [])) (decide (es = [])) es (by omega)
    have KV := f_implGraphValid m (decide (es = [])) es (by simp only [maxLen]; omega)
    have KB := f_implGraphBytes m (decide (es = [])) es (by omega) hg
    rw [← hxs] at KB
    have KQ := f_sameInts2 false false xs (by omega)
    rw [hg] at KV
    rw [show ints (xs ++ [0]) = ([] ++ ints xs) ++ [iP 0] by rw [ints_app]; rfl] at KN
    clear hxs hr
    generalize decide (es = []) = dn at *
    refine fn_of (l := [.tmp 2]) Try.func8 (by kernel_rfl) rfl Try.ntmps8 rfl rfl ?_; simp only [argEnv, P0.d, Nat.reduceAdd]
    repeat' (first | (with_reducible first | refine aw_seq ?_ | refine thn_normal ?_ | refine thn_ret ?_ | refine thn_exit ?_ | refine blk_normal ?_ | refine blk_ret ?_ | refine blk_hit ?_ | refine blk_miss rfl ?_ | refine aw_block ?_ | refine aw_ret ?_ | refine aw_skip ?_ | refine aw_exit ?_ | refine w_nil ?_ | refine x_nil (by kernel_rfl) ?_) | refine aw_region ?_ | refine aw_region_draw (by kernel_rfl) ?_ | refine aw_yes rfl ?_ | refine aw_no rfl ?_ | ((with_reducible refine w_seq ?_); first | refine r_q tbOk rfl rfl rfl rfl ?_ | refine r_e tbOk rfl rfl rfl rfl rfl ?_ | refine r_yes tbOk rfl rfl rfl rfl rfl rfl ?_ | refine w_no rfl rfl (lookO_spec rfl) rfl rfl rfl ?_ | refine w_un rfl rfl (lookO_spec rfl) rfl rfl ?_) | ((with_reducible refine w_drw ?_); first | refine rx_q tbOk rfl rfl rfl rfl ?_ | refine rx_e tbOk rfl rfl rfl rfl rfl ?_ | refine rx_yes tbOk rfl rfl rfl rfl rfl rfl ?_ | refine x_no rfl rfl (lookO_spec rfl) rfl rfl rfl ?_ | refine x_un rfl rfl (lookO_spec rfl) rfl rfl ?_) | ((first | refine' w_q rfl rfl ?xa rfl ?_ | refine' v_q rfl rfl ?xa rfl ?_ | refine' w_yes rfl rfl (lookO_spec rfl) rfl ?xa rfl ?_ | refine' v_yes rfl rfl (lookO_spec rfl) rfl ?xa rfl ?_); case xa => first | exact k_call KD rfl ⟨asA_r (evO_spec rfl), trivial⟩ | exact k_call KI rfl ⟨asA_r (evO_spec rfl), trivial⟩ | exact k_call KS rfl ⟨asA_r (evO_spec rfl), trivial⟩ | exact k_call KM rfl ⟨asA_agg (evO_spec rfl) ⟨cAr_r, cAr_r, trivial⟩, asA_agg (evO_spec rfl) ⟨cAr_r, cAr_r, trivial⟩, trivial⟩ | exact k_neB bo4 rfl rfl rfl | exact k_call KN rfl ⟨asA_own0H (evO_spec rfl) (lookHO_spec rfl) (by simp only [List.length_append]), trivial⟩ | exact k_call KV rfl ⟨asA_agg (evO_spec rfl) ⟨cAr_r, cAr_r, trivial⟩, trivial⟩ | exact k_call KB rfl ⟨asA_agg (evO_spec rfl) ⟨cAr_r, cAr_r, trivial⟩, trivial⟩ | exact k_call KQ rfl ⟨asA_r (evO_spec rfl), asA_r (evO_spec rfl), trivial⟩) | ((first | refine' w_e rfl ?xa ?xb ?xc ?xe ?_ | refine' v_e rfl ?xa ?xb ?xc ?xe ?_); (case xa => first | exact e_build [] tlOk rfl rfl rfl rfl rfl rfl (by simp [AllN]) (by simp) | exact e_build [_] tlOk rfl rfl rfl rfl rfl rfl (allN_one rfl) (by simp) | exact e_append tlOk rfl rfl rfl rfl rfl rfl (slD_plain slD_row (ints_plain _)) (by first | rfl | (simp only [List.length_append]; done)) (by simp only [maxLen, List.length_append, List.length_cons, List.length_nil]; omega) (by (try simp only [List.length_append, List.length_cons, List.length_nil]); omega) | exact e_append tlOk rfl rfl rfl rfl rfl rfl (slD_plain (slD_own (lookHO_spec rfl) rfl) (by simp [plain1, iP])) (by first | rfl | (simp only [List.length_append]; done)) (by simp only [maxLen, List.length_append, List.length_cons, List.length_nil]; omega) (by (try simp only [List.length_append, List.length_cons, List.length_nil]); omega)); (case xb => rfl); (case xc => rfl); (case xe => rfl); try dsimp only [P0.d, Res.d, List.map_cons, List.map_nil, List.set_cons_zero, List.set_cons_succ, Nat.reduceAdd]) | ((first | refine aw_ways rfl ?_ ?_ | refine r_split rfl rfl rfl ?_ ?_) <;> intro hg_ <;> fail_if_success (exact Bool.noConfusion hg_)) <;> (try simp only [prn] at hg_) <;> (try first | contradiction | (exfalso; omega)))
    all_goals first
      | exact ret_tmp rfl (dres_bool rfl)
      | (exfalso; simp at hg_; done)
      | trace_state
set_option maxRecDepth 100000 in
set_option maxHeartbeats 4000000 in
theorem law_rdG (nb : Bool) (code : List Int) (hB : Byte code) : Fn Try.prog 8 [.one (row nb 1 (bys code))] (.v (.one (bool true))) := by
  have hlb := bys_len code
  by_cases hl : code.length ≤ 1048576
  · exact f_lawRdG nb code hB hl
  · refine fn_of (l := [.tmp 2]) Try.func8 (by kernel_rfl) rfl Try.ntmps8 rfl rfl ?_; simp only [argEnv, P0.d, Nat.reduceAdd]
    repeat' (first | (with_reducible first | refine aw_seq ?_ | refine thn_normal ?_ | refine thn_ret ?_ | refine thn_exit ?_ | refine blk_normal ?_ | refine blk_ret ?_ | refine blk_hit ?_ | refine blk_miss rfl ?_ | refine aw_block ?_ | refine aw_ret ?_ | refine aw_skip ?_ | refine aw_exit ?_ | refine w_nil ?_ | refine x_nil (by kernel_rfl) ?_) | refine aw_region ?_ | refine aw_region_draw (by kernel_rfl) ?_ | refine aw_yes rfl ?_ | refine aw_no rfl ?_ | ((with_reducible refine w_seq ?_); first | refine r_q tbOk rfl rfl rfl rfl ?_ | refine r_e tbOk rfl rfl rfl rfl rfl ?_ | refine r_yes tbOk rfl rfl rfl rfl rfl rfl ?_ | refine w_no rfl rfl (lookO_spec rfl) rfl rfl rfl ?_ | refine w_un rfl rfl (lookO_spec rfl) rfl rfl ?_) | ((with_reducible refine w_drw ?_); first | refine rx_q tbOk rfl rfl rfl rfl ?_ | refine rx_e tbOk rfl rfl rfl rfl rfl ?_ | refine rx_yes tbOk rfl rfl rfl rfl rfl rfl ?_ | refine x_no rfl rfl (lookO_spec rfl) rfl rfl rfl ?_ | refine x_un rfl rfl (lookO_spec rfl) rfl rfl ?_) | ((first | refine aw_ways rfl ?_ ?_ | refine r_split rfl rfl rfl ?_ ?_) <;> intro hg_ <;> fail_if_success (exact Bool.noConfusion hg_)) <;> (try simp only [prn] at hg_) <;> (try first | contradiction | (exfalso; omega)))
    all_goals first
      | exact ret_tmp rfl (dres_bool rfl)
      | (exfalso; omega)
      | trace_state
end Go.Proofs.Ytihpchbkodihpaa.Abs
