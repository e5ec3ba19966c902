/- By states: numbers drawn. No statement of the seat is proved here. -/
import Derived.Test.YtjjeihcmiofkmaaAbsV
import Derived.Test.YtjjeihcmiofkmaaTy
import Derived.Lib.Hide
import Derived.Test.YtjjeihcmiofkmaaADrw
set_option linter.unusedSimpArgs false
set_option linter.unusedVariables false
namespace Go.Proofs.Ytjjeihcmiofkmaa.Abs
open Go.RowKit
open R (val row ref)

theorem var2 {E : TypeId} {a b a' b' : Cell} (h1 : a = a') (h2 : b = b') : Ob.var E [a, b] = .var E [a', b'] := by rw [h1, h2]
theorem cAr_own0 {H : Nat → Option Ob} {k n sz : Nat} {E : TypeId} {els : List P0} {new : Bool} (hk : H k = some (.sl E sz new els)) (hn : n = els.length) : CAr H (.own k 0 n sz) (row false sz els) := by
  have := cAr_own (H := H) (j := 0) (n := n) hk (by omega)
  rwa [List.drop_zero, List.take_of_length_le (by omega)] at this
theorem cell_int {m : Bool} {k : IntKind} {a b : Int} (h : a = b) : Cell.r m (.val (.int k a)) = .r m (.val (.int k b)) := by rw [h]
theorem cell_own {k n n' sz : Nat} (h : n = n') : Cell.own k 0 n sz = .own k 0 n' sz := by rw [h]
theorem range_map_len {α : Type} (f : Nat → α) (n : Nat) : ((List.range n).map f).length = n := by simp
/-- A number of l20Ints. -/
noncomputable def intV (bs : List Int) (p top : Int) (i : Nat) : Int := pickV bs (p + 1 + 2 * i) top - (pickV bs (p + 1 + 2 * i + 1) 9).tdiv 8
noncomputable def intsT (bs : List Int) (p top : Int) (n : Nat) : List Int := (List.range n).map (intV bs p top)
theorem intsT_len (bs : List Int) (p top : Int) (n : Nat) : (intsT bs p top n).length = n := range_map_len _ _
theorem intsT_snoc (bs : List Int) (p top : Int) (n : Nat) : intsT bs p top (n + 1) = intsT bs p top n ++ [intV bs p top n] := by unfold intsT; rw [List.range_succ, List.map_append]; rfl
set_option maxRecDepth 100000 in
set_option maxHeartbeats 4000000 in
theorem f_l20Ints {bs : List Int} (p top : Int) (ht : 0 < top) (ht2 : top ≤ 1000000) (hB : Byte bs) (hl : bs.length ≤ 2000) (hp0 : 0 ≤ p) (hp : p ≤ 900000) (m1 m2 nb : Bool) :
    FnS Try.prog 67 [.one (.ptr 1000000000 0 0 0), .one (.r false (int top))] (rdH 1000000000 m1 m2 nb bs p) (.one (.own 2000001 0 (pickV bs p 9).toNat 1)) (rdH 1000000000 m1 true nb bs (p + 1 + 2 * ((pickV bs p 9).toNat : Int)) ++ [(2000001, .sl 3 1 true (ints (intsT bs p top (pickV bs p 9).toNat)))]) := by
  have K0 := f_pick p 9 hB hl hp0 (by omega) m1 m2 nb
  have hc := pickV_in bs p 9
  have hcN : ((pickV bs p 9).toNat : Int) = pickV bs p 9 := Int.toNat_of_nonneg hc.1
  generalize hC : (pickV bs p 9).toNat = C at *
  rw [← hcN] at K0
  have hC9 : C ≤ 9 := by omega
  clear hC hcN hc
  have KP : ∀ q : Int, 0 ≤ q → q ≤ 1000000 → ∀ n, FnS Try.prog 48 [.one (.ptr 1000000000 0 0 0), .one (.r false (int n))] (rdH 1000000000 m1 true nb bs q) (.one (.r true (int (pickV bs q n)))) (rdH 1000000000 m1 true nb bs (q + 1)) := fun q h0 h1 n => f_pick q n hB hl h0 h1 m1 true nb
  unfold rdH at *
  refine fnS_of (l := [.tmp 4]) Try.func67 (by kernel_rfl) rfl Try.ntmps67 rfl rfl ?_; simp only [dEnv, Nat.reduceAdd]
  repeat' (first | (with_reducible first | refine aw_seq ?_ | refine thn_normal ?_ | refine thn_ret ?_ | refine thn_exit ?_ | refine blk_normal ?_ | refine blk_ret ?_ | refine blk_hit ?_ | refine blk_miss rfl ?_ | refine aw_block ?_ | refine aw_ret ?_ | refine aw_skip ?_ | refine aw_exit ?_ | refine w_nil ?_ | refine x_nil (by kernel_rfl) ?_) | refine aw_region ?_ | refine aw_region_draw (by kernel_rfl) ?_ | refine aw_yes rfl ?_ | refine aw_no rfl ?_ | ((with_reducible refine w_seq ?_); first | refine r_q tbOk rfl rfl rfl rfl ?_ | refine r_e tbOk rfl rfl rfl rfl rfl ?_ | refine r_yes tbOk rfl rfl rfl rfl rfl rfl ?_ | refine w_no rfl rfl (lookO_spec rfl) rfl rfl rfl ?_ | refine w_un rfl rfl (lookO_spec rfl) rfl rfl ?_) | ((with_reducible refine w_drw ?_); first | refine rx_q tbOk rfl rfl rfl rfl ?_ | refine rx_e tbOk rfl rfl rfl rfl rfl ?_ | refine rx_yes tbOk rfl rfl rfl rfl rfl rfl ?_ | refine x_no rfl rfl (lookO_spec rfl) rfl rfl rfl ?_ | refine x_un rfl rfl (lookO_spec rfl) rfl rfl ?_) | ((first | refine' w_e rfl ?xa ?xb ?xc ?xe ?_ | refine' v_e rfl ?xa ?xb ?xc ?xe ?_); (case xa => first | exact e_build [] tlOk rfl rfl rfl rfl rfl rfl (by simp [AllN]) (by simp) | exact e_callS [] K0 rfl ⟨asD_ren (evO_spec rfl), by rw [evO_spec rfl]; exact asD_r rfl, trivial⟩ (by (repeat' (first | exact trivial | refine subHR_cons rfl ?_ ?_ | rfl))) rfl); (case xb => rfl); (case xc => rfl); (case xe => rfl); try dsimp only [P0.d, Res.d, List.map_cons, List.map_nil, List.set_cons_zero, List.set_cons_succ, Nat.reduceAdd]) | ((first | refine aw_ways rfl ?_ ?_ | refine r_split rfl rfl rfl ?_ ?_) <;> intro hg_ <;> fail_if_success (exact Bool.noConfusion hg_)) <;> (try simp only [prn] at hg_) <;> (try first | contradiction | (exfalso; omega)))
  refine aw_loopI (fun i : Nat => i ≤ C) (fun i => mkS 25 [(6, .one (.r true (int ((C : Int) - (i : Int))))), (5, .one (.own 100 0 i 1)), (1, .one (.r false (int top))), (0, .one (.ptr 1000000000 0 0 0))] [(1000000000, .var 75 [.r m1 (row nb 1 (bys bs)), .r true (int (p + 1 + 2 * (i : Int)))]), (100, .sl 3 1 true (ints (intsT bs p top i)))]) (fun i => C - i) 0 (Nat.zero_le _) (by (refine weak_ren [(100, 7)] rfl ?_ ?_ <;> repeat' (first | exact trivial | refine subR_cons rfl ?_ ?_ | refine subHR_cons rfl ?_ ?_ | rfl | (refine d_int ?_; (first | rfl | omega | (rw [IntWalk.i64_in _ (by omega)] <;> omega) | (simp; done) | (simp; omega))) | (refine d_bool ?_; (first | (simp_all; done) | (rw [Bool.eq_iff_iff]; simp_all; done) | (rw [Bool.eq_iff_iff]; simp_all; omega) | (rw [Bool.eq_iff_iff]; simp; omega))) | exact d_int (by omega) | exact var2 rfl (cell_int (by omega))))) ?_
  rintro i hi
  have hlen := intsT_len bs p top i
  have hli := ints_len (intsT bs p top i)
  have hsn : ints (intsT bs p top (i + 1)) = ints (intsT bs p top i) ++ [iP (intV bs p top i)] := by rw [intsT_snoc, ints_app]
  have K1 := KP (p + 1 + 2 * (i : Int)) (by omega) (by omega) top
  have K2 := KP (p + 1 + 2 * (i : Int) + 1) (by omega) (by omega) 9
  by_cases hlt : i < C
  · have hv1 := pickV_in bs (p + 1 + 2 * (i : Int)) top
    have hv2 := pickV_in bs (p + 1 + 2 * (i : Int) + 1) 9
    have hd0 : 0 ≤ (pickV bs (p + 1 + 2 * (i : Int) + 1) 9).tdiv 8 := Int.tdiv_nonneg hv2.1 (by omega)
    have hd1 : (pickV bs (p + 1 + 2 * (i : Int) + 1) 9).tdiv 8 ≤ pickV bs (p + 1 + 2 * (i : Int) + 1) 9 := Int.tdiv_le_self _ hv2.1
    have hiv : IntKind.i64.wrap (pickV bs (p + 1 + 2 * (i : Int)) top - IntKind.i64.wrap ((pickV bs (p + 1 + 2 * (i : Int) + 1) 9).tdiv 8)) = intV bs p top i := by
      rw [IntWalk.i64_in ((pickV bs (p + 1 + 2 * (i : Int) + 1) 9).tdiv 8) (by omega), IntWalk.i64_in _ (by omega)]; rfl
    generalize intV bs p top i = V at *
    repeat' (first | (with_reducible first | refine aw_seq ?_ | refine thn_normal ?_ | refine thn_ret ?_ | refine thn_exit ?_ | refine blk_normal ?_ | refine blk_ret ?_ | refine blk_hit ?_ | refine blk_miss rfl ?_ | refine aw_block ?_ | refine aw_ret ?_ | refine aw_skip ?_ | refine aw_exit ?_ | refine w_nil ?_ | refine x_nil (by kernel_rfl) ?_) | refine aw_region ?_ | refine aw_region_draw (by kernel_rfl) ?_ | refine aw_yes rfl ?_ | refine aw_no rfl ?_ | ((with_reducible refine w_seq ?_); first | refine r_q tbOk rfl rfl rfl rfl ?_ | refine r_e tbOk rfl rfl rfl rfl rfl ?_ | refine r_yes tbOk rfl rfl rfl rfl rfl rfl ?_ | refine w_no rfl rfl (lookO_spec rfl) rfl rfl rfl ?_ | refine w_un rfl rfl (lookO_spec rfl) rfl rfl ?_) | ((with_reducible refine w_drw ?_); first | refine rx_q tbOk rfl rfl rfl rfl ?_ | refine rx_e tbOk rfl rfl rfl rfl rfl ?_ | refine rx_yes tbOk rfl rfl rfl rfl rfl rfl ?_ | refine x_no rfl rfl (lookO_spec rfl) rfl rfl rfl ?_ | refine x_un rfl rfl (lookO_spec rfl) rfl rfl ?_) | ((first | refine' w_q rfl rfl ?xa rfl ?_ | refine' v_q rfl rfl ?xa rfl ?_ | refine' w_yes rfl rfl (lookO_spec rfl) rfl ?xa rfl ?_ | refine' v_yes rfl rfl (lookO_spec rfl) rfl ?xa rfl ?_); case xa => exact k_div rfl rfl rfl (by omega)) | ((first | refine' w_e rfl ?xa ?xb ?xc ?xe ?_ | refine' v_e rfl ?xa ?xb ?xc ?xe ?_); (case xa => first | exact e_callS [] K1 rfl ⟨asD_ren (evO_spec rfl), by rw [evO_spec rfl]; exact asD_r rfl, trivial⟩ (by (repeat' (first | exact trivial | refine subHR_cons rfl ?_ ?_ | rfl))) rfl | exact e_callS [] K2 rfl ⟨asD_ren (evO_spec rfl), by rw [evO_spec rfl]; exact asD_r rfl, trivial⟩ (by (repeat' (first | exact trivial | refine subHR_cons rfl ?_ ?_ | rfl))) rfl | exact e_build [.tmp 21] tlOk rfl rfl rfl rfl rfl rfl (allN_one rfl) (by simp) | exact e_append tlOk rfl rfl rfl rfl rfl rfl (slD_own (lookHO_spec rfl) rfl) (by omega) (by simp only [maxLen, List.length_cons, List.length_nil] at *; omega) (by simp only [List.length_cons, List.length_nil] at *; omega)); (case xb => rfl); (case xc => rfl); (case xe => rfl); try dsimp only [P0.d, Res.d, List.map_cons, List.map_nil, List.set_cons_zero, List.set_cons_succ, Nat.reduceAdd]) | ((first | refine aw_ways rfl ?_ ?_ | refine r_split rfl rfl rfl ?_ ?_) <;> intro hg_ <;> fail_if_success (exact Bool.noConfusion hg_)) <;> (try simp only [prn] at hg_) <;> (try first | contradiction | (exfalso; omega)))
    all_goals first
      | exact ⟨i + 1, by omega, by (refine weak_ren [(100, 23)] rfl ?_ ?_ <;> repeat' (first | exact trivial | refine subR_cons rfl ?_ ?_ | refine subHR_cons rfl ?_ ?_ | rfl | (refine d_int ?_; (first | rfl | omega | (rw [IntWalk.i64_in _ (by omega)] <;> omega) | (simp; done) | (simp; omega))) | (refine d_bool ?_; (first | (simp_all; done) | (rw [Bool.eq_iff_iff]; simp_all; done) | (rw [Bool.eq_iff_iff]; simp_all; omega) | (rw [Bool.eq_iff_iff]; simp; omega))) | exact d_int (by rw [IntWalk.i64_in _ (by omega)] <;> omega) | exact d_own (by simp only [hli, hlen, List.length_cons, List.length_nil]) | exact var2 rfl (cell_int (by omega)) | exact ob_sl rfl (by rw [hsn, ← hiv] <;> rfl))), by omega⟩
      | trace_state
  · have hiC : i = C := by omega
    subst hiC
    repeat' (first | (with_reducible first | refine aw_seq ?_ | refine thn_normal ?_ | refine thn_ret ?_ | refine thn_exit ?_ | refine blk_normal ?_ | refine blk_ret ?_ | refine blk_hit ?_ | refine blk_miss rfl ?_ | refine aw_block ?_ | refine aw_ret ?_ | refine aw_skip ?_ | refine aw_exit ?_ | refine w_nil ?_ | refine x_nil (by kernel_rfl) ?_) | refine aw_region ?_ | refine aw_region_draw (by kernel_rfl) ?_ | refine aw_yes rfl ?_ | refine aw_no rfl ?_ | ((with_reducible refine w_seq ?_); first | refine r_q tbOk rfl rfl rfl rfl ?_ | refine r_e tbOk rfl rfl rfl rfl rfl ?_ | refine r_yes tbOk rfl rfl rfl rfl rfl rfl ?_ | refine w_no rfl rfl (lookO_spec rfl) rfl rfl rfl ?_ | refine w_un rfl rfl (lookO_spec rfl) rfl rfl ?_) | ((with_reducible refine w_drw ?_); first | refine rx_q tbOk rfl rfl rfl rfl ?_ | refine rx_e tbOk rfl rfl rfl rfl rfl ?_ | refine rx_yes tbOk rfl rfl rfl rfl rfl rfl ?_ | refine x_no rfl rfl (lookO_spec rfl) rfl rfl rfl ?_ | refine x_un rfl rfl (lookO_spec rfl) rfl rfl ?_) | ((first | refine aw_ways rfl ?_ ?_ | refine r_split rfl rfl rfl ?_ ?_) <;> intro hg_ <;> fail_if_success (exact Bool.noConfusion hg_)) <;> (try simp only [prn] at hg_) <;> (try first | contradiction | (exfalso; omega)))
    all_goals first
      | exact ret_D [(2000001, 100)] rfl (by (repeat' (first | exact trivial | refine subHR_cons rfl ?_ ?_ | rfl))) (retD_tmp rfl (imp_refl rfl))
      | trace_state
end Go.Proofs.Ytjjeihcmiofkmaa.Abs
