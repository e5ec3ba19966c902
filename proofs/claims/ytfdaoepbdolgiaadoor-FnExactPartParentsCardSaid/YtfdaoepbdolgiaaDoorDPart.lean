/- Parts of graphs by states: LeastInPart of the reference. No statement of the seat is proved here. -/
import Derived.Test.YtfdaoepbdolgiaaDoorTy
import Derived.Lib.Hide
import Derived.Test.YtfdaoepbdolgiaaDoorAPart2
import Derived.Test.YtfdaoepbdolgiaaDoorAGraph
import Derived.Test.YtfdaoepbdolgiaaDoorABits
import Derived.Test.YtfdaoepbdolgiaaDoorAHops
import Derived.Test.YtfdaoepbdolgiaaDoorGNear
set_option linter.unusedSimpArgs false
set_option linter.unusedVariables false
namespace Go.Proofs.YtfdaoepbdolgiaaDoor.Abs
open Go.RowKit
open R (val row ref)

/-! ## BPart -/
theorem ext_same {xs ys : List Int} (hl : xs.length = ys.length) (h : ∀ v : Int, 0 ≤ v → v < xs.length → Go.Proofs.YtfdaoepbdolgiaaDoor.val xs v = Go.Proofs.YtfdaoepbdolgiaaDoor.val ys v) : xs = ys := ext_val hl h
def sumL (L : List Int) : Nat := (L.map Int.toNat).sum
theorem sum_set (x : Int) : ∀ (L : List Int) (i : Nat) (h : i < L.length), sumL (L.set i x) + L[i].toNat = sumL L + x.toNat
  | [], i, h => by simp at h
  | y :: L, 0, _ => by simp only [sumL, List.set_cons_zero, List.map_cons, List.sum_cons, List.getElem_cons_zero]; omega
  | y :: L, i + 1, h => by
    have := sum_set x L i (by simpa using h)
    simp only [sumL, List.set_cons_succ, List.map_cons, List.sum_cons, List.getElem_cons_succ] at *
    omega
theorem sum_setv {L : List Int} {v x : Int} (h0 : 0 ≤ v) (h1 : v < L.length) : sumL (setv L v x) + (Go.Proofs.YtfdaoepbdolgiaaDoor.val L v).toNat = sumL L + x.toNat := by
  have := sum_set x L v.toNat (by omega)
  unfold setv Go.Proofs.YtfdaoepbdolgiaaDoor.val
  rw [List.getD_eq_getElem?_getD, List.getElem?_eq_getElem (by omega)]
  exact this
def mnL (L : List Int) (a b : Int) : Int := if Go.Proofs.YtfdaoepbdolgiaaDoor.val L b < Go.Proofs.YtfdaoepbdolgiaaDoor.val L a then Go.Proofs.YtfdaoepbdolgiaaDoor.val L b else Go.Proofs.YtfdaoepbdolgiaaDoor.val L a
/-- A round of the reference at one edge. -/
def stL (L : List Int) (a b : Int) : List Int := setv (setv L a (mnL L a b)) b (mnL L a b)
theorem stL_len (L : List Int) (a b : Int) : (stL L a b).length = L.length := by unfold stL; rw [setv_len, setv_len]
theorem setv_self {L : List Int} {v x : Int} (h0 : 0 ≤ v) (h1 : v < L.length) (h : Go.Proofs.YtfdaoepbdolgiaaDoor.val L v = x) : setv L v x = L := by
  refine ext_same (setv_len _ _ _) (fun u g0 g1 => ?_)
  rw [setv_len] at g1
  rw [val_setv h0 h1 g0]
  split
  · rename_i e; rw [e, h]
  · rfl
theorem stL_val {L : List Int} {a b u : Int} (ha : 0 ≤ a) (ha1 : a < L.length) (hb : 0 ≤ b) (hb1 : b < L.length) (hu : 0 ≤ u) : Go.Proofs.YtfdaoepbdolgiaaDoor.val (stL L a b) u = if u = b ∨ u = a then mnL L a b else Go.Proofs.YtfdaoepbdolgiaaDoor.val L u := by
  unfold stL
  rw [val_setv hb (by rw [setv_len]; exact hb1) hu, val_setv ha ha1 hu]
  by_cases h1 : u = b
  · rw [if_pos h1, if_pos (.inl h1)]
  · rw [if_neg h1]
    by_cases h2 : u = a
    · rw [if_pos h2, if_pos (.inr h2)]
    · rw [if_neg h2, if_neg (by omega)]
theorem stL_eq {L : List Int} {a b : Int} (ha : 0 ≤ a) (ha1 : a < L.length) (hb : 0 ≤ b) (hb1 : b < L.length) (h : Go.Proofs.YtfdaoepbdolgiaaDoor.val L a = Go.Proofs.YtfdaoepbdolgiaaDoor.val L b) : stL L a b = L := by
  have hm : mnL L a b = Go.Proofs.YtfdaoepbdolgiaaDoor.val L a := by unfold mnL; rw [if_neg (by omega)]
  refine ext_same (stL_len _ _ _) (fun u g0 g1 => ?_)
  rw [stL_len] at g1
  rw [stL_val ha ha1 hb hb1 g0, hm]
  split
  · rename_i e
    rcases e with rfl | rfl
    · exact h
    · rfl
  · rfl
/-- What the reference's lists hold. -/
structure LvI (m : Nat) (es : List E3) (L : List Int) : Prop where
  len : L.length = m
  le : ∀ v : Int, 0 ≤ v → v < (m : Int) → 0 ≤ Go.Proofs.YtfdaoepbdolgiaaDoor.val L v ∧ Go.Proofs.YtfdaoepbdolgiaaDoor.val L v ≤ v
  con : ∀ v : Int, 0 ≤ v → v < (m : Int) → cn es (Go.Proofs.YtfdaoepbdolgiaaDoor.val L v) v
theorem LvI.step {m : Nat} {es : List E3} {L : List Int} (h : LvI m es L) (hI : Inside m es) {e : E3} (he : e ∈ es) : LvI m es (stL L e.1 e.2.1) ∧ sumL (stL L e.1 e.2.1) + (if Go.Proofs.YtfdaoepbdolgiaaDoor.val L e.1 = Go.Proofs.YtfdaoepbdolgiaaDoor.val L e.2.1 then 0 else 1) ≤ sumL L := by
  have hi := hI e he
  have hl := h.len
  have la := h.le e.1 hi.1.1 hi.1.2
  have lb := h.le e.2.1 hi.2.1 hi.2.2
  have ca := h.con e.1 hi.1.1 hi.1.2
  have cb := h.con e.2.1 hi.2.1 hi.2.2
  have hab : cn es e.1 e.2.1 := cn_adj (mem_symE.1 ⟨e, List.mem_append.2 (.inl he), rfl, rfl⟩)
  have hv := fun u (hu : 0 ≤ u) => stL_val (L := L) (a := e.1) (b := e.2.1) (u := u) hi.1.1 (by omega) hi.2.1 (by omega) hu
  have hmn : mnL L e.1 e.2.1 ≤ Go.Proofs.YtfdaoepbdolgiaaDoor.val L e.1 ∧ mnL L e.1 e.2.1 ≤ Go.Proofs.YtfdaoepbdolgiaaDoor.val L e.2.1 ∧ (mnL L e.1 e.2.1 = Go.Proofs.YtfdaoepbdolgiaaDoor.val L e.1 ∨ mnL L e.1 e.2.1 = Go.Proofs.YtfdaoepbdolgiaaDoor.val L e.2.1) := by
    unfold mnL; split <;> omega
  have hcm : cn es (mnL L e.1 e.2.1) e.1 := by
    rcases hmn.2.2 with h1 | h1
    · rw [h1]; exact ca
    · rw [h1]; exact cn_trans cb (cn_symm hab)
  refine ⟨⟨by rw [stL_len, hl], fun v h0 h1 => ?_, fun v h0 h1 => ?_⟩, ?_⟩
  · rw [hv v h0]
    have := h.le v h0 h1
    split
    · rename_i hc
      rcases hc with rfl | rfl <;> omega
    · exact this
  · rw [hv v h0]
    split
    · rename_i hc
      rcases hc with rfl | rfl
      · exact cn_trans hcm hab
      · exact hcm
    · exact h.con v h0 h1
  · by_cases heq : Go.Proofs.YtfdaoepbdolgiaaDoor.val L e.1 = Go.Proofs.YtfdaoepbdolgiaaDoor.val L e.2.1
    · rw [if_pos heq, stL_eq hi.1.1 (by omega) hi.2.1 (by omega) heq]; omega
    · rw [if_neg heq]
      have s1 := sum_setv (L := L) (v := e.1) (x := mnL L e.1 e.2.1) hi.1.1 (by omega)
      have s2 := sum_setv (L := setv L e.1 (mnL L e.1 e.2.1)) (v := e.2.1) (x := mnL L e.1 e.2.1) hi.2.1 (by rw [setv_len]; omega)
      rw [val_setv hi.1.1 (by omega) hi.2.1] at s2
      unfold stL
      by_cases hsame : e.2.1 = e.1
      · exfalso; exact heq (by rw [hsame])
      · rw [if_neg hsame] at s2
        omega
theorem LvI.done {m : Nat} {es : List E3} {L : List Int} (h : LvI m es L) (hI : Inside m es) (hE : ∀ e ∈ es, Go.Proofs.YtfdaoepbdolgiaaDoor.val L e.1 = Go.Proofs.YtfdaoepbdolgiaaDoor.val L e.2.1) : L = leastP m es := by
  refine IsL.uniq ⟨h.len, fun v h0 h1 => ?_, fun v h0 h1 u hc hu => ?_⟩ (leastP_ok hI)
  · have := h.le v h0 h1
    exact ⟨by omega, h.con v h0 h1⟩
  · have hui := cn_in hI ⟨h0, h1⟩ (cn_symm hc)
    have := h.le u hui.1 hui.2
    have h2 : Go.Proofs.YtfdaoepbdolgiaaDoor.val L v = Go.Proofs.YtfdaoepbdolgiaaDoor.val L u := cn_same (f := Go.Proofs.YtfdaoepbdolgiaaDoor.val L) hE hc
    omega
theorem LvI.start (m : Nat) (es : List E3) : LvI m es (tab m (fun i => i)) := by
  refine ⟨tab_len _ _, fun v h0 h1 => ?_, fun v h0 h1 => ?_⟩
  · rw [tab_val h0 h1]; omega
  · rw [tab_val h0 h1]; exact cn_refl es v
theorem tab_succ (m : Nat) (f : Int → Int) : tab (m + 1) f = tab m f ++ [f (m : Int)] := by
  unfold tab
  rw [List.range_succ, List.map_append]; rfl
noncomputable def leastF (m : Int) (es : List E3) : List Int := if gOk m es then leastP m.toNat es else []
set_option maxRecDepth 100000 in
set_option maxHeartbeats 8000000 in
theorem f_specLeast (m : Int) (nil : Bool) (es : List E3) (hl : es.length ≤ 1048576) : FnO Tryd.prog 61 [graphP m nil es] 3 1 (ints (leastF m es)) := by
  have KG := f_specGraphValid m nil es (by simp only [maxLen]; omega)
  have hlen := edges_len es
  unfold leastF
  cases hg : gOk m es
  · rw [hg] at KG
    by_cases hmp : 0 < m
    · refine fn_ofO Tryd.func61 (by kernel_rfl) rfl Tryd.ntmps61 rfl rfl ?_
      simp only [argEnv, P0.d, Nat.reduceAdd, List.map_cons, List.map_nil, graphP]
      repeat' (first | (with_reducible first | refine aw_seq ?_ | refine thn_normal ?_ | refine thn_ret ?_ | refine thn_exit ?_ | refine blk_normal ?_ | refine blk_ret ?_ | refine blk_hit ?_ | refine blk_miss rfl ?_ | refine aw_block ?_ | refine aw_ret ?_ | refine aw_skip ?_ | refine aw_exit ?_ | refine w_nil ?_ | refine x_nil (by kernel_rfl) ?_) | refine aw_region ?_ | refine aw_region_draw (by kernel_rfl) ?_ | refine aw_yes rfl ?_ | refine aw_no rfl ?_ | ((with_reducible refine w_seq ?_); first | refine r_q tbOk rfl rfl rfl rfl ?_ | refine r_e tbOk rfl rfl rfl rfl rfl ?_ | refine r_yes tbOk rfl rfl rfl rfl rfl rfl ?_ | refine w_no rfl rfl (lookO_spec rfl) rfl rfl rfl ?_ | refine w_un rfl rfl (lookO_spec rfl) rfl rfl ?_) | ((with_reducible refine w_drw ?_); first | refine rx_q tbOk rfl rfl rfl rfl ?_ | refine rx_e tbOk rfl rfl rfl rfl rfl ?_ | refine rx_yes tbOk rfl rfl rfl rfl rfl rfl ?_ | refine x_no rfl rfl (lookO_spec rfl) rfl rfl rfl ?_ | refine x_un rfl rfl (lookO_spec rfl) rfl rfl ?_) | ((first | refine' w_e rfl ?xa ?xb ?xc ?xe ?_ | refine' v_e rfl ?xa ?xb ?xc ?xe ?_); (case xa => exact e_build [] tlOk rfl rfl rfl rfl rfl rfl (by simp [AllN]) (by simp)); (case xb => rfl); (case xc => rfl); (case xe => rfl); try dsimp only [P0.d, Res.d, List.map_cons, List.map_nil, List.set_cons_zero, List.set_cons_succ, Nat.reduceAdd]) | ((first | refine aw_ways rfl ?_ ?_ | refine r_split rfl rfl rfl ?_ ?_) <;> intro hg_ <;> fail_if_success (exact Bool.noConfusion hg_)) <;> (try simp only [prn] at hg_) <;> (try first | contradiction | (exfalso; omega)))
      refine aw_loopI (fun _ : Nat => True) (fun _ => mkS 83 [(4, .one (.r true (int 0))), (3, .one (.own 100 0 0 1)), (1, .one (.ptr 1 0 0 0))] [(100, .sl 3 1 true []), (1, .var 25 [.r false (int m), .r false (row nil 3 (edges es))])]) (fun _ => 0) 0 trivial (by (refine weak_ren [(100, 10)] rfl ?_ ?_ <;> repeat' (first | exact trivial | refine subR_cons rfl ?_ ?_ | refine subHR_cons rfl ?_ ?_ | rfl | (refine d_int ?_; (first | rfl | omega | (rw [IntWalk.i64_in _ (by omega)] <;> omega) | (simp; done) | (simp; omega))) | (refine d_bool ?_; (first | (simp_all; done) | (rw [Bool.eq_iff_iff]; simp_all; done) | (rw [Bool.eq_iff_iff]; simp_all; omega) | (rw [Bool.eq_iff_iff]; simp; omega)))))) ?_
      rintro _ _
      repeat' (first | (with_reducible first | refine aw_seq ?_ | refine thn_normal ?_ | refine thn_ret ?_ | refine thn_exit ?_ | refine blk_normal ?_ | refine blk_ret ?_ | refine blk_hit ?_ | refine blk_miss rfl ?_ | refine aw_block ?_ | refine aw_ret ?_ | refine aw_skip ?_ | refine aw_exit ?_ | refine w_nil ?_ | refine x_nil (by kernel_rfl) ?_) | refine aw_region ?_ | refine aw_region_draw (by kernel_rfl) ?_ | refine aw_yes rfl ?_ | refine aw_no rfl ?_ | ((with_reducible refine w_seq ?_); first | refine r_q tbOk rfl rfl rfl rfl ?_ | refine r_e tbOk rfl rfl rfl rfl rfl ?_ | refine r_yes tbOk rfl rfl rfl rfl rfl rfl ?_ | refine w_no rfl rfl (lookO_spec rfl) rfl rfl rfl ?_ | refine w_un rfl rfl (lookO_spec rfl) rfl rfl ?_) | ((with_reducible refine w_drw ?_); first | refine rx_q tbOk rfl rfl rfl rfl ?_ | refine rx_e tbOk rfl rfl rfl rfl rfl ?_ | refine rx_yes tbOk rfl rfl rfl rfl rfl rfl ?_ | refine x_no rfl rfl (lookO_spec rfl) rfl rfl rfl ?_ | refine x_un rfl rfl (lookO_spec rfl) rfl rfl ?_) | ((first | refine' w_q rfl rfl ?xa rfl ?_ | refine' v_q rfl rfl ?xa rfl ?_ | refine' w_yes rfl rfl (lookO_spec rfl) rfl ?xa rfl ?_ | refine' v_yes rfl rfl (lookO_spec rfl) rfl ?xa rfl ?_); case xa => exact k_call KG rfl ⟨asA_agg (evO_spec rfl) ⟨cAr_r, cAr_r, trivial⟩, trivial⟩) | ((first | refine aw_ways rfl ?_ ?_ | refine r_split rfl rfl rfl ?_ ?_) <;> intro hg_ <;> fail_if_success (exact Bool.noConfusion hg_)) <;> (try simp only [prn] at hg_) <;> (try first | contradiction | (exfalso; omega)))
      all_goals (try (exfalso; omega))
      refine aw_loopI (fun _ : Nat => True) (fun _ => mkS 83 [(5, .one (.r true (bool false))), (3, .one (.own 100 0 0 1))] [(100, .sl 3 1 true [])]) (fun _ => 0) 0 trivial (by (refine weak_ren [(100, 100)] rfl ?_ ?_ <;> repeat' (first | exact trivial | refine subR_cons rfl ?_ ?_ | refine subHR_cons rfl ?_ ?_ | rfl | (refine d_int ?_; (first | rfl | omega | (rw [IntWalk.i64_in _ (by omega)] <;> omega) | (simp; done) | (simp; omega))) | (refine d_bool ?_; (first | (simp_all; done) | (rw [Bool.eq_iff_iff]; simp_all; done) | (rw [Bool.eq_iff_iff]; simp_all; omega) | (rw [Bool.eq_iff_iff]; simp; omega)))))) ?_
      rintro _ _
      repeat' (first | (with_reducible first | refine aw_seq ?_ | refine thn_normal ?_ | refine thn_ret ?_ | refine thn_exit ?_ | refine blk_normal ?_ | refine blk_ret ?_ | refine blk_hit ?_ | refine blk_miss rfl ?_ | refine aw_block ?_ | refine aw_ret ?_ | refine aw_skip ?_ | refine aw_exit ?_ | refine w_nil ?_ | refine x_nil (by kernel_rfl) ?_) | refine aw_region ?_ | refine aw_region_draw (by kernel_rfl) ?_ | refine aw_yes rfl ?_ | refine aw_no rfl ?_ | ((with_reducible refine w_seq ?_); first | refine r_q tbOk rfl rfl rfl rfl ?_ | refine r_e tbOk rfl rfl rfl rfl rfl ?_ | refine r_yes tbOk rfl rfl rfl rfl rfl rfl ?_ | refine w_no rfl rfl (lookO_spec rfl) rfl rfl rfl ?_ | refine w_un rfl rfl (lookO_spec rfl) rfl rfl ?_) | ((with_reducible refine w_drw ?_); first | refine rx_q tbOk rfl rfl rfl rfl ?_ | refine rx_e tbOk rfl rfl rfl rfl rfl ?_ | refine rx_yes tbOk rfl rfl rfl rfl rfl rfl ?_ | refine x_no rfl rfl (lookO_spec rfl) rfl rfl rfl ?_ | refine x_un rfl rfl (lookO_spec rfl) rfl rfl ?_) | ((first | refine aw_ways rfl ?_ ?_ | refine r_split rfl rfl rfl ?_ ?_) <;> intro hg_ <;> fail_if_success (exact Bool.noConfusion hg_)) <;> (try simp only [prn] at hg_) <;> (try first | contradiction | (exfalso; omega)))
      all_goals first
        | exact ret_own rfl rfl rfl
        | trace_state
    · refine fn_ofO Tryd.func61 (by kernel_rfl) rfl Tryd.ntmps61 rfl rfl ?_
      simp only [argEnv, P0.d, Nat.reduceAdd, List.map_cons, List.map_nil, graphP]
      repeat' (first | (with_reducible first | refine aw_seq ?_ | refine thn_normal ?_ | refine thn_ret ?_ | refine thn_exit ?_ | refine blk_normal ?_ | refine blk_ret ?_ | refine blk_hit ?_ | refine blk_miss rfl ?_ | refine aw_block ?_ | refine aw_ret ?_ | refine aw_skip ?_ | refine aw_exit ?_ | refine w_nil ?_ | refine x_nil (by kernel_rfl) ?_) | refine aw_region ?_ | refine aw_region_draw (by kernel_rfl) ?_ | refine aw_yes rfl ?_ | refine aw_no rfl ?_ | ((with_reducible refine w_seq ?_); first | refine r_q tbOk rfl rfl rfl rfl ?_ | refine r_e tbOk rfl rfl rfl rfl rfl ?_ | refine r_yes tbOk rfl rfl rfl rfl rfl rfl ?_ | refine w_no rfl rfl (lookO_spec rfl) rfl rfl rfl ?_ | refine w_un rfl rfl (lookO_spec rfl) rfl rfl ?_) | ((with_reducible refine w_drw ?_); first | refine rx_q tbOk rfl rfl rfl rfl ?_ | refine rx_e tbOk rfl rfl rfl rfl rfl ?_ | refine rx_yes tbOk rfl rfl rfl rfl rfl rfl ?_ | refine x_no rfl rfl (lookO_spec rfl) rfl rfl rfl ?_ | refine x_un rfl rfl (lookO_spec rfl) rfl rfl ?_) | ((first | refine' w_e rfl ?xa ?xb ?xc ?xe ?_ | refine' v_e rfl ?xa ?xb ?xc ?xe ?_); (case xa => exact e_build [] tlOk rfl rfl rfl rfl rfl rfl (by simp [AllN]) (by simp)); (case xb => rfl); (case xc => rfl); (case xe => rfl); try dsimp only [P0.d, Res.d, List.map_cons, List.map_nil, List.set_cons_zero, List.set_cons_succ, Nat.reduceAdd]) | ((first | refine aw_ways rfl ?_ ?_ | refine r_split rfl rfl rfl ?_ ?_) <;> intro hg_ <;> fail_if_success (exact Bool.noConfusion hg_)) <;> (try simp only [prn] at hg_) <;> (try first | contradiction | (exfalso; omega)))
      refine aw_loopI (fun _ : Nat => True) (fun _ => mkS 83 [(4, .one (.r true (int 0))), (3, .one (.own 100 0 0 1)), (1, .one (.ptr 1 0 0 0))] [(100, .sl 3 1 true []), (1, .var 25 [.r false (int m), .r false (row nil 3 (edges es))])]) (fun _ => 0) 0 trivial (by (refine weak_ren [(100, 10)] rfl ?_ ?_ <;> repeat' (first | exact trivial | refine subR_cons rfl ?_ ?_ | refine subHR_cons rfl ?_ ?_ | rfl | (refine d_int ?_; (first | rfl | omega | (rw [IntWalk.i64_in _ (by omega)] <;> omega) | (simp; done) | (simp; omega))) | (refine d_bool ?_; (first | (simp_all; done) | (rw [Bool.eq_iff_iff]; simp_all; done) | (rw [Bool.eq_iff_iff]; simp_all; omega) | (rw [Bool.eq_iff_iff]; simp; omega)))))) ?_
      rintro _ _
      repeat' (first | (with_reducible first | refine aw_seq ?_ | refine thn_normal ?_ | refine thn_ret ?_ | refine thn_exit ?_ | refine blk_normal ?_ | refine blk_ret ?_ | refine blk_hit ?_ | refine blk_miss rfl ?_ | refine aw_block ?_ | refine aw_ret ?_ | refine aw_skip ?_ | refine aw_exit ?_ | refine w_nil ?_ | refine x_nil (by kernel_rfl) ?_) | refine aw_region ?_ | refine aw_region_draw (by kernel_rfl) ?_ | refine aw_yes rfl ?_ | refine aw_no rfl ?_ | ((with_reducible refine w_seq ?_); first | refine r_q tbOk rfl rfl rfl rfl ?_ | refine r_e tbOk rfl rfl rfl rfl rfl ?_ | refine r_yes tbOk rfl rfl rfl rfl rfl rfl ?_ | refine w_no rfl rfl (lookO_spec rfl) rfl rfl rfl ?_ | refine w_un rfl rfl (lookO_spec rfl) rfl rfl ?_) | ((with_reducible refine w_drw ?_); first | refine rx_q tbOk rfl rfl rfl rfl ?_ | refine rx_e tbOk rfl rfl rfl rfl rfl ?_ | refine rx_yes tbOk rfl rfl rfl rfl rfl rfl ?_ | refine x_no rfl rfl (lookO_spec rfl) rfl rfl rfl ?_ | refine x_un rfl rfl (lookO_spec rfl) rfl rfl ?_) | ((first | refine' w_q rfl rfl ?xa rfl ?_ | refine' v_q rfl rfl ?xa rfl ?_ | refine' w_yes rfl rfl (lookO_spec rfl) rfl ?xa rfl ?_ | refine' v_yes rfl rfl (lookO_spec rfl) rfl ?xa rfl ?_); case xa => exact k_call KG rfl ⟨asA_agg (evO_spec rfl) ⟨cAr_r, cAr_r, trivial⟩, trivial⟩) | ((first | refine aw_ways rfl ?_ ?_ | refine r_split rfl rfl rfl ?_ ?_) <;> intro hg_ <;> fail_if_success (exact Bool.noConfusion hg_)) <;> (try simp only [prn] at hg_) <;> (try first | contradiction | (exfalso; omega)))
      all_goals (try (exfalso; omega))
      refine aw_loopI (fun _ : Nat => True) (fun _ => mkS 83 [(5, .one (.r true (bool false))), (3, .one (.own 100 0 0 1))] [(100, .sl 3 1 true [])]) (fun _ => 0) 0 trivial (by (refine weak_ren [(100, 100)] rfl ?_ ?_ <;> repeat' (first | exact trivial | refine subR_cons rfl ?_ ?_ | refine subHR_cons rfl ?_ ?_ | rfl | (refine d_int ?_; (first | rfl | omega | (rw [IntWalk.i64_in _ (by omega)] <;> omega) | (simp; done) | (simp; omega))) | (refine d_bool ?_; (first | (simp_all; done) | (rw [Bool.eq_iff_iff]; simp_all; done) | (rw [Bool.eq_iff_iff]; simp_all; omega) | (rw [Bool.eq_iff_iff]; simp; omega)))))) ?_
      rintro _ _
      repeat' (first | (with_reducible first | refine aw_seq ?_ | refine thn_normal ?_ | refine thn_ret ?_ | refine thn_exit ?_ | refine blk_normal ?_ | refine blk_ret ?_ | refine blk_hit ?_ | refine blk_miss rfl ?_ | refine aw_block ?_ | refine aw_ret ?_ | refine aw_skip ?_ | refine aw_exit ?_ | refine w_nil ?_ | refine x_nil (by kernel_rfl) ?_) | refine aw_region ?_ | refine aw_region_draw (by kernel_rfl) ?_ | refine aw_yes rfl ?_ | refine aw_no rfl ?_ | ((with_reducible refine w_seq ?_); first | refine r_q tbOk rfl rfl rfl rfl ?_ | refine r_e tbOk rfl rfl rfl rfl rfl ?_ | refine r_yes tbOk rfl rfl rfl rfl rfl rfl ?_ | refine w_no rfl rfl (lookO_spec rfl) rfl rfl rfl ?_ | refine w_un rfl rfl (lookO_spec rfl) rfl rfl ?_) | ((with_reducible refine w_drw ?_); first | refine rx_q tbOk rfl rfl rfl rfl ?_ | refine rx_e tbOk rfl rfl rfl rfl rfl ?_ | refine rx_yes tbOk rfl rfl rfl rfl rfl rfl ?_ | refine x_no rfl rfl (lookO_spec rfl) rfl rfl rfl ?_ | refine x_un rfl rfl (lookO_spec rfl) rfl rfl ?_) | ((first | refine aw_ways rfl ?_ ?_ | refine r_split rfl rfl rfl ?_ ?_) <;> intro hg_ <;> fail_if_success (exact Bool.noConfusion hg_)) <;> (try simp only [prn] at hg_) <;> (try first | contradiction | (exfalso; omega)))
      all_goals first
        | exact ret_own rfl rfl rfl
        | trace_state
  · rw [hg] at KG
    rw [if_pos rfl]
    have hm := gOk_m hg
    have hl40 := gOk_len hg
    obtain ⟨M, rfl⟩ : ∃ M : Nat, m = (M : Int) := ⟨m.toNat, by omega⟩
    rw [Int.toNat_natCast]
    have hIn : Inside M es := fun e he => by have := gOk_edges hg e he; exact ⟨this.1, this.2.1⟩
    refine fn_ofO Tryd.func61 (by kernel_rfl) rfl Tryd.ntmps61 rfl rfl ?_
    simp only [argEnv, P0.d, Nat.reduceAdd, List.map_cons, List.map_nil, graphP]
    repeat' (first | (with_reducible first | refine aw_seq ?_ | refine thn_normal ?_ | refine thn_ret ?_ | refine thn_exit ?_ | refine blk_normal ?_ | refine blk_ret ?_ | refine blk_hit ?_ | refine blk_miss rfl ?_ | refine aw_block ?_ | refine aw_ret ?_ | refine aw_skip ?_ | refine aw_exit ?_ | refine w_nil ?_ | refine x_nil (by kernel_rfl) ?_) | refine aw_region ?_ | refine aw_region_draw (by kernel_rfl) ?_ | refine aw_yes rfl ?_ | refine aw_no rfl ?_ | ((with_reducible refine w_seq ?_); first | refine r_q tbOk rfl rfl rfl rfl ?_ | refine r_e tbOk rfl rfl rfl rfl rfl ?_ | refine r_yes tbOk rfl rfl rfl rfl rfl rfl ?_ | refine w_no rfl rfl (lookO_spec rfl) rfl rfl rfl ?_ | refine w_un rfl rfl (lookO_spec rfl) rfl rfl ?_) | ((with_reducible refine w_drw ?_); first | refine rx_q tbOk rfl rfl rfl rfl ?_ | refine rx_e tbOk rfl rfl rfl rfl rfl ?_ | refine rx_yes tbOk rfl rfl rfl rfl rfl rfl ?_ | refine x_no rfl rfl (lookO_spec rfl) rfl rfl rfl ?_ | refine x_un rfl rfl (lookO_spec rfl) rfl rfl ?_) | ((first | refine' w_e rfl ?xa ?xb ?xc ?xe ?_ | refine' v_e rfl ?xa ?xb ?xc ?xe ?_); (case xa => exact e_build [] tlOk rfl rfl rfl rfl rfl rfl (by simp [AllN]) (by simp)); (case xb => rfl); (case xc => rfl); (case xe => rfl); try dsimp only [P0.d, Res.d, List.map_cons, List.map_nil, List.set_cons_zero, List.set_cons_succ, Nat.reduceAdd]) | ((first | refine aw_ways rfl ?_ ?_ | refine r_split rfl rfl rfl ?_ ?_) <;> intro hg_ <;> fail_if_success (exact Bool.noConfusion hg_)) <;> (try simp only [prn] at hg_) <;> (try first | contradiction | (exfalso; omega)))
    refine aw_loopI (fun v : Nat => v ≤ M) (fun v => mkS 83 [(4, .one (.r true (int v))), (3, .one (.own 100 0 v 1)), (1, .one (.ptr 1 0 0 0))] [(100, .sl 3 1 true (ints (tab v (fun i => i)))), (1, .var 25 [.r false (int (M : Int)), .r false (row nil 3 (edges es))])]) (fun v => M - v) 0 (Nat.zero_le _) (by (refine weak_ren [(100, 10)] rfl ?_ ?_ <;> repeat' (first | exact trivial | refine subR_cons rfl ?_ ?_ | refine subHR_cons rfl ?_ ?_ | rfl | (refine d_int ?_; (first | rfl | omega | (rw [IntWalk.i64_in _ (by omega)] <;> omega) | (simp; done) | (simp; omega))) | (refine d_bool ?_; (first | (simp_all; done) | (rw [Bool.eq_iff_iff]; simp_all; done) | (rw [Bool.eq_iff_iff]; simp_all; omega) | (rw [Bool.eq_iff_iff]; simp; omega)))))) ?_
    intro v hv
    have hlen1 : v = (ints (tab v (fun i => i))).length := by rw [ints_len, tab_len]
    by_cases hlt : v < M
    · have hw : IntKind.i64.wrap ((v : Int) + 1) = ((v + 1 : Nat) : Int) := by rw [IntWalk.i64_in _ (by omega)]; omega
      have hsn : ints (tab (v + 1) (fun i => i)) = ints (tab v (fun i => i)) ++ [iP (v : Int)] := by rw [tab_succ, ints_app]
      repeat' (first | (with_reducible first | refine aw_seq ?_ | refine thn_normal ?_ | refine thn_ret ?_ | refine thn_exit ?_ | refine blk_normal ?_ | refine blk_ret ?_ | refine blk_hit ?_ | refine blk_miss rfl ?_ | refine aw_block ?_ | refine aw_ret ?_ | refine aw_skip ?_ | refine aw_exit ?_ | refine w_nil ?_ | refine x_nil (by kernel_rfl) ?_) | refine aw_region ?_ | refine aw_region_draw (by kernel_rfl) ?_ | refine aw_yes rfl ?_ | refine aw_no rfl ?_ | ((with_reducible refine w_seq ?_); first | refine r_q tbOk rfl rfl rfl rfl ?_ | refine r_e tbOk rfl rfl rfl rfl rfl ?_ | refine r_yes tbOk rfl rfl rfl rfl rfl rfl ?_ | refine w_no rfl rfl (lookO_spec rfl) rfl rfl rfl ?_ | refine w_un rfl rfl (lookO_spec rfl) rfl rfl ?_) | ((with_reducible refine w_drw ?_); first | refine rx_q tbOk rfl rfl rfl rfl ?_ | refine rx_e tbOk rfl rfl rfl rfl rfl ?_ | refine rx_yes tbOk rfl rfl rfl rfl rfl rfl ?_ | refine x_no rfl rfl (lookO_spec rfl) rfl rfl rfl ?_ | refine x_un rfl rfl (lookO_spec rfl) rfl rfl ?_) | ((first | refine' w_q rfl rfl ?xa rfl ?_ | refine' v_q rfl rfl ?xa rfl ?_ | refine' w_yes rfl rfl (lookO_spec rfl) rfl ?xa rfl ?_ | refine' v_yes rfl rfl (lookO_spec rfl) rfl ?xa rfl ?_); case xa => exact k_call KG rfl ⟨asA_agg (evO_spec rfl) ⟨cAr_r, cAr_r, trivial⟩, trivial⟩) | ((first | refine' w_e rfl ?xa ?xb ?xc ?xe ?_ | refine' v_e rfl ?xa ?xb ?xc ?xe ?_); (case xa => first | exact e_build [.tmp 22] tlOk rfl rfl rfl rfl rfl rfl (allN_one rfl) (by simp) | exact e_append tlOk rfl rfl rfl rfl rfl rfl (slD_plain (slD_own (lookHO_spec rfl) rfl) (by simp [plain1, iP])) hlen1 (by simp only [maxLen, List.length_cons, List.length_nil]; omega) (by simp only [List.length_cons, List.length_nil]; omega)); (case xb => rfl); (case xc => rfl); (case xe => rfl); try dsimp only [P0.d, Res.d, List.map_cons, List.map_nil, List.set_cons_zero, List.set_cons_succ, Nat.reduceAdd]) | ((first | refine aw_ways rfl ?_ ?_ | refine r_split rfl rfl rfl ?_ ?_) <;> intro hg_ <;> fail_if_success (exact Bool.noConfusion hg_)) <;> (try simp only [prn] at hg_) <;> (try first | contradiction | (exfalso; omega)))
      all_goals first
        | (exfalso; omega)
        | exact ⟨v + 1, by omega, by (refine weak_ren [(100, 24)] rfl ?_ ?_ <;> repeat' (first | exact trivial | refine subR_cons rfl ?_ ?_ | refine subHR_cons rfl ?_ ?_ | rfl | (refine d_int ?_; (first | rfl | omega | (rw [IntWalk.i64_in _ (by omega)] <;> omega) | (simp; done) | (simp; omega))) | (refine d_bool ?_; (first | (simp_all; done) | (rw [Bool.eq_iff_iff]; simp_all; done) | (rw [Bool.eq_iff_iff]; simp_all; omega) | (rw [Bool.eq_iff_iff]; simp; omega))) | exact d_int hw | exact d_own (by rw [← hlen1]; rfl) | exact ob_sl rfl hsn.symm)), by omega⟩
        | trace_state
    · obtain rfl : v = M := by omega
      clear hlen1
      have hT := LvI.start v es
      generalize tab v (fun i => i) = L0 at *
      have hl0 : (ints L0).length = v := by rw [ints_len, hT.len]
      by_cases hv0 : v = 0
      · subst hv0
        have hE0 : L0 = leastP 0 es := hT.done hIn (fun e he => by have := hIn e he; omega)
        rw [← hE0]
        repeat' (first | (with_reducible first | refine aw_seq ?_ | refine thn_normal ?_ | refine thn_ret ?_ | refine thn_exit ?_ | refine blk_normal ?_ | refine blk_ret ?_ | refine blk_hit ?_ | refine blk_miss rfl ?_ | refine aw_block ?_ | refine aw_ret ?_ | refine aw_skip ?_ | refine aw_exit ?_ | refine w_nil ?_ | refine x_nil (by kernel_rfl) ?_) | refine aw_region ?_ | refine aw_region_draw (by kernel_rfl) ?_ | refine aw_yes rfl ?_ | refine aw_no rfl ?_ | ((with_reducible refine w_seq ?_); first | refine r_q tbOk rfl rfl rfl rfl ?_ | refine r_e tbOk rfl rfl rfl rfl rfl ?_ | refine r_yes tbOk rfl rfl rfl rfl rfl rfl ?_ | refine w_no rfl rfl (lookO_spec rfl) rfl rfl rfl ?_ | refine w_un rfl rfl (lookO_spec rfl) rfl rfl ?_) | ((with_reducible refine w_drw ?_); first | refine rx_q tbOk rfl rfl rfl rfl ?_ | refine rx_e tbOk rfl rfl rfl rfl rfl ?_ | refine rx_yes tbOk rfl rfl rfl rfl rfl rfl ?_ | refine x_no rfl rfl (lookO_spec rfl) rfl rfl rfl ?_ | refine x_un rfl rfl (lookO_spec rfl) rfl rfl ?_) | ((first | refine' w_q rfl rfl ?xa rfl ?_ | refine' v_q rfl rfl ?xa rfl ?_ | refine' w_yes rfl rfl (lookO_spec rfl) rfl ?xa rfl ?_ | refine' v_yes rfl rfl (lookO_spec rfl) rfl ?xa rfl ?_); case xa => exact k_call KG rfl ⟨asA_agg (evO_spec rfl) ⟨cAr_r, cAr_r, trivial⟩, trivial⟩) | ((first | refine aw_ways rfl ?_ ?_ | refine r_split rfl rfl rfl ?_ ?_) <;> intro hg_ <;> fail_if_success (exact Bool.noConfusion hg_)) <;> (try simp only [prn] at hg_) <;> (try first | contradiction | (exfalso; omega)))
        all_goals (try (exfalso; first | omega | (simp at *; done)))
        refine aw_loopI (fun _ : Nat => True) (fun _ => mkS 83 [(5, .one (.r true (bool false))), (3, .one (.own 100 0 0 1))] [(100, .sl 3 1 true (ints L0))]) (fun _ => 0) 0 trivial (by (refine weak_ren [(100, 100)] rfl ?_ ?_ <;> repeat' (first | exact trivial | refine subR_cons rfl ?_ ?_ | refine subHR_cons rfl ?_ ?_ | rfl | (refine d_int ?_; (first | rfl | omega | (rw [IntWalk.i64_in _ (by omega)] <;> omega) | (simp; done) | (simp; omega))) | (refine d_bool ?_; (first | (simp_all; done) | (rw [Bool.eq_iff_iff]; simp_all; done) | (rw [Bool.eq_iff_iff]; simp_all; omega) | (rw [Bool.eq_iff_iff]; simp; omega)))))) ?_
        rintro _ _
        repeat' (first | (with_reducible first | refine aw_seq ?_ | refine thn_normal ?_ | refine thn_ret ?_ | refine thn_exit ?_ | refine blk_normal ?_ | refine blk_ret ?_ | refine blk_hit ?_ | refine blk_miss rfl ?_ | refine aw_block ?_ | refine aw_ret ?_ | refine aw_skip ?_ | refine aw_exit ?_ | refine w_nil ?_ | refine x_nil (by kernel_rfl) ?_) | refine aw_region ?_ | refine aw_region_draw (by kernel_rfl) ?_ | refine aw_yes rfl ?_ | refine aw_no rfl ?_ | ((with_reducible refine w_seq ?_); first | refine r_q tbOk rfl rfl rfl rfl ?_ | refine r_e tbOk rfl rfl rfl rfl rfl ?_ | refine r_yes tbOk rfl rfl rfl rfl rfl rfl ?_ | refine w_no rfl rfl (lookO_spec rfl) rfl rfl rfl ?_ | refine w_un rfl rfl (lookO_spec rfl) rfl rfl ?_) | ((with_reducible refine w_drw ?_); first | refine rx_q tbOk rfl rfl rfl rfl ?_ | refine rx_e tbOk rfl rfl rfl rfl rfl ?_ | refine rx_yes tbOk rfl rfl rfl rfl rfl rfl ?_ | refine x_no rfl rfl (lookO_spec rfl) rfl rfl rfl ?_ | refine x_un rfl rfl (lookO_spec rfl) rfl rfl ?_) | ((first | refine aw_ways rfl ?_ ?_ | refine r_split rfl rfl rfl ?_ ?_) <;> intro hg_ <;> fail_if_success (exact Bool.noConfusion hg_)) <;> (try simp only [prn] at hg_) <;> (try first | contradiction | (exfalso; omega)))
        all_goals first
          | exact ret_own rfl rfl hl0.symm
          | trace_state
      · repeat' (first | (with_reducible first | refine aw_seq ?_ | refine thn_normal ?_ | refine thn_ret ?_ | refine thn_exit ?_ | refine blk_normal ?_ | refine blk_ret ?_ | refine blk_hit ?_ | refine blk_miss rfl ?_ | refine aw_block ?_ | refine aw_ret ?_ | refine aw_skip ?_ | refine aw_exit ?_ | refine w_nil ?_ | refine x_nil (by kernel_rfl) ?_) | refine aw_region ?_ | refine aw_region_draw (by kernel_rfl) ?_ | refine aw_yes rfl ?_ | refine aw_no rfl ?_ | ((with_reducible refine w_seq ?_); first | refine r_q tbOk rfl rfl rfl rfl ?_ | refine r_e tbOk rfl rfl rfl rfl rfl ?_ | refine r_yes tbOk rfl rfl rfl rfl rfl rfl ?_ | refine w_no rfl rfl (lookO_spec rfl) rfl rfl rfl ?_ | refine w_un rfl rfl (lookO_spec rfl) rfl rfl ?_) | ((with_reducible refine w_drw ?_); first | refine rx_q tbOk rfl rfl rfl rfl ?_ | refine rx_e tbOk rfl rfl rfl rfl rfl ?_ | refine rx_yes tbOk rfl rfl rfl rfl rfl rfl ?_ | refine x_no rfl rfl (lookO_spec rfl) rfl rfl rfl ?_ | refine x_un rfl rfl (lookO_spec rfl) rfl rfl ?_) | ((first | refine' w_q rfl rfl ?xa rfl ?_ | refine' v_q rfl rfl ?xa rfl ?_ | refine' w_yes rfl rfl (lookO_spec rfl) rfl ?xa rfl ?_ | refine' v_yes rfl rfl (lookO_spec rfl) rfl ?xa rfl ?_); case xa => exact k_call KG rfl ⟨asA_agg (evO_spec rfl) ⟨cAr_r, cAr_r, trivial⟩, trivial⟩) | ((first | refine aw_ways rfl ?_ ?_ | refine r_split rfl rfl rfl ?_ ?_) <;> intro hg_ <;> fail_if_success (exact Bool.noConfusion hg_)) <;> (try simp only [prn] at hg_) <;> (try first | contradiction | (exfalso; omega)))
        all_goals (try (exfalso; first | omega | (simp at *; done)))
        clear KG
        refine aw_loopI (fun x : Bool × List Int => LvI v es x.2 ∧ (x.1 = false → ∀ e ∈ es, Go.Proofs.YtfdaoepbdolgiaaDoor.val x.2 e.1 = Go.Proofs.YtfdaoepbdolgiaaDoor.val x.2 e.2.1)) (fun x => mkS 83 [(5, .one (.r true (bool x.1))), (3, .one (.own 100 0 v 1)), (1, .one (.ptr 1 0 0 0))] [(100, .sl 3 1 true (ints x.2)), (1, .var 25 [.r false (int (v : Int)), .r false (row nil 3 (edges es))])]) (fun x => sumL x.2 + (if x.1 = true then 1 else 0)) (true, L0) ⟨hT, fun h => by cases h⟩ (by (refine weak_ren [(100, 100)] rfl ?_ ?_ <;> repeat' (first | exact trivial | refine subR_cons rfl ?_ ?_ | refine subHR_cons rfl ?_ ?_ | rfl | (refine d_int ?_; (first | rfl | omega | (rw [IntWalk.i64_in _ (by omega)] <;> omega) | (simp; done) | (simp; omega))) | (refine d_bool ?_; (first | (simp_all; done) | (rw [Bool.eq_iff_iff]; simp_all; done) | (rw [Bool.eq_iff_iff]; simp_all; omega) | (rw [Bool.eq_iff_iff]; simp; omega))) | exact d_bool (by simp; omega)))) ?_
        rintro ⟨c, L⟩ ⟨hL, hC⟩
        dsimp only at hL hC ⊢
        cases c with
        | false =>
          have hE0 := hL.done hIn (hC rfl)
          have hlL : v = (ints L).length := by rw [ints_len, hL.len]
          rw [← hE0]
          repeat' (first | (with_reducible first | refine aw_seq ?_ | refine thn_normal ?_ | refine thn_ret ?_ | refine thn_exit ?_ | refine blk_normal ?_ | refine blk_ret ?_ | refine blk_hit ?_ | refine blk_miss rfl ?_ | refine aw_block ?_ | refine aw_ret ?_ | refine aw_skip ?_ | refine aw_exit ?_ | refine w_nil ?_ | refine x_nil (by kernel_rfl) ?_) | refine aw_region ?_ | refine aw_region_draw (by kernel_rfl) ?_ | refine aw_yes rfl ?_ | refine aw_no rfl ?_ | ((with_reducible refine w_seq ?_); first | refine r_q tbOk rfl rfl rfl rfl ?_ | refine r_e tbOk rfl rfl rfl rfl rfl ?_ | refine r_yes tbOk rfl rfl rfl rfl rfl rfl ?_ | refine w_no rfl rfl (lookO_spec rfl) rfl rfl rfl ?_ | refine w_un rfl rfl (lookO_spec rfl) rfl rfl ?_) | ((with_reducible refine w_drw ?_); first | refine rx_q tbOk rfl rfl rfl rfl ?_ | refine rx_e tbOk rfl rfl rfl rfl rfl ?_ | refine rx_yes tbOk rfl rfl rfl rfl rfl rfl ?_ | refine x_no rfl rfl (lookO_spec rfl) rfl rfl rfl ?_ | refine x_un rfl rfl (lookO_spec rfl) rfl rfl ?_) | ((first | refine aw_ways rfl ?_ ?_ | refine r_split rfl rfl rfl ?_ ?_) <;> intro hg_ <;> fail_if_success (exact Bool.noConfusion hg_)) <;> (try simp only [prn] at hg_) <;> (try first | contradiction | (exfalso; omega)))
          all_goals first
            | exact ret_own rfl rfl hlL
            | trace_state
        | true =>
          rw [if_pos rfl]
          have hfin : ∀ (s' : St) (c' : Bool) (L' : List Int), LvI v es L' → (c' = false → ∀ e ∈ es, Go.Proofs.YtfdaoepbdolgiaaDoor.val L' e.1 = Go.Proofs.YtfdaoepbdolgiaaDoor.val L' e.2.1) → sumL L' + (if c' = true then 1 else 0) ≤ sumL L → Weak s' (mkS 83 [(5, .one (.r true (bool c'))), (3, .one (.own 100 0 v 1)), (1, .one (.ptr 1 0 0 0))] [(100, .sl 3 1 true (ints L')), (1, .var 25 [.r false (int (v : Int)), .r false (row nil 3 (edges es))])]) → ∃ x' : Bool × List Int, (LvI v es x'.2 ∧ (x'.1 = false → ∀ e ∈ es, Go.Proofs.YtfdaoepbdolgiaaDoor.val x'.2 e.1 = Go.Proofs.YtfdaoepbdolgiaaDoor.val x'.2 e.2.1)) ∧ Weak s' (mkS 83 [(5, .one (.r true (bool x'.1))), (3, .one (.own 100 0 v 1)), (1, .one (.ptr 1 0 0 0))] [(100, .sl 3 1 true (ints x'.2)), (1, .var 25 [.r false (int (v : Int)), .r false (row nil 3 (edges es))])]) ∧ sumL x'.2 + (if x'.1 = true then 1 else 0) < sumL L + 1 := fun s' c' L' h1 h2 h3 h4 => ⟨(c', L'), ⟨h1, h2⟩, h4, by dsimp only; omega⟩
          repeat' (first | (with_reducible first | refine aw_seq ?_ | refine thn_normal ?_ | refine thn_ret ?_ | refine thn_exit ?_ | refine blk_normal ?_ | refine blk_ret ?_ | refine blk_hit ?_ | refine blk_miss rfl ?_ | refine aw_block ?_ | refine aw_ret ?_ | refine aw_skip ?_ | refine aw_exit ?_ | refine w_nil ?_ | refine x_nil (by kernel_rfl) ?_) | refine aw_region ?_ | refine aw_region_draw (by kernel_rfl) ?_ | refine aw_yes rfl ?_ | refine aw_no rfl ?_ | ((with_reducible refine w_seq ?_); first | refine r_q tbOk rfl rfl rfl rfl ?_ | refine r_e tbOk rfl rfl rfl rfl rfl ?_ | refine r_yes tbOk rfl rfl rfl rfl rfl rfl ?_ | refine w_no rfl rfl (lookO_spec rfl) rfl rfl rfl ?_ | refine w_un rfl rfl (lookO_spec rfl) rfl rfl ?_) | ((with_reducible refine w_drw ?_); first | refine rx_q tbOk rfl rfl rfl rfl ?_ | refine rx_e tbOk rfl rfl rfl rfl rfl ?_ | refine rx_yes tbOk rfl rfl rfl rfl rfl rfl ?_ | refine x_no rfl rfl (lookO_spec rfl) rfl rfl rfl ?_ | refine x_un rfl rfl (lookO_spec rfl) rfl rfl ?_) | ((first | refine aw_ways rfl ?_ ?_ | refine r_split rfl rfl rfl ?_ ?_) <;> intro hg_ <;> fail_if_success (exact Bool.noConfusion hg_)) <;> (try simp only [prn] at hg_) <;> (try first | contradiction | (exfalso; omega)))
          refine aw_loopI (fun x : Nat × Bool × List Int => x.1 ≤ es.length ∧ LvI v es x.2.2 ∧ (x.2.1 = false → ∀ e ∈ es.take x.1, Go.Proofs.YtfdaoepbdolgiaaDoor.val x.2.2 e.1 = Go.Proofs.YtfdaoepbdolgiaaDoor.val x.2.2 e.2.1) ∧ sumL x.2.2 + (if x.2.1 = true then 1 else 0) ≤ sumL L) (fun x => mkS 83 [(6, .one (.r true (int x.1))), (5, .one (.r true (bool x.2.1))), (3, .one (.own 100 0 v 1)), (1, .one (.ptr 1 0 0 0))] [(100, .sl 3 1 true (ints x.2.2)), (1, .var 25 [.r false (int (v : Int)), .r false (row nil 3 (edges es))])]) (fun x => es.length - x.1) (0, false, L) ⟨Nat.zero_le _, hL, fun _ e he => by simp at he, by simp⟩ (by (refine weak_ren [(100, 100)] rfl ?_ ?_ <;> repeat' (first | exact trivial | refine subR_cons rfl ?_ ?_ | refine subHR_cons rfl ?_ ?_ | rfl | (refine d_int ?_; (first | rfl | omega | (rw [IntWalk.i64_in _ (by omega)] <;> omega) | (simp; done) | (simp; omega))) | (refine d_bool ?_; (first | (simp_all; done) | (rw [Bool.eq_iff_iff]; simp_all; done) | (rw [Bool.eq_iff_iff]; simp_all; omega) | (rw [Bool.eq_iff_iff]; simp; omega)))))) ?_
          rintro ⟨k, c, L2⟩ ⟨hk, hL2, hC2, hS2⟩
          dsimp only at hk hL2 hC2 hS2 ⊢
          have hl2 := hL2.len
          have hlL2 : (ints L2).length = v := by rw [ints_len, hl2]
          by_cases hltk : k < es.length
          · have hix := edges_at hltk
            have hem := List.getElem_mem hltk
            have hei := hIn _ hem
            obtain ⟨hL3, hS3⟩ := hL2.step hIn hem
            have hwk : IntKind.i64.wrap ((k : Int) + 1) = ((k + 1 : Nat) : Int) := by rw [IntWalk.i64_in _ (by omega)]; omega
            have hCn : (Go.Proofs.YtfdaoepbdolgiaaDoor.val L2 es[k].1 = Go.Proofs.YtfdaoepbdolgiaaDoor.val L2 es[k].2.1 → c = false → ∀ e ∈ es.take (k + 1), Go.Proofs.YtfdaoepbdolgiaaDoor.val L2 e.1 = Go.Proofs.YtfdaoepbdolgiaaDoor.val L2 e.2.1) := fun h hc e he => by
              rw [List.take_succ_eq_append_getElem hltk, List.mem_append] at he
              rcases he with he | he
              · exact hC2 hc e he
              · obtain rfl : e = es[k] := by simpa using he
                exact h
            have hsame := stL_eq (L := L2) (a := es[k].1) (b := es[k].2.1) hei.1.1 (by omega) hei.2.1 (by omega)
            have hst : stL L2 es[k].1 es[k].2.1 = (L2.set es[k].1.toNat (mnL L2 es[k].1 es[k].2.1)).set es[k].2.1.toNat (mnL L2 es[k].1 es[k].2.1) := rfl
            have hgo : ∀ s' : St, ∀ c' : Bool, (c' = false → ∀ e ∈ es.take (k + 1), Go.Proofs.YtfdaoepbdolgiaaDoor.val (stL L2 es[k].1 es[k].2.1) e.1 = Go.Proofs.YtfdaoepbdolgiaaDoor.val (stL L2 es[k].1 es[k].2.1) e.2.1) → sumL (stL L2 es[k].1 es[k].2.1) + (if c' = true then 1 else 0) ≤ sumL L → Weak s' (mkS 83 [(6, .one (.r true (int ((k + 1 : Nat) : Int)))), (5, .one (.r true (bool c'))), (3, .one (.own 100 0 v 1)), (1, .one (.ptr 1 0 0 0))] [(100, .sl 3 1 true (ints (stL L2 es[k].1 es[k].2.1))), (1, .var 25 [.r false (int (v : Int)), .r false (row nil 3 (edges es))])]) → ∃ x' : Nat × Bool × List Int, (x'.1 ≤ es.length ∧ LvI v es x'.2.2 ∧ (x'.2.1 = false → ∀ e ∈ es.take x'.1, Go.Proofs.YtfdaoepbdolgiaaDoor.val x'.2.2 e.1 = Go.Proofs.YtfdaoepbdolgiaaDoor.val x'.2.2 e.2.1) ∧ sumL x'.2.2 + (if x'.2.1 = true then 1 else 0) ≤ sumL L) ∧ Weak s' (mkS 83 [(6, .one (.r true (int x'.1))), (5, .one (.r true (bool x'.2.1))), (3, .one (.own 100 0 v 1)), (1, .one (.ptr 1 0 0 0))] [(100, .sl 3 1 true (ints x'.2.2)), (1, .var 25 [.r false (int (v : Int)), .r false (row nil 3 (edges es))])]) ∧ es.length - x'.1 < es.length - k := fun s' c' h1 h2 h3 => ⟨(k + 1, c', _), ⟨by omega, hL3, h1, h2⟩, h3, by dsimp only; omega⟩
            clear hfin hL3 hem hC hT hL
            generalize es[k] = e at *
            have hva : Go.Proofs.YtfdaoepbdolgiaaDoor.val L2 e.1 = L2.getD (0 + e.1.toNat) 0 := (val_at L2 e.1).symm
            have hvb : Go.Proofs.YtfdaoepbdolgiaaDoor.val L2 e.2.1 = L2.getD (0 + e.2.1.toNat) 0 := (val_at L2 e.2.1).symm
            have hmn : mnL L2 e.1 e.2.1 = if L2.getD (0 + e.2.1.toNat) 0 < L2.getD (0 + e.1.toNat) 0 then L2.getD (0 + e.2.1.toNat) 0 else L2.getD (0 + e.1.toNat) 0 := by unfold mnL; rw [hva, hvb]
            have hset : ((ints L2).set (0 + e.1.toNat) (iP (mnL L2 e.1 e.2.1))).set (0 + e.2.1.toNat) (iP (mnL L2 e.1 e.2.1)) = ints (stL L2 e.1 e.2.1) := by rw [Nat.zero_add, Nat.zero_add, ints_set, ints_set, hst]
            rw [hmn] at hset
            rw [hva, hvb] at hS3 hCn hsame
            by_cases heq : L2.getD (0 + e.1.toNat) 0 = L2.getD (0 + e.2.1.toNat) 0
            · rw [if_pos heq] at hS3
              have hC3 := hgo
              have hcN := hCn heq
              have hsm := hsame heq
              rw [hsm] at hgo hset
              have hgo' : ∀ s' : St, Weak s' (mkS 83 [(6, .one (.r true (int ((k + 1 : Nat) : Int)))), (5, .one (.r true (bool c))), (3, .one (.own 100 0 v 1)), (1, .one (.ptr 1 0 0 0))] [(100, .sl 3 1 true (ints L2)), (1, .var 25 [.r false (int (v : Int)), .r false (row nil 3 (edges es))])]) → _ := fun s' h => hgo s' c hcN hS2 h
              clear hgo hC3 hcN hCn hC2 hS2 hS3 hsame hst hmn hva hvb hsm
              cases c
              all_goals
                repeat' (first | (with_reducible first | refine aw_seq ?_ | refine thn_normal ?_ | refine thn_ret ?_ | refine thn_exit ?_ | refine blk_normal ?_ | refine blk_ret ?_ | refine blk_hit ?_ | refine blk_miss rfl ?_ | refine aw_block ?_ | refine aw_ret ?_ | refine aw_skip ?_ | refine aw_exit ?_ | refine w_nil ?_ | refine x_nil (by kernel_rfl) ?_) | refine aw_region ?_ | refine aw_region_draw (by kernel_rfl) ?_ | refine aw_yes rfl ?_ | refine aw_no rfl ?_ | ((with_reducible refine w_seq ?_); first | refine r_q tbOk rfl rfl rfl rfl ?_ | refine r_e tbOk rfl rfl rfl rfl rfl ?_ | refine r_yes tbOk rfl rfl rfl rfl rfl rfl ?_ | refine w_no rfl rfl (lookO_spec rfl) rfl rfl rfl ?_ | refine w_un rfl rfl (lookO_spec rfl) rfl rfl ?_) | ((with_reducible refine w_drw ?_); first | refine rx_q tbOk rfl rfl rfl rfl ?_ | refine rx_e tbOk rfl rfl rfl rfl rfl ?_ | refine rx_yes tbOk rfl rfl rfl rfl rfl rfl ?_ | refine x_no rfl rfl (lookO_spec rfl) rfl rfl rfl ?_ | refine x_un rfl rfl (lookO_spec rfl) rfl rfl ?_) | ((first | refine' w_q rfl rfl ?xa rfl ?_ | refine' v_q rfl rfl ?xa rfl ?_ | refine' w_yes rfl rfl (lookO_spec rfl) rfl ?xa rfl ?_ | refine' v_yes rfl rfl (lookO_spec rfl) rfl ?xa rfl ?_); case xa => first | exact k_index tbOk rfl rfl rfl rfl (by omega) (by exact hix) | exact k_indexO tbOk rfl rfl rfl rfl (by omega) (by omega) | exact k_loadI tbOk rfl rfl rfl rfl (by omega)) | ((first | refine' w_e rfl ?xa ?xb ?xc ?xe ?_ | refine' v_e rfl ?xa ?xb ?xc ?xe ?_); (case xa => exact e_storeS tbOk rfl rfl rfl rfl rfl rfl rfl rfl (by first | omega | (rw [List.length_set]; omega))); (case xb => rfl); (case xc => rfl); (case xe => rfl); try dsimp only [P0.d, Res.d, List.map_cons, List.map_nil, List.set_cons_zero, List.set_cons_succ, Nat.reduceAdd]) | ((first | refine aw_ways rfl ?_ ?_ | refine r_split rfl rfl rfl ?_ ?_) <;> intro hg_ <;> fail_if_success (exact Bool.noConfusion hg_)) <;> (try simp only [prn] at hg_) <;> (try first | contradiction | (exfalso; omega)))
                all_goals first
                  | (exfalso; rw [heq] at hg_; simp at hg_; done)
                  | (exfalso; simp [heq] at hg_; done)
                  | (refine hgo' _ ?_
                     (refine weak_ren [(100, 100)] rfl ?_ ?_ <;> repeat' (first | exact trivial | refine subR_cons rfl ?_ ?_ | refine subHR_cons rfl ?_ ?_ | rfl | (refine d_int ?_; (first | rfl | omega | (rw [IntWalk.i64_in _ (by omega)] <;> omega) | (simp; done) | (simp; omega))) | (refine d_bool ?_; (first | (simp_all; done) | (rw [Bool.eq_iff_iff]; simp_all; done) | (rw [Bool.eq_iff_iff]; simp_all; omega) | (rw [Bool.eq_iff_iff]; simp; omega))) | exact d_int hwk | exact ob_sl rfl hset)); done)
                  | trace_state
            · rw [if_neg heq] at hS3
              have hgo' : ∀ s' : St, Weak s' (mkS 83 [(6, .one (.r true (int ((k + 1 : Nat) : Int)))), (5, .one (.r true (bool true))), (3, .one (.own 100 0 v 1)), (1, .one (.ptr 1 0 0 0))] [(100, .sl 3 1 true (ints (stL L2 e.1 e.2.1))), (1, .var 25 [.r false (int (v : Int)), .r false (row nil 3 (edges es))])]) → _ := fun s' h => hgo s' true (fun h => by cases h) (by rw [if_pos rfl]; cases c <;> simp at hS2 <;> omega) h
              have hne : L2.getD (0 + e.1.toNat) 0 < L2.getD (0 + e.2.1.toNat) 0 ∨ L2.getD (0 + e.2.1.toNat) 0 < L2.getD (0 + e.1.toNat) 0 := by omega
              clear hgo hCn hC2 hS2 hS3 hsame hst hmn hva hvb
              cases c
              all_goals rcases hne with hne | hne
              all_goals
                repeat' (first | (with_reducible first | refine aw_seq ?_ | refine thn_normal ?_ | refine thn_ret ?_ | refine thn_exit ?_ | refine blk_normal ?_ | refine blk_ret ?_ | refine blk_hit ?_ | refine blk_miss rfl ?_ | refine aw_block ?_ | refine aw_ret ?_ | refine aw_skip ?_ | refine aw_exit ?_ | refine w_nil ?_ | refine x_nil (by kernel_rfl) ?_) | refine aw_region ?_ | refine aw_region_draw (by kernel_rfl) ?_ | refine aw_yes rfl ?_ | refine aw_no rfl ?_ | ((with_reducible refine w_seq ?_); first | refine r_q tbOk rfl rfl rfl rfl ?_ | refine r_e tbOk rfl rfl rfl rfl rfl ?_ | refine r_yes tbOk rfl rfl rfl rfl rfl rfl ?_ | refine w_no rfl rfl (lookO_spec rfl) rfl rfl rfl ?_ | refine w_un rfl rfl (lookO_spec rfl) rfl rfl ?_) | ((with_reducible refine w_drw ?_); first | refine rx_q tbOk rfl rfl rfl rfl ?_ | refine rx_e tbOk rfl rfl rfl rfl rfl ?_ | refine rx_yes tbOk rfl rfl rfl rfl rfl rfl ?_ | refine x_no rfl rfl (lookO_spec rfl) rfl rfl rfl ?_ | refine x_un rfl rfl (lookO_spec rfl) rfl rfl ?_) | ((first | refine' w_q rfl rfl ?xa rfl ?_ | refine' v_q rfl rfl ?xa rfl ?_ | refine' w_yes rfl rfl (lookO_spec rfl) rfl ?xa rfl ?_ | refine' v_yes rfl rfl (lookO_spec rfl) rfl ?xa rfl ?_); case xa => first | exact k_index tbOk rfl rfl rfl rfl (by omega) (by exact hix) | exact k_indexO tbOk rfl rfl rfl rfl (by omega) (by omega) | exact k_loadI tbOk rfl rfl rfl rfl (by omega)) | ((first | refine' w_e rfl ?xa ?xb ?xc ?xe ?_ | refine' v_e rfl ?xa ?xb ?xc ?xe ?_); (case xa => exact e_storeS tbOk rfl rfl rfl rfl rfl rfl rfl rfl (by first | omega | (rw [List.length_set]; omega))); (case xb => rfl); (case xc => rfl); (case xe => rfl); try dsimp only [P0.d, Res.d, List.map_cons, List.map_nil, List.set_cons_zero, List.set_cons_succ, Nat.reduceAdd]) | ((first | refine aw_ways rfl ?_ ?_ | refine r_split rfl rfl rfl ?_ ?_) <;> intro hg_ <;> fail_if_success (exact Bool.noConfusion hg_)) <;> (try simp only [prn] at hg_) <;> (try first | contradiction | (exfalso; omega)))
                all_goals first
                  | (exfalso; (first | rw [if_pos hne] at hg_ | rw [if_neg (by omega)] at hg_); (first | contradiction | omega | (simp at hg_; done)))
                  | (refine hgo' _ ?_
                     (refine weak_ren [(100, 100)] rfl ?_ ?_ <;> repeat' (first | exact trivial | refine subR_cons rfl ?_ ?_ | refine subHR_cons rfl ?_ ?_ | rfl | (refine d_int ?_; (first | rfl | omega | (rw [IntWalk.i64_in _ (by omega)] <;> omega) | (simp; done) | (simp; omega))) | (refine d_bool ?_; (first | (simp_all; done) | (rw [Bool.eq_iff_iff]; simp_all; done) | (rw [Bool.eq_iff_iff]; simp_all; omega) | (rw [Bool.eq_iff_iff]; simp; omega))) | exact d_int hwk | exact ob_sl rfl hset | exact d_bool (by first | rw [if_pos hne] | rw [if_neg (by omega)]; simp; omega))); done)
                  | trace_state
          · have hkE : k = es.length := by omega
            rw [hkE, List.take_length] at hC2
            repeat' (first | (with_reducible first | refine aw_seq ?_ | refine thn_normal ?_ | refine thn_ret ?_ | refine thn_exit ?_ | refine blk_normal ?_ | refine blk_ret ?_ | refine blk_hit ?_ | refine blk_miss rfl ?_ | refine aw_block ?_ | refine aw_ret ?_ | refine aw_skip ?_ | refine aw_exit ?_ | refine w_nil ?_ | refine x_nil (by kernel_rfl) ?_) | refine aw_region ?_ | refine aw_region_draw (by kernel_rfl) ?_ | refine aw_yes rfl ?_ | refine aw_no rfl ?_ | ((with_reducible refine w_seq ?_); first | refine r_q tbOk rfl rfl rfl rfl ?_ | refine r_e tbOk rfl rfl rfl rfl rfl ?_ | refine r_yes tbOk rfl rfl rfl rfl rfl rfl ?_ | refine w_no rfl rfl (lookO_spec rfl) rfl rfl rfl ?_ | refine w_un rfl rfl (lookO_spec rfl) rfl rfl ?_) | ((with_reducible refine w_drw ?_); first | refine rx_q tbOk rfl rfl rfl rfl ?_ | refine rx_e tbOk rfl rfl rfl rfl rfl ?_ | refine rx_yes tbOk rfl rfl rfl rfl rfl rfl ?_ | refine x_no rfl rfl (lookO_spec rfl) rfl rfl rfl ?_ | refine x_un rfl rfl (lookO_spec rfl) rfl rfl ?_) | ((first | refine aw_ways rfl ?_ ?_ | refine r_split rfl rfl rfl ?_ ?_) <;> intro hg_ <;> fail_if_success (exact Bool.noConfusion hg_)) <;> (try simp only [prn] at hg_) <;> (try first | contradiction | (exfalso; omega)))
            all_goals first
              | (refine hfin _ c L2 hL2 hC2 hS2 ?_
                 (refine weak_ren [(100, 100)] rfl ?_ ?_ <;> repeat' (first | exact trivial | refine subR_cons rfl ?_ ?_ | refine subHR_cons rfl ?_ ?_ | rfl | (refine d_int ?_; (first | rfl | omega | (rw [IntWalk.i64_in _ (by omega)] <;> omega) | (simp; done) | (simp; omega))) | (refine d_bool ?_; (first | (simp_all; done) | (rw [Bool.eq_iff_iff]; simp_all; done) | (rw [Bool.eq_iff_iff]; simp_all; omega) | (rw [Bool.eq_iff_iff]; simp; omega))))); done)
              | trace_state
/-! ## ANear -/
set_option maxRecDepth 100000 in
set_option maxHeartbeats 4000000 in
theorem f_l7Has (nil : Bool) (xs : List Int) (x : Int) (hl : xs.length ≤ 1048576) : Fn Tryd.prog 63 [.one (row nil 1 (ints xs)), iP x] (.v (.one (bool (xs.any (fun z => decide (z = x)))))) := by
  have hlen2 := ints_len xs
  refine fn_of (l := [.tmp 4]) Tryd.func63 (by kernel_rfl) rfl Tryd.ntmps63 rfl rfl ?_; simp only [argEnv, P0.d, Nat.reduceAdd]
  repeat' (first | (with_reducible first | refine aw_seq ?_ | refine thn_normal ?_ | refine thn_ret ?_ | refine thn_exit ?_ | refine blk_normal ?_ | refine blk_ret ?_ | refine blk_hit ?_ | refine blk_miss rfl ?_ | refine aw_block ?_ | refine aw_ret ?_ | refine aw_skip ?_ | refine aw_exit ?_ | refine w_nil ?_ | refine x_nil (by kernel_rfl) ?_) | refine aw_region ?_ | refine aw_region_draw (by kernel_rfl) ?_ | refine aw_yes rfl ?_ | refine aw_no rfl ?_ | ((with_reducible refine w_seq ?_); first | refine r_q tbOk rfl rfl rfl rfl ?_ | refine r_e tbOk rfl rfl rfl rfl rfl ?_ | refine r_yes tbOk rfl rfl rfl rfl rfl rfl ?_ | refine w_no rfl rfl (lookO_spec rfl) rfl rfl rfl ?_ | refine w_un rfl rfl (lookO_spec rfl) rfl rfl ?_) | ((with_reducible refine w_drw ?_); first | refine rx_q tbOk rfl rfl rfl rfl ?_ | refine rx_e tbOk rfl rfl rfl rfl rfl ?_ | refine rx_yes tbOk rfl rfl rfl rfl rfl rfl ?_ | refine x_no rfl rfl (lookO_spec rfl) rfl rfl rfl ?_ | refine x_un rfl rfl (lookO_spec rfl) rfl rfl ?_) | ((first | refine aw_ways rfl ?_ ?_ | refine r_split rfl rfl rfl ?_ ?_) <;> intro hg_ <;> fail_if_success (exact Bool.noConfusion hg_)) <;> (try simp only [prn] at hg_) <;> (try first | contradiction | (exfalso; omega)))
  refine aw_loopI (fun k : Nat => k ≤ xs.length ∧ xs.any (fun z => decide (z = x)) = (xs.drop k).any (fun z => decide (z = x))) (fun k => mkS 18 [(5, .one (.r true (int k))), (0, .one (.r false (row nil 1 (ints xs)))), (1, .one (.r false (int x)))] []) (fun k => xs.length - k) 0 ⟨Nat.zero_le _, by simp⟩ (by (refine weak_ren [] rfl ?_ ?_ <;> repeat' (first | exact trivial | refine subR_cons rfl ?_ ?_ | refine subHR_cons rfl ?_ ?_ | rfl | (refine d_int ?_; (first | rfl | omega | (rw [IntWalk.i64_in _ (by omega)] <;> omega) | (simp; done) | (simp; omega))) | (refine d_bool ?_; (first | (simp_all; done) | (rw [Bool.eq_iff_iff]; simp_all; done) | (rw [Bool.eq_iff_iff]; simp_all; omega) | (rw [Bool.eq_iff_iff]; simp; omega)))))) ?_
  rintro k ⟨hk, HP⟩
  by_cases hlt : k < xs.length
  · have hix := ints_at (xs := xs) hlt
    have hx : (xs.drop k).any (fun z => decide (z = x)) = (decide (xs[k] = x) || (xs.drop (k + 1)).any (fun z => decide (z = x))) := by rw [List.drop_eq_getElem_cons hlt, List.any_cons]
    rw [hx] at HP
    clear hx
    generalize xs[k] = y at *
    repeat' (first | (with_reducible first | refine aw_seq ?_ | refine thn_normal ?_ | refine thn_ret ?_ | refine thn_exit ?_ | refine blk_normal ?_ | refine blk_ret ?_ | refine blk_hit ?_ | refine blk_miss rfl ?_ | refine aw_block ?_ | refine aw_ret ?_ | refine aw_skip ?_ | refine aw_exit ?_ | refine w_nil ?_ | refine x_nil (by kernel_rfl) ?_) | refine aw_region ?_ | refine aw_region_draw (by kernel_rfl) ?_ | refine aw_yes rfl ?_ | refine aw_no rfl ?_ | ((with_reducible refine w_seq ?_); first | refine r_q tbOk rfl rfl rfl rfl ?_ | refine r_e tbOk rfl rfl rfl rfl rfl ?_ | refine r_yes tbOk rfl rfl rfl rfl rfl rfl ?_ | refine w_no rfl rfl (lookO_spec rfl) rfl rfl rfl ?_ | refine w_un rfl rfl (lookO_spec rfl) rfl rfl ?_) | ((with_reducible refine w_drw ?_); first | refine rx_q tbOk rfl rfl rfl rfl ?_ | refine rx_e tbOk rfl rfl rfl rfl rfl ?_ | refine rx_yes tbOk rfl rfl rfl rfl rfl rfl ?_ | refine x_no rfl rfl (lookO_spec rfl) rfl rfl rfl ?_ | refine x_un rfl rfl (lookO_spec rfl) rfl rfl ?_) | ((first | refine' w_q rfl rfl ?xa rfl ?_ | refine' v_q rfl rfl ?xa rfl ?_ | refine' w_yes rfl rfl (lookO_spec rfl) rfl ?xa rfl ?_ | refine' v_yes rfl rfl (lookO_spec rfl) rfl ?xa rfl ?_); case xa => exact k_index tbOk rfl rfl rfl rfl (by omega) (by exact hix)) | ((first | refine aw_ways rfl ?_ ?_ | refine r_split rfl rfl rfl ?_ ?_) <;> intro hg_ <;> fail_if_success (exact Bool.noConfusion hg_)) <;> (try simp only [prn] at hg_) <;> (try first | contradiction | (exfalso; omega)))
    all_goals first
      | exact ret_tmp rfl (dres_bool (by rw [HP]; simp_all))
      | exact ⟨k + 1, ⟨by omega, by rw [HP]; simp_all⟩, by (refine weak_ren [] rfl ?_ ?_ <;> repeat' (first | exact trivial | refine subR_cons rfl ?_ ?_ | refine subHR_cons rfl ?_ ?_ | rfl | (refine d_int ?_; (first | rfl | omega | (rw [IntWalk.i64_in _ (by omega)] <;> omega) | (simp; done) | (simp; omega))) | (refine d_bool ?_; (first | (simp_all; done) | (rw [Bool.eq_iff_iff]; simp_all; done) | (rw [Bool.eq_iff_iff]; simp_all; omega) | (rw [Bool.eq_iff_iff]; simp; omega))))), by omega⟩
      | trace_state
  · repeat' (first | (with_reducible first | refine aw_seq ?_ | refine thn_normal ?_ | refine thn_ret ?_ | refine thn_exit ?_ | refine blk_normal ?_ | refine blk_ret ?_ | refine blk_hit ?_ | refine blk_miss rfl ?_ | refine aw_block ?_ | refine aw_ret ?_ | refine aw_skip ?_ | refine aw_exit ?_ | refine w_nil ?_ | refine x_nil (by kernel_rfl) ?_) | refine aw_region ?_ | refine aw_region_draw (by kernel_rfl) ?_ | refine aw_yes rfl ?_ | refine aw_no rfl ?_ | ((with_reducible refine w_seq ?_); first | refine r_q tbOk rfl rfl rfl rfl ?_ | refine r_e tbOk rfl rfl rfl rfl rfl ?_ | refine r_yes tbOk rfl rfl rfl rfl rfl rfl ?_ | refine w_no rfl rfl (lookO_spec rfl) rfl rfl rfl ?_ | refine w_un rfl rfl (lookO_spec rfl) rfl rfl ?_) | ((with_reducible refine w_drw ?_); first | refine rx_q tbOk rfl rfl rfl rfl ?_ | refine rx_e tbOk rfl rfl rfl rfl rfl ?_ | refine rx_yes tbOk rfl rfl rfl rfl rfl rfl ?_ | refine x_no rfl rfl (lookO_spec rfl) rfl rfl rfl ?_ | refine x_un rfl rfl (lookO_spec rfl) rfl rfl ?_) | ((first | refine aw_ways rfl ?_ ?_ | refine r_split rfl rfl rfl ?_ ?_) <;> intro hg_ <;> fail_if_success (exact Bool.noConfusion hg_)) <;> (try simp only [prn] at hg_) <;> (try first | contradiction | (exfalso; omega)))
    all_goals exact ret_tmp rfl (dres_bool (by rw [HP, List.drop_of_length_le (by omega)]; rfl))
def nearL (m : Int) (es : List E3) (a : Int) : List Int := if gOk m es then ((List.range m.toNat).map (fun i : Nat => (i : Int))).filter (adj es a) else []
set_option maxRecDepth 100000 in
set_option maxHeartbeats 4000000 in
theorem f_specNearOf (m : Int) (nil : Bool) (es : List E3) (a : Int) (hl : es.length ≤ maxLen) (hg : gOk m es = true) : Fn Tryd.prog 64 [graphP m nil es, iP a] (.v (.one (row false 1 (ints (nearL m es a))))) := by
  have hlen := edges_len es
  have hm := gOk_m hg
  refine fn_of (l := [.tmp 4]) Tryd.func64 (by kernel_rfl) rfl Tryd.ntmps64 rfl rfl ?_; simp only [argEnv, P0.d, Nat.reduceAdd, graphP, List.map_cons, List.map_nil]
  repeat' (first | (with_reducible first | refine aw_seq ?_ | refine thn_normal ?_ | refine thn_ret ?_ | refine thn_exit ?_ | refine blk_normal ?_ | refine blk_ret ?_ | refine blk_hit ?_ | refine blk_miss rfl ?_ | refine aw_block ?_ | refine aw_ret ?_ | refine aw_skip ?_ | refine aw_exit ?_ | refine w_nil ?_ | refine x_nil (by kernel_rfl) ?_) | refine aw_region ?_ | refine aw_region_draw (by kernel_rfl) ?_ | refine aw_yes rfl ?_ | refine aw_no rfl ?_ | ((with_reducible refine w_seq ?_); first | refine r_q tbOk rfl rfl rfl rfl ?_ | refine r_e tbOk rfl rfl rfl rfl rfl ?_ | refine r_yes tbOk rfl rfl rfl rfl rfl rfl ?_ | refine w_no rfl rfl (lookO_spec rfl) rfl rfl rfl ?_ | refine w_un rfl rfl (lookO_spec rfl) rfl rfl ?_) | ((with_reducible refine w_drw ?_); first | refine rx_q tbOk rfl rfl rfl rfl ?_ | refine rx_e tbOk rfl rfl rfl rfl rfl ?_ | refine rx_yes tbOk rfl rfl rfl rfl rfl rfl ?_ | refine x_no rfl rfl (lookO_spec rfl) rfl rfl rfl ?_ | refine x_un rfl rfl (lookO_spec rfl) rfl rfl ?_) | ((first | refine' w_e rfl ?xa ?xb ?xc ?xe ?_ | refine' v_e rfl ?xa ?xb ?xc ?xe ?_); (case xa => exact e_build [] tlOk rfl rfl rfl rfl rfl rfl (by simp [AllN]) (by simp)); (case xb => rfl); (case xc => rfl); (case xe => rfl); try dsimp only [P0.d, Res.d, List.map_cons, List.map_nil, List.set_cons_zero, List.set_cons_succ, Nat.reduceAdd]) | ((first | refine aw_ways rfl ?_ ?_ | refine r_split rfl rfl rfl ?_ ?_) <;> intro hg_ <;> fail_if_success (exact Bool.noConfusion hg_)) <;> (try simp only [prn] at hg_) <;> (try first | contradiction | (exfalso; omega)))
  have hN : ∀ k : Nat, ((List.range (k + 1)).map (fun i : Nat => (i : Int))).filter (adj es a) = ((List.range k).map (fun i : Nat => (i : Int))).filter (adj es a) ++ (if adj es a k then [(k : Int)] else []) := fun k => by
    rw [List.range_succ, List.map_append, List.filter_append]
    simp only [List.map_cons, List.map_nil, List.filter_cons, List.filter_nil]
  have hNl : ∀ k : Nat, (((List.range k).map (fun i : Nat => (i : Int))).filter (adj es a)).length ≤ k := fun k => by
    refine Nat.le_trans (List.length_filter_le _ _) ?_
    simp
  refine aw_loopI (fun k : Nat => (k : Int) ≤ m) (fun k => mkS 64 [(6, .one (.r true (int k))), (5, .one (.own 100 0 (ints (((List.range k).map (fun i : Nat => (i : Int))).filter (adj es a))).length 1)), (2, .one (.ptr 2 0 0 0)), (1, .one (.r false (int a)))] [(100, .sl 3 1 true (ints (((List.range k).map (fun i : Nat => (i : Int))).filter (adj es a)))), (2, .var 25 [.r false (int m), .r false (row nil 3 (edges es))])]) (fun k => m.toNat - k) 0 (by show ((0 : Nat) : Int) ≤ m; omega) (by (refine weak_ren [(100, 10)] rfl ?_ ?_ <;> repeat' (first | exact trivial | refine subR_cons rfl ?_ ?_ | refine subHR_cons rfl ?_ ?_ | rfl | (refine d_int ?_; (first | rfl | omega | (rw [IntWalk.i64_in _ (by omega)] <;> omega) | (simp; done) | (simp; omega))) | (refine d_bool ?_; (first | (simp_all; done) | (rw [Bool.eq_iff_iff]; simp_all; done) | (rw [Bool.eq_iff_iff]; simp_all; omega) | (rw [Bool.eq_iff_iff]; simp; omega))) | exact ob_sl rfl rfl))) ?_
  intro k hk
  by_cases hlt : (k : Int) < m
  · have hNk := hN k
    have hNl' := hNl k
    clear hN hNl
    repeat' (first | (with_reducible first | refine aw_seq ?_ | refine thn_normal ?_ | refine thn_ret ?_ | refine thn_exit ?_ | refine blk_normal ?_ | refine blk_ret ?_ | refine blk_hit ?_ | refine blk_miss rfl ?_ | refine aw_block ?_ | refine aw_ret ?_ | refine aw_skip ?_ | refine aw_exit ?_ | refine w_nil ?_ | refine x_nil (by kernel_rfl) ?_) | refine aw_region ?_ | refine aw_region_draw (by kernel_rfl) ?_ | refine aw_yes rfl ?_ | refine aw_no rfl ?_ | ((with_reducible refine w_seq ?_); first | refine r_q tbOk rfl rfl rfl rfl ?_ | refine r_e tbOk rfl rfl rfl rfl rfl ?_ | refine r_yes tbOk rfl rfl rfl rfl rfl rfl ?_ | refine w_no rfl rfl (lookO_spec rfl) rfl rfl rfl ?_ | refine w_un rfl rfl (lookO_spec rfl) rfl rfl ?_) | ((with_reducible refine w_drw ?_); first | refine rx_q tbOk rfl rfl rfl rfl ?_ | refine rx_e tbOk rfl rfl rfl rfl rfl ?_ | refine rx_yes tbOk rfl rfl rfl rfl rfl rfl ?_ | refine x_no rfl rfl (lookO_spec rfl) rfl rfl rfl ?_ | refine x_un rfl rfl (lookO_spec rfl) rfl rfl ?_) | ((first | refine' w_q rfl rfl ?xa rfl ?_ | refine' v_q rfl rfl ?xa rfl ?_ | refine' w_yes rfl rfl (lookO_spec rfl) rfl ?xa rfl ?_ | refine' v_yes rfl rfl (lookO_spec rfl) rfl ?xa rfl ?_); case xa => exact k_call (f_specGraphValid _ _ es hl) rfl ⟨asA_agg (evO_spec rfl) ⟨cAr_r, cAr_r, trivial⟩, trivial⟩) | ((first | refine aw_ways rfl ?_ ?_ | refine r_split rfl rfl rfl ?_ ?_) <;> intro hg_ <;> fail_if_success (exact Bool.noConfusion hg_)) <;> (try simp only [prn] at hg_) <;> (try first | contradiction | (exfalso; omega)))
    · clear hg_
      generalize ((List.range k).map (fun i : Nat => (i : Int))).filter (adj es a) = NL at *
      have hNL : (ints NL).length ≤ 16 := by rw [ints_len]; omega
      refine aw_loopI (fun j : Nat => j ≤ es.length) (fun j => mkS 64 [(8, .one (.r true (int j))), (7, .one (.r true (bool ((es.take j).any (adjE a k))))), (6, .one (.r true (int k))), (5, .one (.own 100 0 (ints NL).length 1)), (2, .one (.ptr 2 0 0 0)), (1, .one (.r false (int a)))] [(100, .sl 3 1 true (ints NL)), (2, .var 25 [.r false (int m), .r false (row nil 3 (edges es))])]) (fun j => es.length - j) 0 (Nat.zero_le _) (by (refine weak_ren [] rfl ?_ ?_ <;> repeat' (first | exact trivial | refine subR_cons rfl ?_ ?_ | refine subHR_cons rfl ?_ ?_ | rfl | (refine d_int ?_; (first | rfl | omega | (rw [IntWalk.i64_in _ (by omega)] <;> omega) | (simp; done) | (simp; omega))) | (refine d_bool ?_; (first | (simp_all; done) | (rw [Bool.eq_iff_iff]; simp_all; done) | (rw [Bool.eq_iff_iff]; simp_all; omega) | (rw [Bool.eq_iff_iff]; simp; omega)))))) ?_
      intro j hj
      by_cases hlj : j < es.length
      · have hix := edges_at hlj
        have hT : (es.take (j + 1)).any (adjE a k) = ((es.take j).any (adjE a k) || adjE a k es[j]) := by
          rw [List.take_succ_eq_append_getElem hlj, List.any_append]; simp
        generalize es[j] = e at *
        generalize (es.take j).any (adjE a k) = B at *
        repeat' (first | (with_reducible first | refine aw_seq ?_ | refine thn_normal ?_ | refine thn_ret ?_ | refine thn_exit ?_ | refine blk_normal ?_ | refine blk_ret ?_ | refine blk_hit ?_ | refine blk_miss rfl ?_ | refine aw_block ?_ | refine aw_ret ?_ | refine aw_skip ?_ | refine aw_exit ?_ | refine w_nil ?_ | refine x_nil (by kernel_rfl) ?_) | refine aw_region ?_ | refine aw_region_draw (by kernel_rfl) ?_ | refine aw_yes rfl ?_ | refine aw_no rfl ?_ | ((with_reducible refine w_seq ?_); first | refine r_q tbOk rfl rfl rfl rfl ?_ | refine r_e tbOk rfl rfl rfl rfl rfl ?_ | refine r_yes tbOk rfl rfl rfl rfl rfl rfl ?_ | refine w_no rfl rfl (lookO_spec rfl) rfl rfl rfl ?_ | refine w_un rfl rfl (lookO_spec rfl) rfl rfl ?_) | ((with_reducible refine w_drw ?_); first | refine rx_q tbOk rfl rfl rfl rfl ?_ | refine rx_e tbOk rfl rfl rfl rfl rfl ?_ | refine rx_yes tbOk rfl rfl rfl rfl rfl rfl ?_ | refine x_no rfl rfl (lookO_spec rfl) rfl rfl rfl ?_ | refine x_un rfl rfl (lookO_spec rfl) rfl rfl ?_) | ((first | refine' w_q rfl rfl ?xa rfl ?_ | refine' v_q rfl rfl ?xa rfl ?_ | refine' w_yes rfl rfl (lookO_spec rfl) rfl ?xa rfl ?_ | refine' v_yes rfl rfl (lookO_spec rfl) rfl ?xa rfl ?_); case xa => exact k_index tbOk rfl rfl rfl rfl (by omega) (by exact hix)) | ((first | refine aw_ways rfl ?_ ?_ | refine r_split rfl rfl rfl ?_ ?_) <;> intro hg_ <;> fail_if_success (exact Bool.noConfusion hg_)) <;> (try simp only [prn] at hg_) <;> (try first | contradiction | (exfalso; omega)))
        all_goals exact ⟨j + 1, by omega, by (refine weak_ren [] rfl ?_ ?_ <;> repeat' (first | exact trivial | refine subR_cons rfl ?_ ?_ | refine subHR_cons rfl ?_ ?_ | rfl | (refine d_int ?_; (first | rfl | omega | (rw [IntWalk.i64_in _ (by omega)] <;> omega) | (simp; done) | (simp; omega))) | (refine d_bool ?_; (first | (simp_all; done) | (rw [Bool.eq_iff_iff]; simp_all; done) | (rw [Bool.eq_iff_iff]; simp_all; omega) | (rw [Bool.eq_iff_iff]; simp; omega))) | exact d_bool (by rw [hT]; unfold adjE; simp_all <;> (rw [Bool.eq_iff_iff]; simp)))), by omega⟩
      · have hB : (es.take j).any (adjE a k) = adj es a k := by rw [List.take_of_length_le (by omega)]; rfl
        rw [hB]
        generalize adj es a k = B at *
        repeat' (first | (with_reducible first | refine aw_seq ?_ | refine thn_normal ?_ | refine thn_ret ?_ | refine thn_exit ?_ | refine blk_normal ?_ | refine blk_ret ?_ | refine blk_hit ?_ | refine blk_miss rfl ?_ | refine aw_block ?_ | refine aw_ret ?_ | refine aw_skip ?_ | refine aw_exit ?_ | refine w_nil ?_ | refine x_nil (by kernel_rfl) ?_) | refine aw_region ?_ | refine aw_region_draw (by kernel_rfl) ?_ | refine aw_yes rfl ?_ | refine aw_no rfl ?_ | ((with_reducible refine w_seq ?_); first | refine r_q tbOk rfl rfl rfl rfl ?_ | refine r_e tbOk rfl rfl rfl rfl rfl ?_ | refine r_yes tbOk rfl rfl rfl rfl rfl rfl ?_ | refine w_no rfl rfl (lookO_spec rfl) rfl rfl rfl ?_ | refine w_un rfl rfl (lookO_spec rfl) rfl rfl ?_) | ((with_reducible refine w_drw ?_); first | refine rx_q tbOk rfl rfl rfl rfl ?_ | refine rx_e tbOk rfl rfl rfl rfl rfl ?_ | refine rx_yes tbOk rfl rfl rfl rfl rfl rfl ?_ | refine x_no rfl rfl (lookO_spec rfl) rfl rfl rfl ?_ | refine x_un rfl rfl (lookO_spec rfl) rfl rfl ?_) | ((first | refine' w_e rfl ?xa ?xb ?xc ?xe ?_ | refine' v_e rfl ?xa ?xb ?xc ?xe ?_); (case xa => first | exact e_build [.tmp 60] tlOk rfl rfl rfl rfl rfl rfl (allN_one rfl) (by simp) | exact e_append tlOk rfl rfl rfl rfl rfl rfl (slD_own (lookHO_spec rfl) rfl) rfl (by simp only [maxLen, List.length_cons, List.length_nil]; omega) (by simp only [List.length_cons, List.length_nil]; omega)); (case xb => rfl); (case xc => rfl); (case xe => rfl); try dsimp only [P0.d, Res.d, List.map_cons, List.map_nil, List.set_cons_zero, List.set_cons_succ, Nat.reduceAdd]) | ((first | refine aw_ways rfl ?_ ?_ | refine r_split rfl rfl rfl ?_ ?_) <;> intro hg_ <;> fail_if_success (exact Bool.noConfusion hg_)) <;> (try simp only [prn] at hg_) <;> (try first | contradiction | (exfalso; omega)))
        · subst hg_
          refine ⟨k + 1, by omega, ?_, by omega⟩
          simp only [hNk, if_true, ints_app, List.length_append]
          (refine weak_ren [(100, 62)] rfl ?_ ?_ <;> repeat' (first | exact trivial | refine subR_cons rfl ?_ ?_ | refine subHR_cons rfl ?_ ?_ | rfl | (refine d_int ?_; (first | rfl | omega | (rw [IntWalk.i64_in _ (by omega)] <;> omega) | (simp; done) | (simp; omega))) | (refine d_bool ?_; (first | (simp_all; done) | (rw [Bool.eq_iff_iff]; simp_all; done) | (rw [Bool.eq_iff_iff]; simp_all; omega) | (rw [Bool.eq_iff_iff]; simp; omega)))))
        · subst hg_
          refine ⟨k + 1, by omega, ?_, by omega⟩
          simp only [hNk, Bool.false_eq_true, if_false, List.append_nil]
          (refine weak_ren [] rfl ?_ ?_ <;> repeat' (first | exact trivial | refine subR_cons rfl ?_ ?_ | refine subHR_cons rfl ?_ ?_ | rfl | (refine d_int ?_; (first | rfl | omega | (rw [IntWalk.i64_in _ (by omega)] <;> omega) | (simp; done) | (simp; omega))) | (refine d_bool ?_; (first | (simp_all; done) | (rw [Bool.eq_iff_iff]; simp_all; done) | (rw [Bool.eq_iff_iff]; simp_all; omega) | (rw [Bool.eq_iff_iff]; simp; omega)))))
    · exfalso; simp_all
  · repeat' (first | (with_reducible first | refine aw_seq ?_ | refine thn_normal ?_ | refine thn_ret ?_ | refine thn_exit ?_ | refine blk_normal ?_ | refine blk_ret ?_ | refine blk_hit ?_ | refine blk_miss rfl ?_ | refine aw_block ?_ | refine aw_ret ?_ | refine aw_skip ?_ | refine aw_exit ?_ | refine w_nil ?_ | refine x_nil (by kernel_rfl) ?_) | refine aw_region ?_ | refine aw_region_draw (by kernel_rfl) ?_ | refine aw_yes rfl ?_ | refine aw_no rfl ?_ | ((with_reducible refine w_seq ?_); first | refine r_q tbOk rfl rfl rfl rfl ?_ | refine r_e tbOk rfl rfl rfl rfl rfl ?_ | refine r_yes tbOk rfl rfl rfl rfl rfl rfl ?_ | refine w_no rfl rfl (lookO_spec rfl) rfl rfl rfl ?_ | refine w_un rfl rfl (lookO_spec rfl) rfl rfl ?_) | ((with_reducible refine w_drw ?_); first | refine rx_q tbOk rfl rfl rfl rfl ?_ | refine rx_e tbOk rfl rfl rfl rfl rfl ?_ | refine rx_yes tbOk rfl rfl rfl rfl rfl rfl ?_ | refine x_no rfl rfl (lookO_spec rfl) rfl rfl rfl ?_ | refine x_un rfl rfl (lookO_spec rfl) rfl rfl ?_) | ((first | refine' w_q rfl rfl ?xa rfl ?_ | refine' v_q rfl rfl ?xa rfl ?_ | refine' w_yes rfl rfl (lookO_spec rfl) rfl ?xa rfl ?_ | refine' v_yes rfl rfl (lookO_spec rfl) rfl ?xa rfl ?_); case xa => exact k_call (f_specGraphValid _ _ es hl) rfl ⟨asA_agg (evO_spec rfl) ⟨cAr_r, cAr_r, trivial⟩, trivial⟩) | ((first | refine aw_ways rfl ?_ ?_ | refine r_split rfl rfl rfl ?_ ?_) <;> intro hg_ <;> fail_if_success (exact Bool.noConfusion hg_)) <;> (try simp only [prn] at hg_) <;> (try first | contradiction | (exfalso; omega)))
    have e : nearL m es a = ((List.range k).map (fun i : Nat => (i : Int))).filter (adj es a) := by unfold nearL; rw [hg, if_pos rfl, show m.toNat = k by omega]
    rw [e]
    exact ret_tmp rfl (dres_one (cres_own0 (lookHO_spec rfl) rfl))
/-! ## DPart -/
def fmD (D : Int → Int) (n : Int) (ws : List Int) : Int := (ws.find? (fun w => decide (D w = n))).getD (-1)
theorem fmD_app {D : Int → Int} {n : Int} {ws xs : List Int} (h : fmD D n ws ≠ -1) : fmD D n (ws ++ xs) = fmD D n ws := by
  unfold fmD at *
  rw [List.find?_append]
  cases hf : ws.find? (fun w => decide (D w = n)) with
  | none => rw [hf] at h; exact absurd rfl h
  | some w => rfl
theorem fmD_none {D : Int → Int} {n : Int} {ws : List Int} (h0 : ∀ w ∈ ws, 0 ≤ w) (h : fmD D n ws = -1) : ws.find? (fun w => decide (D w = n)) = none := by
  unfold fmD at h
  cases hf : ws.find? (fun w => decide (D w = n)) with
  | none => rfl
  | some w =>
    rw [hf] at h
    have := h0 w (List.mem_of_find?_eq_some hf)
    simp at h; omega
theorem fmD_snoc {D : Int → Int} {n : Int} {ws : List Int} {w : Int} (h0 : ∀ w ∈ ws, 0 ≤ w) (h : fmD D n ws = -1) : fmD D n (ws ++ [w]) = if D w = n then w else -1 := by
  have := fmD_none h0 h
  unfold fmD
  rw [List.find?_append, this]
  by_cases hw : D w = n
  · simp [hw]
  · simp [hw]
theorem fmD_in {D : Int → Int} {n : Int} {ws : List Int} (h0 : ∀ w ∈ ws, 0 ≤ w) : fmD D n ws = -1 ∨ 0 ≤ fmD D n ws := by
  unfold fmD
  cases hf : ws.find? (fun w => decide (D w = n)) with
  | none => exact .inl rfl
  | some w => exact .inr (h0 w (List.mem_of_find?_eq_some hf))
theorem nearL_mem {m : Int} {es : List E3} (hg : gOk m es = true) (hI : Inside m.toNat es) (v u : Int) : u ∈ nearL m es v ↔ adj es v u = true := by
  have hm := gOk_m hg
  unfold nearL
  rw [hg, if_pos rfl, List.mem_filter, List.mem_map]
  constructor
  · rintro ⟨_, h⟩; exact h
  · intro h
    have := (adj_in hI h).2
    exact ⟨⟨u.toNat, by rw [List.mem_range]; omega, by omega⟩, h⟩
theorem nearL_len2 (m : Int) (es : List E3) (v : Int) : (nearL m es v).length ≤ m.toNat := by
  unfold nearL
  by_cases h : gOk m es = true
  · rw [if_pos h]
    refine Nat.le_trans (List.length_filter_le _ _) ?_
    simp
  · rw [if_neg h]; simp
theorem nearL_sorted (m : Int) (es : List E3) (v : Int) : (nearL m es v).Pairwise (· < ·) := by
  unfold nearL
  split
  · refine List.Pairwise.filter _ ?_
    rw [List.pairwise_map]
    refine List.Pairwise.imp ?_ List.pairwise_lt_range
    intro a b h
    exact Int.ofNat_lt.2 h
  · exact List.Pairwise.nil
/-- What is found among the neighbours. -/
theorem fmD_eq {m : Nat} {es : List E3} {L P W : List Int} (hL : IsL m es L) (hP : IsPP m es L P) (hI : Inside m es) {v : Int} (h0 : 0 ≤ v) (h1 : v < (m : Int)) (hW : ∀ u, u ∈ W ↔ adj es v u = true) (hS : W.Pairwise (· < ·)) {n : Int} (hn0 : 0 ≤ n) (hn : n + 1 ≤ dst m es L v) :
    fmD (dst m es L) n W = if dst m es L v = n + 1 then Go.Proofs.YtfdaoepbdolgiaaDoor.val P v else -1 := by
  have hv : Go.Proofs.YtfdaoepbdolgiaaDoor.val L v ≠ v := fun h => by have := (dst_zero hL hI h0 h1).2 h; omega
  obtain ⟨p1, p2, p3⟩ := hP.par v h0 h1 hv
  by_cases hd : dst m es L v = n + 1
  · rw [if_pos hd]
    unfold fmD
    cases hf : W.find? (fun w => decide (dst m es L w = n)) with
    | none =>
      have := List.find?_eq_none.1 hf _ ((hW _).2 p1)
      simp at this; omega
    | some r =>
      rw [List.find?_eq_some_iff_append] at hf
      obtain ⟨hr, as1, bs1, hE, hA⟩ := hf
      have hr' := of_decide_eq_true hr
      have hrW : r ∈ W := by rw [hE]; simp
      have h4 := p3 r ((hW r).1 hrW) (by omega)
      have h5 : Go.Proofs.YtfdaoepbdolgiaaDoor.val P v ∈ W := (hW _).2 p1
      simp only [Option.getD_some]
      rw [hE] at h5 hS
      rcases List.mem_append.1 h5 with h | h
      · have := hA _ h
        simp at this; omega
      · rcases List.mem_cons.1 h with h | h
        · exact h.symm
        · have := (List.pairwise_cons.1 (List.pairwise_append.1 hS).2.1).1 _ h
          omega
  · rw [if_neg hd]
    unfold fmD
    cases hf : W.find? (fun w => decide (dst m es L w = n)) with
    | none => rfl
    | some r =>
      exfalso
      have hr0 := List.find?_some hf
      have hr : dst m es L r = n := by simpa using hr0
      have hrW := (hW r).1 (List.mem_of_find?_eq_some hf)
      have := dst_adj hL hI h0 h1 hrW
      omega
def sFd (D : Int → Int) (n i : Int) : Int := if D i ≤ n then D i else -1
def oFd (D PF : Int → Int) (n i : Int) : Int := if 1 ≤ D i ∧ D i ≤ n then PF i else -1
theorem mix_at {m : Nat} {f g : Int → Int} {v : Nat} (h : v < m) : (tab m (fun i => if i < (v : Int) then f i else g i)).getD (0 + ((v : Nat) : Int).toNat) 0 = g (v : Int) := by
  rw [tab_at (by omega) (by omega), if_neg (by omega)]
theorem mix_next {m : Nat} {f g : Int → Int} {v : Nat} (h : f (v : Int) = g (v : Int)) : tab m (fun i => if i < (v : Int) then f i else g i) = tab m (fun i => if i < ((v + 1 : Nat) : Int) then f i else g i) := tab_congr fun i h0 _ => by
  by_cases hik : i = (v : Int)
  · subst hik; rw [if_neg (by omega), if_pos (by omega), h]
  · by_cases h' : i < (v : Int)
    · rw [if_pos h', if_pos (by omega)]
    · rw [if_neg h', if_neg (by omega)]
theorem mix_set {m : Nat} {f g : Int → Int} {v : Nat} {x : Int} (hv : v < m) (h : f (v : Int) = x) : (tab m (fun i => if i < (v : Int) then f i else g i)).set v x = tab m (fun i => if i < ((v + 1 : Nat) : Int) then f i else g i) := by
  rw [tab_set _ hv]
  refine tab_congr fun i h0 _ => ?_
  by_cases hik : i = (v : Int)
  · subst hik; rw [if_pos rfl, if_pos (by omega), h]
  · rw [if_neg hik]
    by_cases h' : i < (v : Int)
    · rw [if_pos h', if_pos (by omega)]
    · rw [if_neg h', if_neg (by omega)]
theorem mix3_set {m : Nat} {f g : Int → Int} {v : Nat} {x y : Int} (hv : v < m) : (tab m (fun i => if i < (v : Int) then f i else if i = (v : Int) then y else g i)).set v x = tab m (fun i => if i < (v : Int) then f i else if i = (v : Int) then x else g i) := by
  rw [tab_set _ hv]
  refine tab_congr fun i h0 _ => ?_
  by_cases hik : i = (v : Int)
  · subst hik; rw [if_pos rfl, if_neg (by omega), if_pos rfl]
  · rw [if_neg hik, if_neg hik, if_neg hik]
theorem mix3_next {m : Nat} {f g : Int → Int} {v : Nat} {y : Int} (h : f (v : Int) = y) : tab m (fun i => if i < (v : Int) then f i else if i = (v : Int) then y else g i) = tab m (fun i => if i < ((v + 1 : Nat) : Int) then f i else g i) := tab_congr fun i h0 _ => by
  by_cases hik : i = (v : Int)
  · subst hik; rw [if_neg (by omega), if_pos rfl, if_pos (by omega), h]
  · by_cases h' : i < (v : Int)
    · rw [if_pos h', if_pos (by omega)]
    · rw [if_neg h', if_neg hik, if_neg (by omega)]
theorem mix3_start {m : Nat} {f g : Int → Int} {v : Nat} {y : Int} (h : g (v : Int) = y) : tab m (fun i => if i < (v : Int) then f i else g i) = tab m (fun i => if i < (v : Int) then f i else if i = (v : Int) then y else g i) := tab_congr fun i h0 _ => by
  by_cases hik : i = (v : Int)
  · subst hik; rw [if_neg (by omega), if_neg (by omega), if_pos rfl, h]
  · by_cases h' : i < (v : Int)
    · rw [if_pos h', if_pos h']
    · rw [if_neg h', if_neg h', if_neg hik]
set_option maxRecDepth 100000 in
set_option maxHeartbeats 16000000 in
theorem f_specPartPar (m : Nat) (nil : Bool) (es : List E3) (hg : gOk (m : Int) es = true) : FnO Tryd.prog 32 [graphP m nil es] 3 1 (ints (tab m (parI m es (leastP m es)))) := by
  have hl40 := gOk_len hg
  have KL := f_specLeast m nil es (by omega)
  have hm := gOk_m hg
  have hLF : leastF m es = leastP m es := by unfold leastF; rw [hg, if_pos rfl, Int.toNat_natCast]
  rw [hLF] at KL
  have KF := f_l8Fill m (-1) (by omega)
  rw [← tab_rep] at KF
  have KN := fun a => f_specNearOf m nil es a (by simp only [maxLen]; omega) hg
  have hIn : Inside m es := fun e he => by have := gOk_edges hg e he; exact ⟨this.1, this.2.1⟩
  have hIsL := leastP_ok hIn
  have hPP := parI_ok (by omega) hIsL hIn
  have hLl := hIsL.len
  have hD0 := fun (v : Int) h0 h1 => dst_lt hIsL hIn (v := v) h0 h1
  have hroot := fun (v : Int) h0 h1 => dst_zero hIsL hIn (v := v) h0 h1
  have hWm := fun (v u : Int) => nearL_mem (m := (m : Int)) hg hIn v u
  have hfm : ∀ (v n : Int), 0 ≤ v → v < (m : Int) → 0 ≤ n → n + 1 ≤ dst m es (leastP m es) v → fmD (dst m es (leastP m es)) n (nearL m es v) = if dst m es (leastP m es) v = n + 1 then parI m es (leastP m es) v else -1 := fun v n h0 h1 hn0 hn => by
    rw [fmD_eq hIsL hPP hIn h0 h1 (hWm v) (nearL_sorted _ _ _) hn0 hn, tab_val h0 h1]
  have hPr : ∀ v : Int, 0 ≤ v → v < (m : Int) → dst m es (leastP m es) v = 0 → parI m es (leastP m es) v = -1 := fun v h0 h1 h => by
    have := hPP.root v h0 h1 ((hroot v h0 h1).1 h)
    rwa [tab_val h0 h1] at this
  have hPp : ∀ v : Int, 0 ≤ v → v < (m : Int) → 1 ≤ dst m es (leastP m es) v → 0 ≤ parI m es (leastP m es) v := fun v h0 h1 h => by
    have := (hPP.par v h0 h1 (fun e => by have := (hroot v h0 h1).2 e; omega)).1
    rw [tab_val h0 h1] at this
    exact (adj_in hIn this).2.1
  have hWin : ∀ (v u : Int), u ∈ nearL m es v → 0 ≤ u ∧ u < (m : Int) := fun v u h => (adj_in hIn ((hWm v u).1 h)).2
  clear hWm hPP hIsL
  generalize parI m es (leastP m es) = PF at *
  generalize dst m es (leastP m es) = D at *
  generalize leastP m es = L at *
  have hlL : (ints L).length = m := by rw [ints_len, hLl]
  have hT0 := fun (f : Int → Int) => (show (ints (tab m f)).length = m by rw [ints_len, tab_len])
  have hT1 := fun (f : Int → Int) => tab_len m f
  refine fn_ofO Tryd.func32 (by kernel_rfl) rfl Tryd.ntmps32 rfl rfl ?_
  simp only [argEnv, P0.d, Nat.reduceAdd, List.map_cons, List.map_nil, graphP]
  repeat' (first | (with_reducible first | refine aw_seq ?_ | refine thn_normal ?_ | refine thn_ret ?_ | refine thn_exit ?_ | refine blk_normal ?_ | refine blk_ret ?_ | refine blk_hit ?_ | refine blk_miss rfl ?_ | refine aw_block ?_ | refine aw_ret ?_ | refine aw_skip ?_ | refine aw_exit ?_ | refine w_nil ?_ | refine x_nil (by kernel_rfl) ?_) | refine aw_region ?_ | refine aw_region_draw (by kernel_rfl) ?_ | refine aw_yes rfl ?_ | refine aw_no rfl ?_ | ((with_reducible refine w_seq ?_); first | refine r_q tbOk rfl rfl rfl rfl ?_ | refine r_e tbOk rfl rfl rfl rfl rfl ?_ | refine r_yes tbOk rfl rfl rfl rfl rfl rfl ?_ | refine w_no rfl rfl (lookO_spec rfl) rfl rfl rfl ?_ | refine w_un rfl rfl (lookO_spec rfl) rfl rfl ?_) | ((with_reducible refine w_drw ?_); first | refine rx_q tbOk rfl rfl rfl rfl ?_ | refine rx_e tbOk rfl rfl rfl rfl rfl ?_ | refine rx_yes tbOk rfl rfl rfl rfl rfl rfl ?_ | refine x_no rfl rfl (lookO_spec rfl) rfl rfl rfl ?_ | refine x_un rfl rfl (lookO_spec rfl) rfl rfl ?_) | ((first | refine' w_e rfl ?xa ?xb ?xc ?xe ?_ | refine' v_e rfl ?xa ?xb ?xc ?xe ?_); (case xa => first | exact e_callO KL rfl rfl ⟨asA_agg (evO_spec rfl) ⟨cAr_r, cAr_r, trivial⟩, trivial⟩ | exact e_callO KF rfl rfl ⟨by rw [evO_spec rfl, hlL]; exact asArg_r, asA_r (evO_spec rfl), trivial⟩); (case xb => rfl); (case xc => rfl); (case xe => rfl); try dsimp only [P0.d, Res.d, List.map_cons, List.map_nil, List.set_cons_zero, List.set_cons_succ, Nat.reduceAdd]) | ((first | refine aw_ways rfl ?_ ?_ | refine r_split rfl rfl rfl ?_ ?_) <;> intro hg_ <;> fail_if_success (exact Bool.noConfusion hg_)) <;> (try simp only [prn] at hg_) <;> (try first | contradiction | (exfalso; omega)))
  refine aw_loopI (fun v : Nat => v ≤ m) (fun v => mkS 94 [(6, .one (.r true (int v))), (5, .one (.own 100 0 m 1)), (4, .one (.own 101 0 m 1)), (3, .one (.own 102 0 m 1)), (1, .one (.ptr 1 0 0 0))] [(100, .sl 3 1 true (ints (tab m (fun i => if i < (v : Int) then sFd D 0 i else -1)))), (101, .sl 3 1 true (ints (tab m (fun _ => -1)))), (102, .sl 3 1 true (ints L)), (1, .var 25 [.r false (int (m : Int)), .r false (row nil 3 (edges es))])]) (fun v => m - v) 0 (Nat.zero_le _) (by (refine weak_ren [(100, 18), (101, 15), (102, 12)] rfl ?_ ?_ <;> repeat' (first | exact trivial | refine subR_cons rfl ?_ ?_ | refine subHR_cons rfl ?_ ?_ | rfl | (refine d_int ?_; (first | rfl | omega | (rw [IntWalk.i64_in _ (by omega)] <;> omega) | (simp; done) | (simp; omega))) | (refine d_bool ?_; (first | (simp_all; done) | (rw [Bool.eq_iff_iff]; simp_all; done) | (rw [Bool.eq_iff_iff]; simp_all; omega) | (rw [Bool.eq_iff_iff]; simp; omega))) | exact d_own (hT0 _) | exact d_own hlL | exact ob_sl rfl (congrArg ints (tab_congr fun i h0 _ => by rw [if_neg (by omega)]))))) ?_
  intro v hv
  by_cases hlt : v < m
  · have hw : IntKind.i64.wrap ((v : Int) + 1) = ((v + 1 : Nat) : Int) := by rw [IntWalk.i64_in _ (by omega)]; omega
    have hr := hroot (v : Int) (by omega) (by omega)
    rw [← val_at] at hr
    have hd := hD0 (v : Int) (by omega) (by omega)
    clear hroot hD0 hfm hPr hPp hWin KL KF KN
    by_cases hR : L.getD (0 + ((v : Nat) : Int).toNat) 0 = (v : Int)
    · have hS : (ints (tab m (fun i => if i < (v : Int) then sFd D 0 i else -1))).set (0 + ((v : Nat) : Int).toNat) (iP 0) = ints (tab m (fun i => if i < ((v + 1 : Nat) : Int) then sFd D 0 i else -1)) := by
        rw [Nat.zero_add, Int.toNat_natCast, ints_set, mix_set (f := sFd D 0) (g := fun _ => -1) hlt (by unfold sFd; rw [hr.2 hR]; rfl)]
      repeat' (first | (with_reducible first | refine aw_seq ?_ | refine thn_normal ?_ | refine thn_ret ?_ | refine thn_exit ?_ | refine blk_normal ?_ | refine blk_ret ?_ | refine blk_hit ?_ | refine blk_miss rfl ?_ | refine aw_block ?_ | refine aw_ret ?_ | refine aw_skip ?_ | refine aw_exit ?_ | refine w_nil ?_ | refine x_nil (by kernel_rfl) ?_) | refine aw_region ?_ | refine aw_region_draw (by kernel_rfl) ?_ | refine aw_yes rfl ?_ | refine aw_no rfl ?_ | ((with_reducible refine w_seq ?_); first | refine r_q tbOk rfl rfl rfl rfl ?_ | refine r_e tbOk rfl rfl rfl rfl rfl ?_ | refine r_yes tbOk rfl rfl rfl rfl rfl rfl ?_ | refine w_no rfl rfl (lookO_spec rfl) rfl rfl rfl ?_ | refine w_un rfl rfl (lookO_spec rfl) rfl rfl ?_) | ((with_reducible refine w_drw ?_); first | refine rx_q tbOk rfl rfl rfl rfl ?_ | refine rx_e tbOk rfl rfl rfl rfl rfl ?_ | refine rx_yes tbOk rfl rfl rfl rfl rfl rfl ?_ | refine x_no rfl rfl (lookO_spec rfl) rfl rfl rfl ?_ | refine x_un rfl rfl (lookO_spec rfl) rfl rfl ?_) | ((first | refine' w_q rfl rfl ?xa rfl ?_ | refine' v_q rfl rfl ?xa rfl ?_ | refine' w_yes rfl rfl (lookO_spec rfl) rfl ?xa rfl ?_ | refine' v_yes rfl rfl (lookO_spec rfl) rfl ?xa rfl ?_); case xa => first | exact k_indexO tbOk rfl rfl rfl rfl (by omega) (by omega) | exact k_loadI tbOk rfl rfl rfl rfl (by omega)) | ((first | refine' w_e rfl ?xa ?xb ?xc ?xe ?_ | refine' v_e rfl ?xa ?xb ?xc ?xe ?_); (case xa => exact e_storeS tbOk rfl rfl rfl rfl rfl rfl rfl rfl (by rw [hT0]; omega)); (case xb => rfl); (case xc => rfl); (case xe => rfl); try dsimp only [P0.d, Res.d, List.map_cons, List.map_nil, List.set_cons_zero, List.set_cons_succ, Nat.reduceAdd]) | ((first | refine aw_ways rfl ?_ ?_ | refine r_split rfl rfl rfl ?_ ?_) <;> intro hg_ <;> fail_if_success (exact Bool.noConfusion hg_)) <;> (try simp only [prn] at hg_) <;> (try first | contradiction | (exfalso; omega)))
      all_goals first
        | (exfalso; omega)
        | exact ⟨v + 1, by omega, by (refine weak_ren [(100, 100), (101, 101), (102, 102)] rfl ?_ ?_ <;> repeat' (first | exact trivial | refine subR_cons rfl ?_ ?_ | refine subHR_cons rfl ?_ ?_ | rfl | (refine d_int ?_; (first | rfl | omega | (rw [IntWalk.i64_in _ (by omega)] <;> omega) | (simp; done) | (simp; omega))) | (refine d_bool ?_; (first | (simp_all; done) | (rw [Bool.eq_iff_iff]; simp_all; done) | (rw [Bool.eq_iff_iff]; simp_all; omega) | (rw [Bool.eq_iff_iff]; simp; omega))) | exact d_int hw | exact ob_sl rfl hS)), by omega⟩
        | trace_state
    · have hS := mix_next (m := m) (f := sFd D 0) (g := fun _ => -1) (v := v) (by unfold sFd; rw [if_neg]; intro h; exact hR (hr.1 (by omega)))
      repeat' (first | (with_reducible first | refine aw_seq ?_ | refine thn_normal ?_ | refine thn_ret ?_ | refine thn_exit ?_ | refine blk_normal ?_ | refine blk_ret ?_ | refine blk_hit ?_ | refine blk_miss rfl ?_ | refine aw_block ?_ | refine aw_ret ?_ | refine aw_skip ?_ | refine aw_exit ?_ | refine w_nil ?_ | refine x_nil (by kernel_rfl) ?_) | refine aw_region ?_ | refine aw_region_draw (by kernel_rfl) ?_ | refine aw_yes rfl ?_ | refine aw_no rfl ?_ | ((with_reducible refine w_seq ?_); first | refine r_q tbOk rfl rfl rfl rfl ?_ | refine r_e tbOk rfl rfl rfl rfl rfl ?_ | refine r_yes tbOk rfl rfl rfl rfl rfl rfl ?_ | refine w_no rfl rfl (lookO_spec rfl) rfl rfl rfl ?_ | refine w_un rfl rfl (lookO_spec rfl) rfl rfl ?_) | ((with_reducible refine w_drw ?_); first | refine rx_q tbOk rfl rfl rfl rfl ?_ | refine rx_e tbOk rfl rfl rfl rfl rfl ?_ | refine rx_yes tbOk rfl rfl rfl rfl rfl rfl ?_ | refine x_no rfl rfl (lookO_spec rfl) rfl rfl rfl ?_ | refine x_un rfl rfl (lookO_spec rfl) rfl rfl ?_) | ((first | refine' w_q rfl rfl ?xa rfl ?_ | refine' v_q rfl rfl ?xa rfl ?_ | refine' w_yes rfl rfl (lookO_spec rfl) rfl ?xa rfl ?_ | refine' v_yes rfl rfl (lookO_spec rfl) rfl ?xa rfl ?_); case xa => first | exact k_indexO tbOk rfl rfl rfl rfl (by omega) (by omega) | exact k_loadI tbOk rfl rfl rfl rfl (by omega)) | ((first | refine' w_e rfl ?xa ?xb ?xc ?xe ?_ | refine' v_e rfl ?xa ?xb ?xc ?xe ?_); (case xa => exact e_storeS tbOk rfl rfl rfl rfl rfl rfl rfl rfl (by rw [hT0]; omega)); (case xb => rfl); (case xc => rfl); (case xe => rfl); try dsimp only [P0.d, Res.d, List.map_cons, List.map_nil, List.set_cons_zero, List.set_cons_succ, Nat.reduceAdd]) | ((first | refine aw_ways rfl ?_ ?_ | refine r_split rfl rfl rfl ?_ ?_) <;> intro hg_ <;> fail_if_success (exact Bool.noConfusion hg_)) <;> (try simp only [prn] at hg_) <;> (try first | contradiction | (exfalso; omega)))
      all_goals first
        | (exfalso; omega)
        | exact ⟨v + 1, by omega, by (refine weak_ren [(100, 100), (101, 101), (102, 102)] rfl ?_ ?_ <;> repeat' (first | exact trivial | refine subR_cons rfl ?_ ?_ | refine subHR_cons rfl ?_ ?_ | rfl | (refine d_int ?_; (first | rfl | omega | (rw [IntWalk.i64_in _ (by omega)] <;> omega) | (simp; done) | (simp; omega))) | (refine d_bool ?_; (first | (simp_all; done) | (rw [Bool.eq_iff_iff]; simp_all; done) | (rw [Bool.eq_iff_iff]; simp_all; omega) | (rw [Bool.eq_iff_iff]; simp; omega))) | exact d_int hw | exact ob_sl rfl (congrArg ints hS))), by omega⟩
        | trace_state
  · obtain rfl : v = m := by omega
    have hS0 : tab v (fun i => if i < (v : Int) then sFd D 0 i else -1) = tab v (sFd D 0) := tab_congr fun i _ h1 => by rw [if_pos h1]
    have hO0 : tab v (fun _ => -1) = tab v (oFd D PF 0) := tab_congr fun i _ _ => by unfold oFd; rw [if_neg (by omega)]
    rw [hS0, hO0]
    repeat' (first | (with_reducible first | refine aw_seq ?_ | refine thn_normal ?_ | refine thn_ret ?_ | refine thn_exit ?_ | refine blk_normal ?_ | refine blk_ret ?_ | refine blk_hit ?_ | refine blk_miss rfl ?_ | refine aw_block ?_ | refine aw_ret ?_ | refine aw_skip ?_ | refine aw_exit ?_ | refine w_nil ?_ | refine x_nil (by kernel_rfl) ?_) | refine aw_region ?_ | refine aw_region_draw (by kernel_rfl) ?_ | refine aw_yes rfl ?_ | refine aw_no rfl ?_ | ((with_reducible refine w_seq ?_); first | refine r_q tbOk rfl rfl rfl rfl ?_ | refine r_e tbOk rfl rfl rfl rfl rfl ?_ | refine r_yes tbOk rfl rfl rfl rfl rfl rfl ?_ | refine w_no rfl rfl (lookO_spec rfl) rfl rfl rfl ?_ | refine w_un rfl rfl (lookO_spec rfl) rfl rfl ?_) | ((with_reducible refine w_drw ?_); first | refine rx_q tbOk rfl rfl rfl rfl ?_ | refine rx_e tbOk rfl rfl rfl rfl rfl ?_ | refine rx_yes tbOk rfl rfl rfl rfl rfl rfl ?_ | refine x_no rfl rfl (lookO_spec rfl) rfl rfl rfl ?_ | refine x_un rfl rfl (lookO_spec rfl) rfl rfl ?_) | ((first | refine aw_ways rfl ?_ ?_ | refine r_split rfl rfl rfl ?_ ?_) <;> intro hg_ <;> fail_if_success (exact Bool.noConfusion hg_)) <;> (try simp only [prn] at hg_) <;> (try first | contradiction | (exfalso; omega)))
    clear KL KF hroot hS0 hO0
    refine aw_loopI (fun n : Nat => n ≤ v) (fun n => mkS 94 [(7, .one (.r true (int n))), (5, .one (.own 100 0 v 1)), (4, .one (.own 101 0 v 1)), (3, .one (.own 102 0 v 1)), (1, .one (.ptr 1 0 0 0))] [(100, .sl 3 1 true (ints (tab v (sFd D (n : Int))))), (101, .sl 3 1 true (ints (tab v (oFd D PF (n : Int))))), (102, .sl 3 1 true (ints L)), (1, .var 25 [.r false (int (v : Int)), .r false (row nil 3 (edges es))])]) (fun n => v - n) 0 (Nat.zero_le _) (by (refine weak_ren [(100, 100), (101, 101), (102, 102)] rfl ?_ ?_ <;> repeat' (first | exact trivial | refine subR_cons rfl ?_ ?_ | refine subHR_cons rfl ?_ ?_ | rfl | (refine d_int ?_; (first | rfl | omega | (rw [IntWalk.i64_in _ (by omega)] <;> omega) | (simp; done) | (simp; omega))) | (refine d_bool ?_; (first | (simp_all; done) | (rw [Bool.eq_iff_iff]; simp_all; done) | (rw [Bool.eq_iff_iff]; simp_all; omega) | (rw [Bool.eq_iff_iff]; simp; omega)))))) ?_
    intro n hn
    by_cases hltn : n < v
    · have hwn : IntKind.i64.wrap ((n : Int) + 1) = ((n + 1 : Nat) : Int) := by rw [IntWalk.i64_in _ (by omega)]; omega
      repeat' (first | (with_reducible first | refine aw_seq ?_ | refine thn_normal ?_ | refine thn_ret ?_ | refine thn_exit ?_ | refine blk_normal ?_ | refine blk_ret ?_ | refine blk_hit ?_ | refine blk_miss rfl ?_ | refine aw_block ?_ | refine aw_ret ?_ | refine aw_skip ?_ | refine aw_exit ?_ | refine w_nil ?_ | refine x_nil (by kernel_rfl) ?_) | refine aw_region ?_ | refine aw_region_draw (by kernel_rfl) ?_ | refine aw_yes rfl ?_ | refine aw_no rfl ?_ | ((with_reducible refine w_seq ?_); first | refine r_q tbOk rfl rfl rfl rfl ?_ | refine r_e tbOk rfl rfl rfl rfl rfl ?_ | refine r_yes tbOk rfl rfl rfl rfl rfl rfl ?_ | refine w_no rfl rfl (lookO_spec rfl) rfl rfl rfl ?_ | refine w_un rfl rfl (lookO_spec rfl) rfl rfl ?_) | ((with_reducible refine w_drw ?_); first | refine rx_q tbOk rfl rfl rfl rfl ?_ | refine rx_e tbOk rfl rfl rfl rfl rfl ?_ | refine rx_yes tbOk rfl rfl rfl rfl rfl rfl ?_ | refine x_no rfl rfl (lookO_spec rfl) rfl rfl rfl ?_ | refine x_un rfl rfl (lookO_spec rfl) rfl rfl ?_) | ((first | refine aw_ways rfl ?_ ?_ | refine r_split rfl rfl rfl ?_ ?_) <;> intro hg_ <;> fail_if_success (exact Bool.noConfusion hg_)) <;> (try simp only [prn] at hg_) <;> (try first | contradiction | (exfalso; omega)))
      refine aw_loopI (fun u : Nat => u ≤ v) (fun u => mkS 94 [(8, .one (.r true (int u))), (7, .one (.r true (int n))), (5, .one (.own 100 0 v 1)), (4, .one (.own 101 0 v 1)), (3, .one (.own 102 0 v 1)), (1, .one (.ptr 1 0 0 0))] [(100, .sl 3 1 true (ints (tab v (fun i => if i < (u : Int) then sFd D ((n + 1 : Nat) : Int) i else sFd D (n : Int) i)))), (101, .sl 3 1 true (ints (tab v (fun i => if i < (u : Int) then oFd D PF ((n + 1 : Nat) : Int) i else oFd D PF (n : Int) i)))), (102, .sl 3 1 true (ints L)), (1, .var 25 [.r false (int (v : Int)), .r false (row nil 3 (edges es))])]) (fun u => v - u) 0 (Nat.zero_le _) (by (refine weak_ren [(100, 100), (101, 101), (102, 102)] rfl ?_ ?_ <;> repeat' (first | exact trivial | refine subR_cons rfl ?_ ?_ | refine subHR_cons rfl ?_ ?_ | rfl | (refine d_int ?_; (first | rfl | omega | (rw [IntWalk.i64_in _ (by omega)] <;> omega) | (simp; done) | (simp; omega))) | (refine d_bool ?_; (first | (simp_all; done) | (rw [Bool.eq_iff_iff]; simp_all; done) | (rw [Bool.eq_iff_iff]; simp_all; omega) | (rw [Bool.eq_iff_iff]; simp; omega))) | exact ob_sl rfl (congrArg ints (tab_congr fun i h0 _ => by rw [if_neg (by omega)]))))) ?_
      intro u hu
      by_cases hltu : u < v
      · have hwu : IntKind.i64.wrap ((u : Int) + 1) = ((u + 1 : Nat) : Int) := by rw [IntWalk.i64_in _ (by omega)]; omega
        have hS := mix_at (m := v) (f := sFd D ((n + 1 : Nat) : Int)) (g := sFd D (n : Int)) hltu
        have hdu := hD0 (u : Int) (by omega) (by omega)
        by_cases hd : D (u : Int) ≤ n
        · have hS1 : ¬ (tab v (fun i => if i < (u : Int) then sFd D ((n + 1 : Nat) : Int) i else sFd D (n : Int) i)).getD (0 + ((u : Nat) : Int).toNat) 0 < 0 := by rw [hS]; unfold sFd; rw [if_pos hd]; omega
          have hSn := mix_next (m := v) (f := sFd D ((n + 1 : Nat) : Int)) (g := sFd D (n : Int)) (v := u) (by unfold sFd; rw [if_pos hd, if_pos (by omega)])
          have hOn := mix_next (m := v) (f := oFd D PF ((n + 1 : Nat) : Int)) (g := oFd D PF (n : Int)) (v := u) (by
            unfold oFd
            by_cases h1 : 1 ≤ D (u : Int)
            · rw [if_pos ⟨h1, by omega⟩, if_pos ⟨h1, hd⟩]
            · rw [if_neg (by omega), if_neg (by omega)])
          clear hfm hPr hPp hWin KN hD0
          repeat' (first | (with_reducible first | refine aw_seq ?_ | refine thn_normal ?_ | refine thn_ret ?_ | refine thn_exit ?_ | refine blk_normal ?_ | refine blk_ret ?_ | refine blk_hit ?_ | refine blk_miss rfl ?_ | refine aw_block ?_ | refine aw_ret ?_ | refine aw_skip ?_ | refine aw_exit ?_ | refine w_nil ?_ | refine x_nil (by kernel_rfl) ?_) | refine aw_region ?_ | refine aw_region_draw (by kernel_rfl) ?_ | refine aw_yes rfl ?_ | refine aw_no rfl ?_ | ((with_reducible refine w_seq ?_); first | refine r_q tbOk rfl rfl rfl rfl ?_ | refine r_e tbOk rfl rfl rfl rfl rfl ?_ | refine r_yes tbOk rfl rfl rfl rfl rfl rfl ?_ | refine w_no rfl rfl (lookO_spec rfl) rfl rfl rfl ?_ | refine w_un rfl rfl (lookO_spec rfl) rfl rfl ?_) | ((with_reducible refine w_drw ?_); first | refine rx_q tbOk rfl rfl rfl rfl ?_ | refine rx_e tbOk rfl rfl rfl rfl rfl ?_ | refine rx_yes tbOk rfl rfl rfl rfl rfl rfl ?_ | refine x_no rfl rfl (lookO_spec rfl) rfl rfl rfl ?_ | refine x_un rfl rfl (lookO_spec rfl) rfl rfl ?_) | ((first | refine' w_q rfl rfl ?xa rfl ?_ | refine' v_q rfl rfl ?xa rfl ?_ | refine' w_yes rfl rfl (lookO_spec rfl) rfl ?xa rfl ?_ | refine' v_yes rfl rfl (lookO_spec rfl) rfl ?xa rfl ?_); case xa => first | exact k_indexO tbOk rfl rfl rfl rfl (by omega) (by omega) | exact k_loadI tbOk rfl rfl rfl rfl (by rw [hT1]; omega)) | ((first | refine aw_ways rfl ?_ ?_ | refine r_split rfl rfl rfl ?_ ?_) <;> intro hg_ <;> fail_if_success (exact Bool.noConfusion hg_)) <;> (try simp only [prn] at hg_) <;> (try first | contradiction | (exfalso; omega)))
          all_goals first
            | (exfalso; omega)
            | exact ⟨u + 1, by omega, by (refine weak_ren [(100, 100), (101, 101), (102, 102)] rfl ?_ ?_ <;> repeat' (first | exact trivial | refine subR_cons rfl ?_ ?_ | refine subHR_cons rfl ?_ ?_ | rfl | (refine d_int ?_; (first | rfl | omega | (rw [IntWalk.i64_in _ (by omega)] <;> omega) | (simp; done) | (simp; omega))) | (refine d_bool ?_; (first | (simp_all; done) | (rw [Bool.eq_iff_iff]; simp_all; done) | (rw [Bool.eq_iff_iff]; simp_all; omega) | (rw [Bool.eq_iff_iff]; simp; omega))) | exact d_int hwu | exact ob_sl rfl (congrArg ints hSn) | exact ob_sl rfl (congrArg ints hOn))), by omega⟩
            | trace_state
        · have hS1 : (tab v (fun i => if i < (u : Int) then sFd D ((n + 1 : Nat) : Int) i else sFd D (n : Int) i)).getD (0 + ((u : Nat) : Int).toNat) 0 < 0 := by rw [hS]; unfold sFd; rw [if_neg hd]; omega
          have hO1 := mix3_start (m := v) (f := oFd D PF ((n + 1 : Nat) : Int)) (g := oFd D PF (n : Int)) (v := u) (y := fmD D (n : Int) ((nearL v es u).take 0)) (by unfold oFd; rw [if_neg (by omega)]; rfl)
          have hf := hfm (u : Int) (n : Int) (by omega) (by omega) (by omega) (by omega)
          have hW := hWin (u : Int)
          have hpp := hPp (u : Int) (by omega) (by omega) (by omega)
          have KNu := KN (u : Int)
          have hSst : ∀ w : Int, 0 ≤ w → w < (v : Int) → ((tab v (fun i => if i < (u : Int) then sFd D ((n + 1 : Nat) : Int) i else sFd D (n : Int) i)).getD (0 + w.toNat) 0 = (n : Int) ↔ D w = (n : Int)) := fun w h0 h1 => by
            have := hD0 w h0 h1
            rw [tab_at h0 h1]
            unfold sFd
            (repeat' split) <;> omega
          have hSnx : ∀ x : Int, sFd D ((n + 1 : Nat) : Int) (u : Int) = x → (ints (tab v (fun i => if i < (u : Int) then sFd D ((n + 1 : Nat) : Int) i else sFd D (n : Int) i))).set (0 + ((u : Nat) : Int).toNat) (iP x) = ints (tab v (fun i => if i < ((u + 1 : Nat) : Int) then sFd D ((n + 1 : Nat) : Int) i else sFd D (n : Int) i)) := fun x hx => by
            rw [Nat.zero_add, Int.toNat_natCast, ints_set, mix_set hltu hx]
          have hWl : (nearL v es u).length ≤ 16 := by have := nearL_len2 (v : Int) es u; omega
          generalize nearL v es u = W at *
          have hlW := ints_len W
          clear hfm hPr hPp hWin KN hD0 hS
          repeat' (first | (with_reducible first | refine aw_seq ?_ | refine thn_normal ?_ | refine thn_ret ?_ | refine thn_exit ?_ | refine blk_normal ?_ | refine blk_ret ?_ | refine blk_hit ?_ | refine blk_miss rfl ?_ | refine aw_block ?_ | refine aw_ret ?_ | refine aw_skip ?_ | refine aw_exit ?_ | refine w_nil ?_ | refine x_nil (by kernel_rfl) ?_) | refine aw_region ?_ | refine aw_region_draw (by kernel_rfl) ?_ | refine aw_yes rfl ?_ | refine aw_no rfl ?_ | ((with_reducible refine w_seq ?_); first | refine r_q tbOk rfl rfl rfl rfl ?_ | refine r_e tbOk rfl rfl rfl rfl rfl ?_ | refine r_yes tbOk rfl rfl rfl rfl rfl rfl ?_ | refine w_no rfl rfl (lookO_spec rfl) rfl rfl rfl ?_ | refine w_un rfl rfl (lookO_spec rfl) rfl rfl ?_) | ((with_reducible refine w_drw ?_); first | refine rx_q tbOk rfl rfl rfl rfl ?_ | refine rx_e tbOk rfl rfl rfl rfl rfl ?_ | refine rx_yes tbOk rfl rfl rfl rfl rfl rfl ?_ | refine x_no rfl rfl (lookO_spec rfl) rfl rfl rfl ?_ | refine x_un rfl rfl (lookO_spec rfl) rfl rfl ?_) | ((first | refine' w_q rfl rfl ?xa rfl ?_ | refine' v_q rfl rfl ?xa rfl ?_ | refine' w_yes rfl rfl (lookO_spec rfl) rfl ?xa rfl ?_ | refine' v_yes rfl rfl (lookO_spec rfl) rfl ?xa rfl ?_); case xa => first | exact k_indexO tbOk rfl rfl rfl rfl (by omega) (by omega) | exact k_loadI tbOk rfl rfl rfl rfl (by rw [hT1]; omega) | exact k_call KNu rfl ⟨asA_agg (evO_spec rfl) ⟨cAr_r, cAr_r, trivial⟩, asA_r (evO_spec rfl), trivial⟩) | ((first | refine aw_ways rfl ?_ ?_ | refine r_split rfl rfl rfl ?_ ?_) <;> intro hg_ <;> fail_if_success (exact Bool.noConfusion hg_)) <;> (try simp only [prn] at hg_) <;> (try first | contradiction | (exfalso; omega)))
          all_goals (try (exfalso; omega))
          clear KNu hg_
          refine aw_loopI (fun k : Nat => k ≤ W.length) (fun k => mkS 94 [(10, .one (.r true (int k))), (9, .one (.r true (row false 1 (ints W)))), (8, .one (.r true (int u))), (7, .one (.r true (int n))), (5, .one (.own 100 0 v 1)), (4, .one (.own 101 0 v 1)), (3, .one (.own 102 0 v 1)), (1, .one (.ptr 1 0 0 0))] [(100, .sl 3 1 true (ints (tab v (fun i => if i < (u : Int) then sFd D ((n + 1 : Nat) : Int) i else sFd D (n : Int) i)))), (101, .sl 3 1 true (ints (tab v (fun i => if i < (u : Int) then oFd D PF ((n + 1 : Nat) : Int) i else if i = (u : Int) then fmD D (n : Int) (W.take k) else oFd D PF (n : Int) i)))), (102, .sl 3 1 true (ints L)), (1, .var 25 [.r false (int (v : Int)), .r false (row nil 3 (edges es))])]) (fun k => W.length - k) 0 (Nat.zero_le _) (by (refine weak_ren [(100, 100), (101, 101), (102, 102)] rfl ?_ ?_ <;> repeat' (first | exact trivial | refine subR_cons rfl ?_ ?_ | refine subHR_cons rfl ?_ ?_ | rfl | (refine d_int ?_; (first | rfl | omega | (rw [IntWalk.i64_in _ (by omega)] <;> omega) | (simp; done) | (simp; omega))) | (refine d_bool ?_; (first | (simp_all; done) | (rw [Bool.eq_iff_iff]; simp_all; done) | (rw [Bool.eq_iff_iff]; simp_all; omega) | (rw [Bool.eq_iff_iff]; simp; omega))) | exact ob_sl rfl (congrArg ints hO1)))) ?_
          intro k hk
          have hOat : (tab v (fun i => if i < (u : Int) then oFd D PF ((n + 1 : Nat) : Int) i else if i = (u : Int) then fmD D (n : Int) (W.take k) else oFd D PF (n : Int) i)).getD (0 + ((u : Nat) : Int).toNat) 0 = fmD D (n : Int) (W.take k) := by rw [tab_at (by omega) (by omega), if_neg (by omega), if_pos rfl]
          have hTW : ∀ w ∈ W.take k, 0 ≤ w := fun w hw => (hW w (List.mem_of_mem_take hw)).1
          have hin := fmD_in (D := D) (n := (n : Int)) hTW
          -- the end of the search
          have hend : (k = W.length ∨ 0 ≤ fmD D (n : Int) (W.take k)) → fmD D (n : Int) W = fmD D (n : Int) (W.take k) := fun h => by
            rcases h with h | h
            · rw [h, List.take_length]
            · have := fmD_app (D := D) (n := (n : Int)) (ws := W.take k) (xs := W.drop k) (by omega)
              rwa [List.take_append_drop] at this
          have hfinO : ∀ y : Int, oFd D PF ((n + 1 : Nat) : Int) (u : Int) = y → tab v (fun i => if i < (u : Int) then oFd D PF ((n + 1 : Nat) : Int) i else if i = (u : Int) then y else oFd D PF (n : Int) i) = tab v (fun i => if i < ((u + 1 : Nat) : Int) then oFd D PF ((n + 1 : Nat) : Int) i else oFd D PF (n : Int) i) := fun y h => mix3_next h
          have hSn2 : D (u : Int) ≠ (n : Int) + 1 → tab v (fun i => if i < (u : Int) then sFd D ((n + 1 : Nat) : Int) i else sFd D (n : Int) i) = tab v (fun i => if i < ((u + 1 : Nat) : Int) then sFd D ((n + 1 : Nat) : Int) i else sFd D (n : Int) i) := fun h => mix_next (by unfold sFd; rw [if_neg hd, if_neg (by omega)])
          have hS3 : D (u : Int) = (n : Int) + 1 → sFd D ((n + 1 : Nat) : Int) (u : Int) = ((n + 1 : Nat) : Int) := fun h => by unfold sFd; rw [if_pos (by omega)]; omega
          have hO3 : oFd D PF ((n + 1 : Nat) : Int) (u : Int) = if D (u : Int) = (n : Int) + 1 then PF (u : Int) else -1 := by
            unfold oFd
            by_cases h : D (u : Int) = (n : Int) + 1
            · rw [if_pos ⟨by omega, by omega⟩, if_pos h]
            · rw [if_neg (by omega), if_neg h]
          by_cases hgo : k < W.length ∧ fmD D (n : Int) (W.take k) < 0
          · obtain ⟨hltk, hneg⟩ := hgo
            have hwk : IntKind.i64.wrap ((k : Int) + 1) = ((k + 1 : Nat) : Int) := by rw [IntWalk.i64_in _ (by omega)]; omega
            have hixk := ints_at (xs := W) hltk
            have hwi := hW W[k] (List.getElem_mem hltk)
            have hsn : fmD D (n : Int) (W.take (k + 1)) = if D W[k] = (n : Int) then W[k] else -1 := by
              rw [List.take_succ_eq_append_getElem hltk]; exact fmD_snoc hTW (by omega)
            have hSw := hSst W[k] hwi.1 hwi.2
            have hO2 : ∀ x : Int, (ints (tab v (fun i => if i < (u : Int) then oFd D PF ((n + 1 : Nat) : Int) i else if i = (u : Int) then fmD D (n : Int) (W.take k) else oFd D PF (n : Int) i))).set (0 + ((u : Nat) : Int).toNat) (iP x) = ints (tab v (fun i => if i < (u : Int) then oFd D PF ((n + 1 : Nat) : Int) i else if i = (u : Int) then x else oFd D PF (n : Int) i)) := fun x => by
              rw [Nat.zero_add, Int.toNat_natCast, ints_set, mix3_set hltu]
            generalize W[k] = x at *
            clear hend hfinO hSn2 hS3 hO3 hW hTW hSnx hf hO1
            generalize hFk : fmD D (n : Int) (W.take k) = y at *
            have hOneg : (tab v (fun i => if i < (u : Int) then oFd D PF ((n + 1 : Nat) : Int) i else if i = (u : Int) then y else oFd D PF (n : Int) i)).getD (0 + ((u : Nat) : Int).toNat) 0 < 0 := by rw [hOat]; exact hneg
            by_cases hx : D x = (n : Int)
            · rw [if_pos hx] at hsn
              have hSx := hSw.2 hx
              clear hSw hSst
              repeat' (first | (with_reducible first | refine aw_seq ?_ | refine thn_normal ?_ | refine thn_ret ?_ | refine thn_exit ?_ | refine blk_normal ?_ | refine blk_ret ?_ | refine blk_hit ?_ | refine blk_miss rfl ?_ | refine aw_block ?_ | refine aw_ret ?_ | refine aw_skip ?_ | refine aw_exit ?_ | refine w_nil ?_ | refine x_nil (by kernel_rfl) ?_) | refine aw_region ?_ | refine aw_region_draw (by kernel_rfl) ?_ | refine aw_yes rfl ?_ | refine aw_no rfl ?_ | ((with_reducible refine w_seq ?_); first | refine r_q tbOk rfl rfl rfl rfl ?_ | refine r_e tbOk rfl rfl rfl rfl rfl ?_ | refine r_yes tbOk rfl rfl rfl rfl rfl rfl ?_ | refine w_no rfl rfl (lookO_spec rfl) rfl rfl rfl ?_ | refine w_un rfl rfl (lookO_spec rfl) rfl rfl ?_) | ((with_reducible refine w_drw ?_); first | refine rx_q tbOk rfl rfl rfl rfl ?_ | refine rx_e tbOk rfl rfl rfl rfl rfl ?_ | refine rx_yes tbOk rfl rfl rfl rfl rfl rfl ?_ | refine x_no rfl rfl (lookO_spec rfl) rfl rfl rfl ?_ | refine x_un rfl rfl (lookO_spec rfl) rfl rfl ?_) | ((first | refine' w_q rfl rfl ?xa rfl ?_ | refine' v_q rfl rfl ?xa rfl ?_ | refine' w_yes rfl rfl (lookO_spec rfl) rfl ?xa rfl ?_ | refine' v_yes rfl rfl (lookO_spec rfl) rfl ?xa rfl ?_); case xa => first | exact k_index tbOk rfl rfl rfl rfl (by omega) (by exact hixk) | exact k_indexO tbOk rfl rfl rfl rfl (by omega) (by omega) | exact k_loadI tbOk rfl rfl rfl rfl (by rw [hT1]; omega)) | ((first | refine' w_e rfl ?xa ?xb ?xc ?xe ?_ | refine' v_e rfl ?xa ?xb ?xc ?xe ?_); (case xa => exact e_storeS tbOk rfl rfl rfl rfl rfl rfl rfl rfl (by rw [hT0]; omega)); (case xb => rfl); (case xc => rfl); (case xe => rfl); try dsimp only [P0.d, Res.d, List.map_cons, List.map_nil, List.set_cons_zero, List.set_cons_succ, Nat.reduceAdd]) | ((first | refine aw_ways rfl ?_ ?_ | refine r_split rfl rfl rfl ?_ ?_) <;> intro hg_ <;> fail_if_success (exact Bool.noConfusion hg_)) <;> (try simp only [prn] at hg_) <;> (try first | contradiction | (exfalso; omega)))
              all_goals first
                | (exfalso; omega)
                | exact ⟨k + 1, by omega, by rw [hsn]; (refine weak_ren [(100, 100), (101, 101), (102, 102)] rfl ?_ ?_ <;> repeat' (first | exact trivial | refine subR_cons rfl ?_ ?_ | refine subHR_cons rfl ?_ ?_ | rfl | (refine d_int ?_; (first | rfl | omega | (rw [IntWalk.i64_in _ (by omega)] <;> omega) | (simp; done) | (simp; omega))) | (refine d_bool ?_; (first | (simp_all; done) | (rw [Bool.eq_iff_iff]; simp_all; done) | (rw [Bool.eq_iff_iff]; simp_all; omega) | (rw [Bool.eq_iff_iff]; simp; omega))) | exact d_int hwk | exact ob_sl rfl (hO2 x))), by omega⟩
                | trace_state
            · rw [if_neg hx] at hsn
              have hSx := fun h => hx (hSw.1 h)
              have hy : y = -1 := by omega
              subst hy
              clear hSw hSst
              repeat' (first | (with_reducible first | refine aw_seq ?_ | refine thn_normal ?_ | refine thn_ret ?_ | refine thn_exit ?_ | refine blk_normal ?_ | refine blk_ret ?_ | refine blk_hit ?_ | refine blk_miss rfl ?_ | refine aw_block ?_ | refine aw_ret ?_ | refine aw_skip ?_ | refine aw_exit ?_ | refine w_nil ?_ | refine x_nil (by kernel_rfl) ?_) | refine aw_region ?_ | refine aw_region_draw (by kernel_rfl) ?_ | refine aw_yes rfl ?_ | refine aw_no rfl ?_ | ((with_reducible refine w_seq ?_); first | refine r_q tbOk rfl rfl rfl rfl ?_ | refine r_e tbOk rfl rfl rfl rfl rfl ?_ | refine r_yes tbOk rfl rfl rfl rfl rfl rfl ?_ | refine w_no rfl rfl (lookO_spec rfl) rfl rfl rfl ?_ | refine w_un rfl rfl (lookO_spec rfl) rfl rfl ?_) | ((with_reducible refine w_drw ?_); first | refine rx_q tbOk rfl rfl rfl rfl ?_ | refine rx_e tbOk rfl rfl rfl rfl rfl ?_ | refine rx_yes tbOk rfl rfl rfl rfl rfl rfl ?_ | refine x_no rfl rfl (lookO_spec rfl) rfl rfl rfl ?_ | refine x_un rfl rfl (lookO_spec rfl) rfl rfl ?_) | ((first | refine' w_q rfl rfl ?xa rfl ?_ | refine' v_q rfl rfl ?xa rfl ?_ | refine' w_yes rfl rfl (lookO_spec rfl) rfl ?xa rfl ?_ | refine' v_yes rfl rfl (lookO_spec rfl) rfl ?xa rfl ?_); case xa => first | exact k_index tbOk rfl rfl rfl rfl (by omega) (by exact hixk) | exact k_indexO tbOk rfl rfl rfl rfl (by omega) (by omega) | exact k_loadI tbOk rfl rfl rfl rfl (by rw [hT1]; omega)) | ((first | refine' w_e rfl ?xa ?xb ?xc ?xe ?_ | refine' v_e rfl ?xa ?xb ?xc ?xe ?_); (case xa => exact e_storeS tbOk rfl rfl rfl rfl rfl rfl rfl rfl (by rw [hT0]; omega)); (case xb => rfl); (case xc => rfl); (case xe => rfl); try dsimp only [P0.d, Res.d, List.map_cons, List.map_nil, List.set_cons_zero, List.set_cons_succ, Nat.reduceAdd]) | ((first | refine aw_ways rfl ?_ ?_ | refine r_split rfl rfl rfl ?_ ?_) <;> intro hg_ <;> fail_if_success (exact Bool.noConfusion hg_)) <;> (try simp only [prn] at hg_) <;> (try first | contradiction | (exfalso; omega)))
              all_goals first
                | (exfalso; first | omega | exact hSx hg_)
                | exact ⟨k + 1, by omega, by rw [hsn]; (refine weak_ren [(100, 100), (101, 101), (102, 102)] rfl ?_ ?_ <;> repeat' (first | exact trivial | refine subR_cons rfl ?_ ?_ | refine subHR_cons rfl ?_ ?_ | rfl | (refine d_int ?_; (first | rfl | omega | (rw [IntWalk.i64_in _ (by omega)] <;> omega) | (simp; done) | (simp; omega))) | (refine d_bool ?_; (first | (simp_all; done) | (rw [Bool.eq_iff_iff]; simp_all; done) | (rw [Bool.eq_iff_iff]; simp_all; omega) | (rw [Bool.eq_iff_iff]; simp; omega))) | exact d_int hwk)), by omega⟩
                | trace_state
          · have hE := hend (by omega)
            rw [← hE] at hOat hin
            rw [← hE]
            have hgo2 : k < W.length → 0 ≤ fmD D (n : Int) W := fun h => by rw [hE]; omega
            clear hend hE hgo hTW hW hO1 hSst
            rw [hf] at hOat hin hgo2 ⊢
            by_cases hd1 : D (u : Int) = (n : Int) + 1
            · rw [if_pos hd1] at hOat hO3 hin hgo2 ⊢
              have hO4 := hfinO _ hO3
              have hS4 := hSnx _ (hS3 hd1)
              clear hfinO hSnx hS3 hSn2 hO3 hf
              have hOp : 0 ≤ (tab v (fun i => if i < (u : Int) then oFd D PF ((n + 1 : Nat) : Int) i else if i = (u : Int) then PF (u : Int) else oFd D PF (n : Int) i)).getD (0 + ((u : Nat) : Int).toNat) 0 := by rw [hOat]; exact hpp
              repeat' (first | (with_reducible first | refine aw_seq ?_ | refine thn_normal ?_ | refine thn_ret ?_ | refine thn_exit ?_ | refine blk_normal ?_ | refine blk_ret ?_ | refine blk_hit ?_ | refine blk_miss rfl ?_ | refine aw_block ?_ | refine aw_ret ?_ | refine aw_skip ?_ | refine aw_exit ?_ | refine w_nil ?_ | refine x_nil (by kernel_rfl) ?_) | refine aw_region ?_ | refine aw_region_draw (by kernel_rfl) ?_ | refine aw_yes rfl ?_ | refine aw_no rfl ?_ | ((with_reducible refine w_seq ?_); first | refine r_q tbOk rfl rfl rfl rfl ?_ | refine r_e tbOk rfl rfl rfl rfl rfl ?_ | refine r_yes tbOk rfl rfl rfl rfl rfl rfl ?_ | refine w_no rfl rfl (lookO_spec rfl) rfl rfl rfl ?_ | refine w_un rfl rfl (lookO_spec rfl) rfl rfl ?_) | ((with_reducible refine w_drw ?_); first | refine rx_q tbOk rfl rfl rfl rfl ?_ | refine rx_e tbOk rfl rfl rfl rfl rfl ?_ | refine rx_yes tbOk rfl rfl rfl rfl rfl rfl ?_ | refine x_no rfl rfl (lookO_spec rfl) rfl rfl rfl ?_ | refine x_un rfl rfl (lookO_spec rfl) rfl rfl ?_) | ((first | refine' w_q rfl rfl ?xa rfl ?_ | refine' v_q rfl rfl ?xa rfl ?_ | refine' w_yes rfl rfl (lookO_spec rfl) rfl ?xa rfl ?_ | refine' v_yes rfl rfl (lookO_spec rfl) rfl ?xa rfl ?_); case xa => first | exact k_index tbOk rfl rfl rfl rfl (by omega) (by exact ints_atI (by omega) (by omega)) | exact k_indexO tbOk rfl rfl rfl rfl (by omega) (by omega) | exact k_loadI tbOk rfl rfl rfl rfl (by rw [hT1]; omega)) | ((first | refine' w_e rfl ?xa ?xb ?xc ?xe ?_ | refine' v_e rfl ?xa ?xb ?xc ?xe ?_); (case xa => exact e_storeS tbOk rfl rfl rfl rfl rfl rfl rfl rfl (by rw [hT0]; omega)); (case xb => rfl); (case xc => rfl); (case xe => rfl); try dsimp only [P0.d, Res.d, List.map_cons, List.map_nil, List.set_cons_zero, List.set_cons_succ, Nat.reduceAdd]) | ((first | refine aw_ways rfl ?_ ?_ | refine r_split rfl rfl rfl ?_ ?_) <;> intro hg_ <;> fail_if_success (exact Bool.noConfusion hg_)) <;> (try simp only [prn] at hg_) <;> (try first | contradiction | (exfalso; omega)))
              all_goals first
                | (exfalso; omega)
                | exact ⟨u + 1, by omega, by (refine weak_ren [(100, 100), (101, 101), (102, 102)] rfl ?_ ?_ <;> repeat' (first | exact trivial | refine subR_cons rfl ?_ ?_ | refine subHR_cons rfl ?_ ?_ | rfl | (refine d_int ?_; (first | rfl | omega | (rw [IntWalk.i64_in _ (by omega)] <;> omega) | (simp; done) | (simp; omega))) | (refine d_bool ?_; (first | (simp_all; done) | (rw [Bool.eq_iff_iff]; simp_all; done) | (rw [Bool.eq_iff_iff]; simp_all; omega) | (rw [Bool.eq_iff_iff]; simp; omega))) | exact d_int hwu | exact ob_sl rfl (congrArg ints hO4) | exact ob_sl rfl (by rw [hwn]; exact hS4))), by omega⟩
                | trace_state
            · rw [if_neg hd1] at hOat hO3 hin hgo2 ⊢
              have hO4 := hfinO _ hO3
              have hS4 := hSn2 hd1
              clear hfinO hSnx hS3 hSn2 hO3 hf
              have hOp : (tab v (fun i => if i < (u : Int) then oFd D PF ((n + 1 : Nat) : Int) i else if i = (u : Int) then -1 else oFd D PF (n : Int) i)).getD (0 + ((u : Nat) : Int).toNat) 0 < 0 := by rw [hOat]; omega
              repeat' (first | (with_reducible first | refine aw_seq ?_ | refine thn_normal ?_ | refine thn_ret ?_ | refine thn_exit ?_ | refine blk_normal ?_ | refine blk_ret ?_ | refine blk_hit ?_ | refine blk_miss rfl ?_ | refine aw_block ?_ | refine aw_ret ?_ | refine aw_skip ?_ | refine aw_exit ?_ | refine w_nil ?_ | refine x_nil (by kernel_rfl) ?_) | refine aw_region ?_ | refine aw_region_draw (by kernel_rfl) ?_ | refine aw_yes rfl ?_ | refine aw_no rfl ?_ | ((with_reducible refine w_seq ?_); first | refine r_q tbOk rfl rfl rfl rfl ?_ | refine r_e tbOk rfl rfl rfl rfl rfl ?_ | refine r_yes tbOk rfl rfl rfl rfl rfl rfl ?_ | refine w_no rfl rfl (lookO_spec rfl) rfl rfl rfl ?_ | refine w_un rfl rfl (lookO_spec rfl) rfl rfl ?_) | ((with_reducible refine w_drw ?_); first | refine rx_q tbOk rfl rfl rfl rfl ?_ | refine rx_e tbOk rfl rfl rfl rfl rfl ?_ | refine rx_yes tbOk rfl rfl rfl rfl rfl rfl ?_ | refine x_no rfl rfl (lookO_spec rfl) rfl rfl rfl ?_ | refine x_un rfl rfl (lookO_spec rfl) rfl rfl ?_) | ((first | refine' w_q rfl rfl ?xa rfl ?_ | refine' v_q rfl rfl ?xa rfl ?_ | refine' w_yes rfl rfl (lookO_spec rfl) rfl ?xa rfl ?_ | refine' v_yes rfl rfl (lookO_spec rfl) rfl ?xa rfl ?_); case xa => first | exact k_index tbOk rfl rfl rfl rfl (by omega) (by exact ints_atI (by omega) (by omega)) | exact k_indexO tbOk rfl rfl rfl rfl (by omega) (by omega) | exact k_loadI tbOk rfl rfl rfl rfl (by rw [hT1]; omega)) | ((first | refine' w_e rfl ?xa ?xb ?xc ?xe ?_ | refine' v_e rfl ?xa ?xb ?xc ?xe ?_); (case xa => exact e_storeS tbOk rfl rfl rfl rfl rfl rfl rfl rfl (by rw [hT0]; omega)); (case xb => rfl); (case xc => rfl); (case xe => rfl); try dsimp only [P0.d, Res.d, List.map_cons, List.map_nil, List.set_cons_zero, List.set_cons_succ, Nat.reduceAdd]) | ((first | refine aw_ways rfl ?_ ?_ | refine r_split rfl rfl rfl ?_ ?_) <;> intro hg_ <;> fail_if_success (exact Bool.noConfusion hg_)) <;> (try simp only [prn] at hg_) <;> (try first | contradiction | (exfalso; omega)))
              all_goals first
                | (exfalso; omega)
                | exact ⟨u + 1, by omega, by (refine weak_ren [(100, 100), (101, 101), (102, 102)] rfl ?_ ?_ <;> repeat' (first | exact trivial | refine subR_cons rfl ?_ ?_ | refine subHR_cons rfl ?_ ?_ | rfl | (refine d_int ?_; (first | rfl | omega | (rw [IntWalk.i64_in _ (by omega)] <;> omega) | (simp; done) | (simp; omega))) | (refine d_bool ?_; (first | (simp_all; done) | (rw [Bool.eq_iff_iff]; simp_all; done) | (rw [Bool.eq_iff_iff]; simp_all; omega) | (rw [Bool.eq_iff_iff]; simp; omega))) | exact d_int hwu | exact ob_sl rfl (congrArg ints hO4) | exact ob_sl rfl (congrArg ints hS4))), by omega⟩
                | trace_state
      · obtain rfl : u = v := by omega
        have hS5 : tab u (fun i => if i < (u : Int) then sFd D ((n + 1 : Nat) : Int) i else sFd D (n : Int) i) = tab u (sFd D ((n + 1 : Nat) : Int)) := tab_congr fun i _ h1 => by rw [if_pos h1]
        have hO5 : tab u (fun i => if i < (u : Int) then oFd D PF ((n + 1 : Nat) : Int) i else oFd D PF (n : Int) i) = tab u (oFd D PF ((n + 1 : Nat) : Int)) := tab_congr fun i _ h1 => by rw [if_pos h1]
        rw [hS5, hO5]
        clear hfm hPr hPp hWin KN hD0
        repeat' (first | (with_reducible first | refine aw_seq ?_ | refine thn_normal ?_ | refine thn_ret ?_ | refine thn_exit ?_ | refine blk_normal ?_ | refine blk_ret ?_ | refine blk_hit ?_ | refine blk_miss rfl ?_ | refine aw_block ?_ | refine aw_ret ?_ | refine aw_skip ?_ | refine aw_exit ?_ | refine w_nil ?_ | refine x_nil (by kernel_rfl) ?_) | refine aw_region ?_ | refine aw_region_draw (by kernel_rfl) ?_ | refine aw_yes rfl ?_ | refine aw_no rfl ?_ | ((with_reducible refine w_seq ?_); first | refine r_q tbOk rfl rfl rfl rfl ?_ | refine r_e tbOk rfl rfl rfl rfl rfl ?_ | refine r_yes tbOk rfl rfl rfl rfl rfl rfl ?_ | refine w_no rfl rfl (lookO_spec rfl) rfl rfl rfl ?_ | refine w_un rfl rfl (lookO_spec rfl) rfl rfl ?_) | ((with_reducible refine w_drw ?_); first | refine rx_q tbOk rfl rfl rfl rfl ?_ | refine rx_e tbOk rfl rfl rfl rfl rfl ?_ | refine rx_yes tbOk rfl rfl rfl rfl rfl rfl ?_ | refine x_no rfl rfl (lookO_spec rfl) rfl rfl rfl ?_ | refine x_un rfl rfl (lookO_spec rfl) rfl rfl ?_) | ((first | refine aw_ways rfl ?_ ?_ | refine r_split rfl rfl rfl ?_ ?_) <;> intro hg_ <;> fail_if_success (exact Bool.noConfusion hg_)) <;> (try simp only [prn] at hg_) <;> (try first | contradiction | (exfalso; omega)))
        all_goals first
          | exact ⟨n + 1, by omega, by (refine weak_ren [(100, 100), (101, 101), (102, 102)] rfl ?_ ?_ <;> repeat' (first | exact trivial | refine subR_cons rfl ?_ ?_ | refine subHR_cons rfl ?_ ?_ | rfl | (refine d_int ?_; (first | rfl | omega | (rw [IntWalk.i64_in _ (by omega)] <;> omega) | (simp; done) | (simp; omega))) | (refine d_bool ?_; (first | (simp_all; done) | (rw [Bool.eq_iff_iff]; simp_all; done) | (rw [Bool.eq_iff_iff]; simp_all; omega) | (rw [Bool.eq_iff_iff]; simp; omega))) | exact d_int hwn)), by omega⟩
          | trace_state
    · obtain rfl : n = v := by omega
      have hO6 : tab n (oFd D PF (n : Int)) = tab n PF := tab_congr fun i h0 h1 => by
        have := hD0 i h0 h1
        unfold oFd
        by_cases h : 1 ≤ D i
        · rw [if_pos ⟨h, by omega⟩]
        · rw [if_neg (by omega), hPr i h0 h1 (by omega)]
      rw [hO6]
      clear hfm hPr hPp hWin KN hD0
      have hfl := (hT0 PF).symm
      repeat' (first | (with_reducible first | refine aw_seq ?_ | refine thn_normal ?_ | refine thn_ret ?_ | refine thn_exit ?_ | refine blk_normal ?_ | refine blk_ret ?_ | refine blk_hit ?_ | refine blk_miss rfl ?_ | refine aw_block ?_ | refine aw_ret ?_ | refine aw_skip ?_ | refine aw_exit ?_ | refine w_nil ?_ | refine x_nil (by kernel_rfl) ?_) | refine aw_region ?_ | refine aw_region_draw (by kernel_rfl) ?_ | refine aw_yes rfl ?_ | refine aw_no rfl ?_ | ((with_reducible refine w_seq ?_); first | refine r_q tbOk rfl rfl rfl rfl ?_ | refine r_e tbOk rfl rfl rfl rfl rfl ?_ | refine r_yes tbOk rfl rfl rfl rfl rfl rfl ?_ | refine w_no rfl rfl (lookO_spec rfl) rfl rfl rfl ?_ | refine w_un rfl rfl (lookO_spec rfl) rfl rfl ?_) | ((with_reducible refine w_drw ?_); first | refine rx_q tbOk rfl rfl rfl rfl ?_ | refine rx_e tbOk rfl rfl rfl rfl rfl ?_ | refine rx_yes tbOk rfl rfl rfl rfl rfl rfl ?_ | refine x_no rfl rfl (lookO_spec rfl) rfl rfl rfl ?_ | refine x_un rfl rfl (lookO_spec rfl) rfl rfl ?_) | ((first | refine aw_ways rfl ?_ ?_ | refine r_split rfl rfl rfl ?_ ?_) <;> intro hg_ <;> fail_if_success (exact Bool.noConfusion hg_)) <;> (try simp only [prn] at hg_) <;> (try first | contradiction | (exfalso; omega)))
      all_goals first
        | exact ret_own rfl rfl hfl
        | trace_state
end Go.Proofs.YtfdaoepbdolgiaaDoor.Abs
