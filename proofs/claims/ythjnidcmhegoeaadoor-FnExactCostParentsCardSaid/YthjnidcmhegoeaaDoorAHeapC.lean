/- Heaps by states: up and down, Push and Pop of container/heap. No statement of the seat is proved here. -/
import Derived.Test.YthjnidcmhegoeaaDoorTy
import Derived.Lib.Hide
import Derived.Test.YthjnidcmhegoeaaDoorAHeapB
set_option linter.unusedSimpArgs false
set_option linter.unusedVariables false
namespace Go.Proofs.YthjnidcmhegoeaaDoor.Abs
open Go.RowKit
open R (val row ref)

def hpH (n : Nat) (q : List (Int × Int)) : List (Nat × Ob) := [(1000000000, .var 126 [.own 1000000001 0 n 2]), (1000000001, .sl 124 2 true (rQ q))]
theorem asA_cellH {H : Nat → Option Ob} {k n sz : Nat} {E : TypeId} {els : List P0} {new : Bool} (hk : H k = some (.sl E sz new els)) (hn : n = els.length) : AsArg H (.one (.own k 0 n sz)) (.one (row false sz els)) := by
  have h2 := asA_own (ev := fun _ => .one (.own k 0 n sz)) (x := .tmp 0) rfl hk (j := 0) (n := n) (by omega)
  rwa [List.drop_zero, List.take_of_length_le (by omega)] at h2
theorem k_divE {P : Program} {l : List (Nat × D)} {h : List (Nat × Ob)} {o : Oper} {n n' : Bool} {k : IntKind} {p q r : Int} {t t' : TypeId} {x y : Operand} (ho : o.op = .binOp .quo t x y t') (hx : evO l x = some (.one (.r n (R.val (.int k p))))) (hy : evO l y = some (.one (.r n' (R.val (.int k q))))) (hq : q ≠ 0) (hr : k.wrap (p.tdiv q) = r) : Loc P (lookH h) (evD (look l)) o (.one (.r true (R.val (.int k r)))) := hr ▸ k_div ho hx hy hq
theorem T_heap : tyOf Tryd.prog 126 = some (false, 1) := by (with_reducible first | exact ty2 | exact ty3 | exact ty4 | exact ty5 | exact ty9 | exact ty17 | exact ty19 | exact ty20 | exact ty23 | exact ty25 | exact ty27 | exact ty29 | exact ty32 | exact ty40 | exact ty42 | exact ty44 | exact ty46 | exact ty48 | exact ty63 | exact ty65 | exact ty67 | exact ty70 | exact ty74 | exact ty85 | exact ty89 | exact ty91 | exact ty92 | exact ty93 | exact ty104 | exact ty106 | exact ty107 | exact ty108 | exact ty112 | exact ty115 | exact ty120 | exact ty122 | exact ty124 | exact ty126 | exact ty131 | exact ty134 | exact ty137 | exact ty144 | exact ty154 | exact ty155 | exact ty161 | exact ty164 | exact ty165 | exact ty168)
theorem half_in (j : Nat) (h : j ≤ 1000) : IntKind.i64.wrap ((IntKind.i64.wrap ((j : Int) - 1)).tdiv 2) = (((j - 1) / 2 : Nat) : Int) := by
  cases j with
  | zero => decide
  | succ k =>
    rw [IntWalk.i64_in (((k + 1 : Nat) : Int) - 1) (by omega), Int.tdiv_eq_ediv_of_nonneg (by omega), IntWalk.i64_in _ (by omega)]
    omega
set_option maxRecDepth 100000 in
set_option maxHeartbeats 8000000 in
theorem f_up (q : List (Int × Int)) (n j : Nat) (hn : q.length = n) (hj : j < n) (hl : n ≤ 1000) : FnS Tryd.prog 102 [.one (.clo (ifP 122) [(1000000000, 0)]), .one (.r false (int j))] (hpH n q) (.tup true []) (hpH n (upH q j)) := by
  have hT := T_heap
  unfold hpH
  refine fnS_of (l := []) Tryd.func102 (by kernel_rfl) rfl Tryd.ntmps102 rfl rfl ?_; simp only [dEnv, Nat.reduceAdd]
  repeat' (first | (with_reducible first | refine aw_seq ?_ | refine thn_normal ?_ | refine thn_ret ?_ | refine thn_exit ?_ | refine blk_normal ?_ | refine blk_ret ?_ | refine blk_hit ?_ | refine blk_miss rfl ?_ | refine aw_block ?_ | refine aw_ret ?_ | refine aw_skip ?_ | refine aw_exit ?_ | refine w_nil ?_ | refine x_nil (by kernel_rfl) ?_) | refine aw_region ?_ | refine aw_region_draw (by kernel_rfl) ?_ | refine aw_yes rfl ?_ | refine aw_no rfl ?_ | ((with_reducible refine w_seq ?_); first | refine r_q tbOk rfl rfl rfl rfl ?_ | refine r_e tbOk rfl rfl rfl rfl rfl ?_ | refine r_yes tbOk rfl rfl rfl rfl rfl rfl ?_ | refine w_no rfl rfl (lookO_spec rfl) rfl rfl rfl ?_ | refine w_un rfl rfl (lookO_spec rfl) rfl rfl ?_) | ((with_reducible refine w_drw ?_); first | refine rx_q tbOk rfl rfl rfl rfl ?_ | refine rx_e tbOk rfl rfl rfl rfl rfl ?_ | refine rx_yes tbOk rfl rfl rfl rfl rfl rfl ?_ | refine x_no rfl rfl (lookO_spec rfl) rfl rfl rfl ?_ | refine x_un rfl rfl (lookO_spec rfl) rfl rfl ?_) | ((first | refine aw_ways rfl ?_ ?_ | refine r_split rfl rfl rfl ?_ ?_) <;> intro hg_ <;> fail_if_success (exact Bool.noConfusion hg_)) <;> (try simp only [prn] at hg_) <;> (try first | contradiction | (exfalso; omega)))
  refine aw_loopI (fun x : List (Int × Int) × Nat × Bool => x.1.length = n ∧ x.2.1 < n ∧ upH x.1 x.2.1 = upH q j) (fun x => mkS 23 [(1, .one (.r x.2.2 (int x.2.1))), (0, .one (.clo (ifP 122) [(1000000000, 0)]))] (hpH n x.1)) (fun x => x.2.1) (q, j, false) ⟨hn, hj, rfl⟩ (by unfold hpH; (refine weak_ren [] rfl ?_ ?_ <;> repeat' (first | exact trivial | refine subR_cons rfl ?_ ?_ | refine subHR_cons rfl ?_ ?_ | rfl | (refine d_int ?_; (first | rfl | omega | (rw [IntWalk.i64_in _ (by omega)] <;> omega) | (simp; done) | (simp; omega))) | (refine d_bool ?_; (first | (simp_all; done) | (rw [Bool.eq_iff_iff]; simp_all; done) | (rw [Bool.eq_iff_iff]; simp_all; omega) | (rw [Bool.eq_iff_iff]; simp; omega)))))) ?_
  rintro ⟨p, k, fl⟩ ⟨h1, h2, h3⟩
  dsimp only at h1 h2 h3
  unfold hpH
  dsimp only
  have hd := half_in k (by omega)
  have hlen := rQ_len p
  have hik : (k - 1) / 2 ≤ k := by omega
  have KL := f_less p k ((k - 1) / 2) (by omega) (by omega)
  have KS := f_swap p n ((k - 1) / 2) k h1 (by omega) h2
  rw [upH] at h3
  have hsl := swp_len p ((k - 1) / 2) k
  generalize swp p ((k - 1) / 2) k = p' at *
  generalize (k - 1) / 2 = i at *
  generalize ltR (atQ p k) (atQ p i) = b at *
  repeat' (first | (with_reducible first | refine aw_seq ?_ | refine thn_normal ?_ | refine thn_ret ?_ | refine thn_exit ?_ | refine blk_normal ?_ | refine blk_ret ?_ | refine blk_hit ?_ | refine blk_miss rfl ?_ | refine aw_block ?_ | refine aw_ret ?_ | refine aw_skip ?_ | refine aw_exit ?_ | refine w_nil ?_ | refine x_nil (by kernel_rfl) ?_) | refine aw_region ?_ | refine aw_region_draw (by kernel_rfl) ?_ | refine aw_yes rfl ?_ | refine aw_no rfl ?_ | ((with_reducible refine w_seq ?_); first | refine r_q tbOk rfl rfl rfl rfl ?_ | refine r_e tbOk rfl rfl rfl rfl rfl ?_ | refine r_yes tbOk rfl rfl rfl rfl rfl rfl ?_ | refine w_no rfl rfl (lookO_spec rfl) rfl rfl rfl ?_ | refine w_un rfl rfl (lookO_spec rfl) rfl rfl ?_) | ((with_reducible refine w_drw ?_); first | refine rx_q tbOk rfl rfl rfl rfl ?_ | refine rx_e tbOk rfl rfl rfl rfl rfl ?_ | refine rx_yes tbOk rfl rfl rfl rfl rfl rfl ?_ | refine x_no rfl rfl (lookO_spec rfl) rfl rfl rfl ?_ | refine x_un rfl rfl (lookO_spec rfl) rfl rfl ?_) | ((first | refine' w_q rfl rfl ?xa rfl ?_ | refine' v_q rfl rfl ?xa rfl ?_ | refine' w_yes rfl rfl (lookO_spec rfl) rfl ?xa rfl ?_ | refine' v_yes rfl rfl (lookO_spec rfl) rfl ?xa rfl ?_); case xa => first | exact k_divE rfl rfl rfl (by decide) hd | exact k_invV KL rfl rfl rfl (asA_cellH (lookHO_spec rfl) (by rw [hlen, h1])) hT m_less ⟨asA_r (evO_spec rfl), asA_r (evO_spec rfl), trivial⟩) | ((first | refine' w_e rfl ?xa ?xb ?xc ?xe ?_ | refine' v_e rfl ?xa ?xb ?xc ?xe ?_); (case xa => exact e_invV [(1000000000, 1000000001)] KS rfl rfl rfl (asD_ren rfl) hT m_swap ⟨by rw [evO_spec rfl]; exact asD_r rfl, by rw [evO_spec rfl]; exact asD_r rfl, trivial⟩ (by (repeat' (first | exact trivial | refine subHR_cons rfl ?_ ?_ | rfl))) rfl); (case xb => rfl); (case xc => rfl); (case xe => rfl); try dsimp only [P0.d, Res.d, List.map_cons, List.map_nil, List.set_cons_zero, List.set_cons_succ, Nat.reduceAdd]) | ((first | refine aw_ways rfl ?_ ?_ | refine r_split rfl rfl rfl ?_ ?_) <;> intro hg_ <;> fail_if_success (exact Bool.noConfusion hg_)) <;> (try simp only [prn] at hg_) <;> (try first | contradiction | (exfalso; omega)))
  all_goals first
    | (have hE : p = upH q j := by
         rw [← h3, dif_pos (by first | (left; omega) | (right; simp_all))]
       exact end_D [] rfl (by (repeat' (first | exact trivial | refine subHR_cons rfl ?_ ?_ | rfl | exact ob_sl rfl (by rw [hE])))) ⟨_, rfl, imp_refl rfl⟩)
    | (have hne : i ≠ k := by intro hc; simp_all
       have hE : upH p' i = upH q j := by
         rw [← h3, dif_neg (by rintro (c | c) <;> simp_all)]
       refine ⟨(p', i, true), ⟨by rw [hsl]; exact h1, by dsimp only; omega, hE⟩, by dsimp only; (refine weak_ren [] rfl ?_ ?_ <;> repeat' (first | exact trivial | refine subR_cons rfl ?_ ?_ | refine subHR_cons rfl ?_ ?_ | rfl | (refine d_int ?_; (first | rfl | omega | (rw [IntWalk.i64_in _ (by omega)] <;> omega) | (simp; done) | (simp; omega))) | (refine d_bool ?_; (first | (simp_all; done) | (rw [Bool.eq_iff_iff]; simp_all; done) | (rw [Bool.eq_iff_iff]; simp_all; omega) | (rw [Bool.eq_iff_iff]; simp; omega))))), by dsimp only; omega⟩)
    | trace_state
set_option maxRecDepth 100000 in
set_option maxHeartbeats 8000000 in
theorem f_down (q : List (Int × Int)) (n i0 n0 : Nat) (hn : q.length = n) (hi0 : i0 < n) (hn0 : n0 ≤ n) (hl : n ≤ 1000) : FnS Tryd.prog 101 [.one (.clo (ifP 122) [(1000000000, 0)]), .one (.r false (int i0)), .one (.r false (int n0))] (hpH n q) .any (hpH n (downH q i0 n0)) := by
  have hT := T_heap
  unfold hpH
  refine fnS_of (l := [.tmp 6]) Tryd.func101 (by kernel_rfl) rfl Tryd.ntmps101 rfl rfl ?_; simp only [dEnv, Nat.reduceAdd]
  repeat' (first | (with_reducible first | refine aw_seq ?_ | refine thn_normal ?_ | refine thn_ret ?_ | refine thn_exit ?_ | refine blk_normal ?_ | refine blk_ret ?_ | refine blk_hit ?_ | refine blk_miss rfl ?_ | refine aw_block ?_ | refine aw_ret ?_ | refine aw_skip ?_ | refine aw_exit ?_ | refine w_nil ?_ | refine x_nil (by kernel_rfl) ?_) | refine aw_region ?_ | refine aw_region_draw (by kernel_rfl) ?_ | refine aw_yes rfl ?_ | refine aw_no rfl ?_ | ((with_reducible refine w_seq ?_); first | refine r_q tbOk rfl rfl rfl rfl ?_ | refine r_e tbOk rfl rfl rfl rfl rfl ?_ | refine r_yes tbOk rfl rfl rfl rfl rfl rfl ?_ | refine w_no rfl rfl (lookO_spec rfl) rfl rfl rfl ?_ | refine w_un rfl rfl (lookO_spec rfl) rfl rfl ?_) | ((with_reducible refine w_drw ?_); first | refine rx_q tbOk rfl rfl rfl rfl ?_ | refine rx_e tbOk rfl rfl rfl rfl rfl ?_ | refine rx_yes tbOk rfl rfl rfl rfl rfl rfl ?_ | refine x_no rfl rfl (lookO_spec rfl) rfl rfl rfl ?_ | refine x_un rfl rfl (lookO_spec rfl) rfl rfl ?_) | ((first | refine aw_ways rfl ?_ ?_ | refine r_split rfl rfl rfl ?_ ?_) <;> intro hg_ <;> fail_if_success (exact Bool.noConfusion hg_)) <;> (try simp only [prn] at hg_) <;> (try first | contradiction | (exfalso; omega)))
  refine aw_loopI (fun x : List (Int × Int) × Nat × Bool => x.1.length = n ∧ x.2.1 < n ∧ downH x.1 x.2.1 n0 = downH q i0 n0) (fun x => mkS 48 [(7, .one (.r x.2.2 (int x.2.1))), (2, .one (.r false (int n0))), (1, .one (.r false (int i0))), (0, .one (.clo (ifP 122) [(1000000000, 0)]))] (hpH n x.1)) (fun x => n - x.2.1) (q, i0, false) ⟨hn, hi0, rfl⟩ (by unfold hpH; (refine weak_ren [] rfl ?_ ?_ <;> repeat' (first | exact trivial | refine subR_cons rfl ?_ ?_ | refine subHR_cons rfl ?_ ?_ | rfl | (refine d_int ?_; (first | rfl | omega | (rw [IntWalk.i64_in _ (by omega)] <;> omega) | (simp; done) | (simp; omega))) | (refine d_bool ?_; (first | (simp_all; done) | (rw [Bool.eq_iff_iff]; simp_all; done) | (rw [Bool.eq_iff_iff]; simp_all; omega) | (rw [Bool.eq_iff_iff]; simp; omega)))))) ?_
  rintro ⟨p, i, fl⟩ ⟨h1, h2, h3⟩
  dsimp only at h1 h2 h3
  unfold hpH
  dsimp only
  have hlen := rQ_len p
  have w1 : IntKind.i64.wrap (IntKind.i64.wrap (2 * (i : Int)) + 1) = ((2 * i + 1 : Nat) : Int) := by rw [IntWalk.i64_in (2 * (i : Int)) (by omega), IntWalk.i64_in _ (by omega)]; omega
  have w2 : IntKind.i64.wrap (IntKind.i64.wrap (IntKind.i64.wrap (2 * (i : Int)) + 1) + 1) = ((2 * i + 2 : Nat) : Int) := by rw [w1, IntWalk.i64_in _ (by omega)]; omega
  rw [downH] at h3
  by_cases hx : n0 ≤ 2 * i + 1
  · have hE : p = downH q i0 n0 := by rw [← h3, dif_pos (.inl hx)]
    clear h3
    repeat' (first | (with_reducible first | refine aw_seq ?_ | refine thn_normal ?_ | refine thn_ret ?_ | refine thn_exit ?_ | refine blk_normal ?_ | refine blk_ret ?_ | refine blk_hit ?_ | refine blk_miss rfl ?_ | refine aw_block ?_ | refine aw_ret ?_ | refine aw_skip ?_ | refine aw_exit ?_ | refine w_nil ?_ | refine x_nil (by kernel_rfl) ?_) | refine aw_region ?_ | refine aw_region_draw (by kernel_rfl) ?_ | refine aw_yes rfl ?_ | refine aw_no rfl ?_ | ((with_reducible refine w_seq ?_); first | refine r_q tbOk rfl rfl rfl rfl ?_ | refine r_e tbOk rfl rfl rfl rfl rfl ?_ | refine r_yes tbOk rfl rfl rfl rfl rfl rfl ?_ | refine w_no rfl rfl (lookO_spec rfl) rfl rfl rfl ?_ | refine w_un rfl rfl (lookO_spec rfl) rfl rfl ?_) | ((with_reducible refine w_drw ?_); first | refine rx_q tbOk rfl rfl rfl rfl ?_ | refine rx_e tbOk rfl rfl rfl rfl rfl ?_ | refine rx_yes tbOk rfl rfl rfl rfl rfl rfl ?_ | refine x_no rfl rfl (lookO_spec rfl) rfl rfl rfl ?_ | refine x_un rfl rfl (lookO_spec rfl) rfl rfl ?_) | ((first | refine aw_ways rfl ?_ ?_ | refine r_split rfl rfl rfl ?_ ?_) <;> intro hg_ <;> fail_if_success (exact Bool.noConfusion hg_)) <;> (try simp only [prn] at hg_) <;> (try first | contradiction | (exfalso; omega)))
    all_goals first
      | (exfalso; omega)
      | exact ret_D [] rfl (by (repeat' (first | exact trivial | refine subHR_cons rfl ?_ ?_ | rfl | exact ob_sl rfl (by rw [hE])))) (retD_tmp rfl (fun _ _ _ _ _ => trivial))
      | trace_state
  · have hin : 2 * i + 1 < n0 := by omega
    obtain ⟨c1, c2, c3⟩ := chd_lt (q := p) hin
    have KA : 2 * i + 2 < n0 → Fn Tryd.prog 138 [.one (row false 2 (rQ p)), iP (IntKind.i64.wrap (IntKind.i64.wrap (IntKind.i64.wrap (2 * (i : Int)) + 1) + 1)), iP (IntKind.i64.wrap (IntKind.i64.wrap (2 * (i : Int)) + 1))] (.v (.one (bool (ltR (atQ p (2 * i + 2)) (atQ p (2 * i + 1)))))) := fun h => by
      rw [w2, w1]; exact f_less p (2 * i + 2) (2 * i + 1) (by omega) (by omega)
    have hcd : chd p i n0 = if 2 * i + 2 < n0 ∧ ltR (atQ p (2 * i + 2)) (atQ p (2 * i + 1)) = true then 2 * i + 2 else 2 * i + 1 := rfl
    have KB := f_less p (chd p i n0) i (by omega) (by omega)
    have KS := f_swap p n i (chd p i n0) h1 h2 (by omega)
    have hsl := swp_len p i (chd p i n0)
    generalize swp p i (chd p i n0) = p' at *
    generalize ltR (atQ p (chd p i n0)) (atQ p i) = b2 at *
    generalize ltR (atQ p (2 * i + 2)) (atQ p (2 * i + 1)) = b1 at *
    generalize chd p i n0 = c at *
    by_cases hy : 2 * i + 2 < n0
    · have KA := KA hy
      cases b1 with
      | true =>
        rw [if_pos ⟨hy, rfl⟩] at hcd
        rw [hcd, ← w2] at KB KS
        rw [hcd] at h3 c1 c2
        repeat' (first | (with_reducible first | refine aw_seq ?_ | refine thn_normal ?_ | refine thn_ret ?_ | refine thn_exit ?_ | refine blk_normal ?_ | refine blk_ret ?_ | refine blk_hit ?_ | refine blk_miss rfl ?_ | refine aw_block ?_ | refine aw_ret ?_ | refine aw_skip ?_ | refine aw_exit ?_ | refine w_nil ?_ | refine x_nil (by kernel_rfl) ?_) | refine aw_region ?_ | refine aw_region_draw (by kernel_rfl) ?_ | refine aw_yes rfl ?_ | refine aw_no rfl ?_ | ((with_reducible refine w_seq ?_); first | refine r_q tbOk rfl rfl rfl rfl ?_ | refine r_e tbOk rfl rfl rfl rfl rfl ?_ | refine r_yes tbOk rfl rfl rfl rfl rfl rfl ?_ | refine w_no rfl rfl (lookO_spec rfl) rfl rfl rfl ?_ | refine w_un rfl rfl (lookO_spec rfl) rfl rfl ?_) | ((with_reducible refine w_drw ?_); first | refine rx_q tbOk rfl rfl rfl rfl ?_ | refine rx_e tbOk rfl rfl rfl rfl rfl ?_ | refine rx_yes tbOk rfl rfl rfl rfl rfl rfl ?_ | refine x_no rfl rfl (lookO_spec rfl) rfl rfl rfl ?_ | refine x_un rfl rfl (lookO_spec rfl) rfl rfl ?_) | ((first | refine' w_q rfl rfl ?xa rfl ?_ | refine' v_q rfl rfl ?xa rfl ?_ | refine' w_yes rfl rfl (lookO_spec rfl) rfl ?xa rfl ?_ | refine' v_yes rfl rfl (lookO_spec rfl) rfl ?xa rfl ?_); case xa => first | exact k_invV KA rfl rfl rfl (asA_cellH (lookHO_spec rfl) (by rw [hlen, h1])) hT m_less ⟨asA_r (evO_spec rfl), asA_r (evO_spec rfl), trivial⟩ | exact k_invV KB rfl rfl rfl (asA_cellH (lookHO_spec rfl) (by rw [hlen, h1])) hT m_less ⟨asA_r (evO_spec rfl), asA_r (evO_spec rfl), trivial⟩) | ((first | refine' w_e rfl ?xa ?xb ?xc ?xe ?_ | refine' v_e rfl ?xa ?xb ?xc ?xe ?_); (case xa => exact e_invV [(1000000000, 1000000001)] KS rfl rfl rfl (asD_ren rfl) hT m_swap ⟨by rw [evO_spec rfl]; exact asD_r rfl, by rw [evO_spec rfl]; exact asD_r rfl, trivial⟩ (by (repeat' (first | exact trivial | refine subHR_cons rfl ?_ ?_ | rfl))) rfl); (case xb => rfl); (case xc => rfl); (case xe => rfl); try dsimp only [P0.d, Res.d, List.map_cons, List.map_nil, List.set_cons_zero, List.set_cons_succ, Nat.reduceAdd]) | ((first | refine aw_ways rfl ?_ ?_ | refine r_split rfl rfl rfl ?_ ?_) <;> intro hg_ <;> fail_if_success (exact Bool.noConfusion hg_)) <;> (try simp only [prn] at hg_) <;> (try first | contradiction | (exfalso; omega)))
        all_goals first
          | (exfalso; omega)
          | (exfalso; simp_all; done)
          | (have hb : b2 = false := by simp_all
             have hE : p = downH q i0 n0 := by rw [← h3, dif_pos (.inr hb)]
             exact ret_D [] rfl (by (repeat' (first | exact trivial | refine subHR_cons rfl ?_ ?_ | rfl | exact ob_sl rfl (by rw [hE])))) (retD_tmp rfl (fun _ _ _ _ _ => trivial)))
          | (have hb : b2 = true := by simp_all
             have hE : downH p' c n0 = downH q i0 n0 := by rw [← h3, dif_neg (by rintro (c4 | c4) <;> first | omega | (rw [hb] at c4; cases c4))]; rw [hcd]
             refine ⟨(p', c, true), ⟨by rw [hsl]; exact h1, by dsimp only; omega, hE⟩, by dsimp only; (refine weak_ren [] rfl ?_ ?_ <;> repeat' (first | exact trivial | refine subR_cons rfl ?_ ?_ | refine subHR_cons rfl ?_ ?_ | rfl | (refine d_int ?_; (first | rfl | omega | (rw [IntWalk.i64_in _ (by omega)] <;> omega) | (simp; done) | (simp; omega))) | (refine d_bool ?_; (first | (simp_all; done) | (rw [Bool.eq_iff_iff]; simp_all; done) | (rw [Bool.eq_iff_iff]; simp_all; omega) | (rw [Bool.eq_iff_iff]; simp; omega))) | exact d_int (by rw [hcd]; first | exact w1 | exact w2))), by dsimp only; omega⟩)
          | trace_state
      | false =>
        rw [if_neg (by simp)] at hcd
        rw [hcd, ← w1] at KB KS
        rw [hcd] at h3 c1 c2
        repeat' (first | (with_reducible first | refine aw_seq ?_ | refine thn_normal ?_ | refine thn_ret ?_ | refine thn_exit ?_ | refine blk_normal ?_ | refine blk_ret ?_ | refine blk_hit ?_ | refine blk_miss rfl ?_ | refine aw_block ?_ | refine aw_ret ?_ | refine aw_skip ?_ | refine aw_exit ?_ | refine w_nil ?_ | refine x_nil (by kernel_rfl) ?_) | refine aw_region ?_ | refine aw_region_draw (by kernel_rfl) ?_ | refine aw_yes rfl ?_ | refine aw_no rfl ?_ | ((with_reducible refine w_seq ?_); first | refine r_q tbOk rfl rfl rfl rfl ?_ | refine r_e tbOk rfl rfl rfl rfl rfl ?_ | refine r_yes tbOk rfl rfl rfl rfl rfl rfl ?_ | refine w_no rfl rfl (lookO_spec rfl) rfl rfl rfl ?_ | refine w_un rfl rfl (lookO_spec rfl) rfl rfl ?_) | ((with_reducible refine w_drw ?_); first | refine rx_q tbOk rfl rfl rfl rfl ?_ | refine rx_e tbOk rfl rfl rfl rfl rfl ?_ | refine rx_yes tbOk rfl rfl rfl rfl rfl rfl ?_ | refine x_no rfl rfl (lookO_spec rfl) rfl rfl rfl ?_ | refine x_un rfl rfl (lookO_spec rfl) rfl rfl ?_) | ((first | refine' w_q rfl rfl ?xa rfl ?_ | refine' v_q rfl rfl ?xa rfl ?_ | refine' w_yes rfl rfl (lookO_spec rfl) rfl ?xa rfl ?_ | refine' v_yes rfl rfl (lookO_spec rfl) rfl ?xa rfl ?_); case xa => first | exact k_invV KA rfl rfl rfl (asA_cellH (lookHO_spec rfl) (by rw [hlen, h1])) hT m_less ⟨asA_r (evO_spec rfl), asA_r (evO_spec rfl), trivial⟩ | exact k_invV KB rfl rfl rfl (asA_cellH (lookHO_spec rfl) (by rw [hlen, h1])) hT m_less ⟨asA_r (evO_spec rfl), asA_r (evO_spec rfl), trivial⟩) | ((first | refine' w_e rfl ?xa ?xb ?xc ?xe ?_ | refine' v_e rfl ?xa ?xb ?xc ?xe ?_); (case xa => exact e_invV [(1000000000, 1000000001)] KS rfl rfl rfl (asD_ren rfl) hT m_swap ⟨by rw [evO_spec rfl]; exact asD_r rfl, by rw [evO_spec rfl]; exact asD_r rfl, trivial⟩ (by (repeat' (first | exact trivial | refine subHR_cons rfl ?_ ?_ | rfl))) rfl); (case xb => rfl); (case xc => rfl); (case xe => rfl); try dsimp only [P0.d, Res.d, List.map_cons, List.map_nil, List.set_cons_zero, List.set_cons_succ, Nat.reduceAdd]) | ((first | refine aw_ways rfl ?_ ?_ | refine r_split rfl rfl rfl ?_ ?_) <;> intro hg_ <;> fail_if_success (exact Bool.noConfusion hg_)) <;> (try simp only [prn] at hg_) <;> (try first | contradiction | (exfalso; omega)))
        all_goals first
          | (exfalso; omega)
          | (exfalso; simp_all; done)
          | (have hb : b2 = false := by simp_all
             have hE : p = downH q i0 n0 := by rw [← h3, dif_pos (.inr hb)]
             exact ret_D [] rfl (by (repeat' (first | exact trivial | refine subHR_cons rfl ?_ ?_ | rfl | exact ob_sl rfl (by rw [hE])))) (retD_tmp rfl (fun _ _ _ _ _ => trivial)))
          | (have hb : b2 = true := by simp_all
             have hE : downH p' c n0 = downH q i0 n0 := by rw [← h3, dif_neg (by rintro (c4 | c4) <;> first | omega | (rw [hb] at c4; cases c4))]; rw [hcd]
             refine ⟨(p', c, true), ⟨by rw [hsl]; exact h1, by dsimp only; omega, hE⟩, by dsimp only; (refine weak_ren [] rfl ?_ ?_ <;> repeat' (first | exact trivial | refine subR_cons rfl ?_ ?_ | refine subHR_cons rfl ?_ ?_ | rfl | (refine d_int ?_; (first | rfl | omega | (rw [IntWalk.i64_in _ (by omega)] <;> omega) | (simp; done) | (simp; omega))) | (refine d_bool ?_; (first | (simp_all; done) | (rw [Bool.eq_iff_iff]; simp_all; done) | (rw [Bool.eq_iff_iff]; simp_all; omega) | (rw [Bool.eq_iff_iff]; simp; omega))) | exact d_int (by rw [hcd]; first | exact w1 | exact w2))), by dsimp only; omega⟩)
          | trace_state
    · rw [if_neg (fun h => hy h.1)] at hcd
      rw [hcd, ← w1] at KB KS
      rw [hcd] at h3 c1 c2
      repeat' (first | (with_reducible first | refine aw_seq ?_ | refine thn_normal ?_ | refine thn_ret ?_ | refine thn_exit ?_ | refine blk_normal ?_ | refine blk_ret ?_ | refine blk_hit ?_ | refine blk_miss rfl ?_ | refine aw_block ?_ | refine aw_ret ?_ | refine aw_skip ?_ | refine aw_exit ?_ | refine w_nil ?_ | refine x_nil (by kernel_rfl) ?_) | refine aw_region ?_ | refine aw_region_draw (by kernel_rfl) ?_ | refine aw_yes rfl ?_ | refine aw_no rfl ?_ | ((with_reducible refine w_seq ?_); first | refine r_q tbOk rfl rfl rfl rfl ?_ | refine r_e tbOk rfl rfl rfl rfl rfl ?_ | refine r_yes tbOk rfl rfl rfl rfl rfl rfl ?_ | refine w_no rfl rfl (lookO_spec rfl) rfl rfl rfl ?_ | refine w_un rfl rfl (lookO_spec rfl) rfl rfl ?_) | ((with_reducible refine w_drw ?_); first | refine rx_q tbOk rfl rfl rfl rfl ?_ | refine rx_e tbOk rfl rfl rfl rfl rfl ?_ | refine rx_yes tbOk rfl rfl rfl rfl rfl rfl ?_ | refine x_no rfl rfl (lookO_spec rfl) rfl rfl rfl ?_ | refine x_un rfl rfl (lookO_spec rfl) rfl rfl ?_) | ((first | refine' w_q rfl rfl ?xa rfl ?_ | refine' v_q rfl rfl ?xa rfl ?_ | refine' w_yes rfl rfl (lookO_spec rfl) rfl ?xa rfl ?_ | refine' v_yes rfl rfl (lookO_spec rfl) rfl ?xa rfl ?_); case xa => first | exact k_invV KA rfl rfl rfl (asA_cellH (lookHO_spec rfl) (by rw [hlen, h1])) hT m_less ⟨asA_r (evO_spec rfl), asA_r (evO_spec rfl), trivial⟩ | exact k_invV KB rfl rfl rfl (asA_cellH (lookHO_spec rfl) (by rw [hlen, h1])) hT m_less ⟨asA_r (evO_spec rfl), asA_r (evO_spec rfl), trivial⟩) | ((first | refine' w_e rfl ?xa ?xb ?xc ?xe ?_ | refine' v_e rfl ?xa ?xb ?xc ?xe ?_); (case xa => exact e_invV [(1000000000, 1000000001)] KS rfl rfl rfl (asD_ren rfl) hT m_swap ⟨by rw [evO_spec rfl]; exact asD_r rfl, by rw [evO_spec rfl]; exact asD_r rfl, trivial⟩ (by (repeat' (first | exact trivial | refine subHR_cons rfl ?_ ?_ | rfl))) rfl); (case xb => rfl); (case xc => rfl); (case xe => rfl); try dsimp only [P0.d, Res.d, List.map_cons, List.map_nil, List.set_cons_zero, List.set_cons_succ, Nat.reduceAdd]) | ((first | refine aw_ways rfl ?_ ?_ | refine r_split rfl rfl rfl ?_ ?_) <;> intro hg_ <;> fail_if_success (exact Bool.noConfusion hg_)) <;> (try simp only [prn] at hg_) <;> (try first | contradiction | (exfalso; omega)))
      all_goals first
        | (exfalso; omega)
        | (exfalso; simp_all; done)
        | (have hb : b2 = false := by simp_all
           have hE : p = downH q i0 n0 := by rw [← h3, dif_pos (.inr hb)]
           exact ret_D [] rfl (by (repeat' (first | exact trivial | refine subHR_cons rfl ?_ ?_ | rfl | exact ob_sl rfl (by rw [hE])))) (retD_tmp rfl (fun _ _ _ _ _ => trivial)))
        | (have hb : b2 = true := by simp_all
           have hE : downH p' c n0 = downH q i0 n0 := by rw [← h3, dif_neg (by rintro (c4 | c4) <;> first | omega | (rw [hb] at c4; cases c4))]; rw [hcd]
           refine ⟨(p', c, true), ⟨by rw [hsl]; exact h1, by dsimp only; omega, hE⟩, by dsimp only; (refine weak_ren [] rfl ?_ ?_ <;> repeat' (first | exact trivial | refine subR_cons rfl ?_ ?_ | refine subHR_cons rfl ?_ ?_ | rfl | (refine d_int ?_; (first | rfl | omega | (rw [IntWalk.i64_in _ (by omega)] <;> omega) | (simp; done) | (simp; omega))) | (refine d_bool ?_; (first | (simp_all; done) | (rw [Bool.eq_iff_iff]; simp_all; done) | (rw [Bool.eq_iff_iff]; simp_all; omega) | (rw [Bool.eq_iff_iff]; simp; omega))) | exact d_int (by rw [hcd]; first | exact w1 | exact w2))), by dsimp only; omega⟩)
        | trace_state
end Go.Proofs.YthjnidcmhegoeaaDoor.Abs
