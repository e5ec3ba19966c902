/- Heaps by states: the methods of reachedHeap. No statement of the seat is proved here. -/
import Derived.Test.YthjnidcmhegoeaaDoorGDij
import Derived.Test.YthjnidcmhegoeaaDoorTy
import Derived.Lib.Hide
import Derived.Test.YthjnidcmhegoeaaDoorAbsI
import Derived.Test.YthjnidcmhegoeaaDoorAExG
set_option linter.unusedSimpArgs false
set_option linter.unusedVariables false
namespace Go.Proofs.YthjnidcmhegoeaaDoor.Abs
open Go.RowKit
open R (val row ref)

def rqP (r : Int × Int) : P0 := .agg [int r.1, int r.2]
def rQ (q : List (Int × Int)) : List P0 := q.map rqP
theorem rQ_len (q : List (Int × Int)) : (rQ q).length = q.length := by unfold rQ; rw [List.length_map]
theorem rQ_at {q : List (Int × Int)} {i : Nat} (h : i < q.length) : (rQ q)[i]? = some (rqP (atQ q i)) := by
  unfold rQ atQ; rw [List.getElem?_map, List.getD_eq_getElem?_getD, List.getElem?_eq_getElem h]; rfl
theorem rQ_set (q : List (Int × Int)) (i : Nat) (r : Int × Int) : (rQ q).set i (rqP r) = rQ (q.set i r) := by unfold rQ; rw [List.map_set]
theorem rQ_app (q : List (Int × Int)) (r : Int × Int) : rQ q ++ [rqP r] = rQ (q ++ [r]) := by unfold rQ; rw [List.map_append]; rfl
theorem rQ_take (q : List (Int × Int)) (n : Nat) : (rQ q).take n = rQ (q.take n) := by unfold rQ; rw [List.map_take]
theorem m_less (w : World) (b : Addr) (v : Value) (h : (loadVar 126 b).run Tryd.prog w = .ok v w) : (method (Tryd.prog.types.size + Made.depth) 122 (.pointer (some b)) "Less").run Tryd.prog w = .ok (138, v) w := by
  have e : (method (Tryd.prog.types.size + Made.depth) 122 (.pointer (some b)) "Less").run Tryd.prog w = (do let u ← loadVar 126 b; pure (138, u) : Sem (FuncId × Value)).run Tryd.prog w := by kernel_rfl
  rw [e]; simp [h]
theorem m_swap (w : World) (b : Addr) (v : Value) (h : (loadVar 126 b).run Tryd.prog w = .ok v w) : (method (Tryd.prog.types.size + Made.depth) 122 (.pointer (some b)) "Swap").run Tryd.prog w = .ok (141, v) w := by
  have e : (method (Tryd.prog.types.size + Made.depth) 122 (.pointer (some b)) "Swap").run Tryd.prog w = (do let u ← loadVar 126 b; pure (141, u) : Sem (FuncId × Value)).run Tryd.prog w := by kernel_rfl
  rw [e]; simp [h]
theorem m_len (w : World) (b : Addr) (v : Value) (h : (loadVar 126 b).run Tryd.prog w = .ok v w) : (method (Tryd.prog.types.size + Made.depth) 122 (.pointer (some b)) "Len").run Tryd.prog w = .ok (88, v) w := by
  have e : (method (Tryd.prog.types.size + Made.depth) 122 (.pointer (some b)) "Len").run Tryd.prog w = (do let u ← loadVar 126 b; pure (88, u) : Sem (FuncId × Value)).run Tryd.prog w := by kernel_rfl
  rw [e]; simp [h]
theorem m_push (w : World) (b : Addr) : (method (Tryd.prog.types.size + Made.depth) 122 (.pointer (some b)) "Push").run Tryd.prog w = .ok (140, .pointer (some b)) w := by kernel_rfl
theorem m_pop (w : World) (b : Addr) : (method (Tryd.prog.types.size + Made.depth) 122 (.pointer (some b)) "Pop").run Tryd.prog w = .ok (139, .pointer (some b)) w := by kernel_rfl
set_option maxRecDepth 100000 in
set_option maxHeartbeats 4000000 in
theorem f_less (q : List (Int × Int)) (i j : Nat) (hi : i < q.length) (hj : j < q.length) : Fn Tryd.prog 138 [.one (row false 2 (rQ q)), iP i, iP j] (.v (.one (bool (ltR (atQ q i) (atQ q j))))) := by
  have hlen := rQ_len q
  have xi : (rQ q)[((i : Nat) : Int).toNat]? = some (rqP (atQ q i)) := by rw [Int.toNat_natCast]; exact rQ_at hi
  have xj : (rQ q)[((j : Nat) : Int).toNat]? = some (rqP (atQ q j)) := by rw [Int.toNat_natCast]; exact rQ_at hj
  generalize atQ q i = a at *
  generalize atQ q j = b at *
  obtain ⟨a1, a2⟩ := a
  obtain ⟨b1, b2⟩ := b
  unfold rqP at xi xj
  dsimp only at xi xj
  refine fn_of (l := [.tmp 6]) Tryd.func138 (by kernel_rfl) rfl Tryd.ntmps138 rfl rfl ?_; simp only [argEnv, P0.d, Nat.reduceAdd]
  repeat' (first | (with_reducible first | refine aw_seq ?_ | refine thn_normal ?_ | refine thn_ret ?_ | refine thn_exit ?_ | refine blk_normal ?_ | refine blk_ret ?_ | refine blk_hit ?_ | refine blk_miss rfl ?_ | refine aw_block ?_ | refine aw_ret ?_ | refine aw_skip ?_ | refine aw_exit ?_ | refine w_nil ?_ | refine x_nil (by kernel_rfl) ?_) | refine aw_region ?_ | refine aw_region_draw (by kernel_rfl) ?_ | refine aw_yes rfl ?_ | refine aw_no rfl ?_ | ((with_reducible refine w_seq ?_); first | refine r_q tbOk rfl rfl rfl rfl ?_ | refine r_e tbOk rfl rfl rfl rfl rfl ?_ | refine r_yes tbOk rfl rfl rfl rfl rfl rfl ?_ | refine w_no rfl rfl (lookO_spec rfl) rfl rfl rfl ?_ | refine w_un rfl rfl (lookO_spec rfl) rfl rfl ?_) | ((with_reducible refine w_drw ?_); first | refine rx_q tbOk rfl rfl rfl rfl ?_ | refine rx_e tbOk rfl rfl rfl rfl rfl ?_ | refine rx_yes tbOk rfl rfl rfl rfl rfl rfl ?_ | refine x_no rfl rfl (lookO_spec rfl) rfl rfl rfl ?_ | refine x_un rfl rfl (lookO_spec rfl) rfl rfl ?_) | ((first | refine' w_q rfl rfl ?xa rfl ?_ | refine' v_q rfl rfl ?xa rfl ?_ | refine' w_yes rfl rfl (lookO_spec rfl) rfl ?xa rfl ?_ | refine' v_yes rfl rfl (lookO_spec rfl) rfl ?xa rfl ?_); case xa => first | exact k_at 9 rfl (k_index tbOk rfl rfl rfl rfl (by omega) xi) | exact k_at 14 rfl (k_index tbOk rfl rfl rfl rfl (by omega) xj) | exact k_at 20 rfl (k_index tbOk rfl rfl rfl rfl (by omega) xi) | exact k_at 25 rfl (k_index tbOk rfl rfl rfl rfl (by omega) xj) | exact k_at 31 rfl (k_index tbOk rfl rfl rfl rfl (by omega) xi) | exact k_at 36 rfl (k_index tbOk rfl rfl rfl rfl (by omega) xj)) | ((first | refine aw_ways rfl ?_ ?_ | refine r_split rfl rfl rfl ?_ ?_) <;> intro hg_ <;> fail_if_success (exact Bool.noConfusion hg_)) <;> (try simp only [prn] at hg_) <;> (try first | contradiction | (exfalso; omega)))
  all_goals first
    | exact ret_tmp rfl (dres_bool (by unfold ltR; simp_all))
    | trace_state
theorem f_heapLen (els : List P0) (hl : els.length ≤ 1000000) : Fn Tryd.prog 88 [.one (row false 2 els)] (.v (iP els.length)) := by
  refine fn_of (l := [.tmp 2]) Tryd.func88 (by kernel_rfl) rfl Tryd.ntmps88 rfl rfl ?_; simp only [argEnv, P0.d, Nat.reduceAdd]
  repeat' (first | (with_reducible first | refine aw_seq ?_ | refine thn_normal ?_ | refine thn_ret ?_ | refine thn_exit ?_ | refine blk_normal ?_ | refine blk_ret ?_ | refine blk_hit ?_ | refine blk_miss rfl ?_ | refine aw_block ?_ | refine aw_ret ?_ | refine aw_skip ?_ | refine aw_exit ?_ | refine w_nil ?_ | refine x_nil (by kernel_rfl) ?_) | refine aw_region ?_ | refine aw_region_draw (by kernel_rfl) ?_ | refine aw_yes rfl ?_ | refine aw_no rfl ?_ | ((with_reducible refine w_seq ?_); first | refine r_q tbOk rfl rfl rfl rfl ?_ | refine r_e tbOk rfl rfl rfl rfl rfl ?_ | refine r_yes tbOk rfl rfl rfl rfl rfl rfl ?_ | refine w_no rfl rfl (lookO_spec rfl) rfl rfl rfl ?_ | refine w_un rfl rfl (lookO_spec rfl) rfl rfl ?_) | ((with_reducible refine w_drw ?_); first | refine rx_q tbOk rfl rfl rfl rfl ?_ | refine rx_e tbOk rfl rfl rfl rfl rfl ?_ | refine rx_yes tbOk rfl rfl rfl rfl rfl rfl ?_ | refine x_no rfl rfl (lookO_spec rfl) rfl rfl rfl ?_ | refine x_un rfl rfl (lookO_spec rfl) rfl rfl ?_) | ((first | refine aw_ways rfl ?_ ?_ | refine r_split rfl rfl rfl ?_ ?_) <;> intro hg_ <;> fail_if_success (exact Bool.noConfusion hg_)) <;> (try simp only [prn] at hg_) <;> (try first | contradiction | (exfalso; omega)))
  exact ret_tmp rfl (dres_int rfl)
set_option maxRecDepth 100000 in
set_option maxHeartbeats 4000000 in
theorem f_swap (q : List (Int × Int)) (n i j : Nat) (hn : q.length = n) (hi : i < n) (hj : j < n) : FnS Tryd.prog 141 [.one (.own 1000000000 0 n 2), .one (.r false (int i)), .one (.r false (int j))] [(1000000000, .sl 124 2 true (rQ q))] (.tup true []) [(1000000000, .sl 124 2 true (rQ (swp q i j)))] := by
  have hlen := rQ_len q
  have xi : (rQ q)[0 + ((i : Nat) : Int).toNat]? = some (rqP (atQ q i)) := by rw [Nat.zero_add, Int.toNat_natCast]; exact rQ_at (by omega)
  have xj : (rQ q)[0 + ((j : Nat) : Int).toNat]? = some (rqP (atQ q j)) := by rw [Nat.zero_add, Int.toNat_natCast]; exact rQ_at (by omega)
  have hS : ((rQ q).set (0 + ((i : Nat) : Int).toNat) (rqP (atQ q j))).set (0 + ((j : Nat) : Int).toNat) (rqP (atQ q i)) = rQ (swp q i j) := by
    rw [Nat.zero_add, Nat.zero_add, Int.toNat_natCast, Int.toNat_natCast, rQ_set, rQ_set]; rfl
  generalize atQ q i = a at *
  generalize atQ q j = b at *
  obtain ⟨a1, a2⟩ := a
  obtain ⟨b1, b2⟩ := b
  unfold rqP at xi xj hS
  dsimp only at xi xj hS
  refine fnS_of (l := []) Tryd.func141 (by kernel_rfl) rfl Tryd.ntmps141 rfl rfl ?_; simp only [dEnv, Nat.reduceAdd]
  repeat' (first | (with_reducible first | refine aw_seq ?_ | refine thn_normal ?_ | refine thn_ret ?_ | refine thn_exit ?_ | refine blk_normal ?_ | refine blk_ret ?_ | refine blk_hit ?_ | refine blk_miss rfl ?_ | refine aw_block ?_ | refine aw_ret ?_ | refine aw_skip ?_ | refine aw_exit ?_ | refine w_nil ?_ | refine x_nil (by kernel_rfl) ?_) | refine aw_region ?_ | refine aw_region_draw (by kernel_rfl) ?_ | refine aw_yes rfl ?_ | refine aw_no rfl ?_ | ((with_reducible refine w_seq ?_); first | refine r_q tbOk rfl rfl rfl rfl ?_ | refine r_e tbOk rfl rfl rfl rfl rfl ?_ | refine r_yes tbOk rfl rfl rfl rfl rfl rfl ?_ | refine w_no rfl rfl (lookO_spec rfl) rfl rfl rfl ?_ | refine w_un rfl rfl (lookO_spec rfl) rfl rfl ?_) | ((with_reducible refine w_drw ?_); first | refine rx_q tbOk rfl rfl rfl rfl ?_ | refine rx_e tbOk rfl rfl rfl rfl rfl ?_ | refine rx_yes tbOk rfl rfl rfl rfl rfl rfl ?_ | refine x_no rfl rfl (lookO_spec rfl) rfl rfl rfl ?_ | refine x_un rfl rfl (lookO_spec rfl) rfl rfl ?_) | ((first | refine' w_q rfl rfl ?xa rfl ?_ | refine' v_q rfl rfl ?xa rfl ?_ | refine' w_yes rfl rfl (lookO_spec rfl) rfl ?xa rfl ?_ | refine' v_yes rfl rfl (lookO_spec rfl) rfl ?xa rfl ?_); case xa => first | exact k_indexO tbOk rfl rfl rfl rfl (by omega) (by omega) | exact k_at 13 rfl (k_loadS (e := P0.agg [int b1, int b2]) tbOk rfl rfl rfl rfl xj rfl (Nat.le_refl 2) (.inl rfl)) | exact k_at 17 rfl (k_loadS (e := P0.agg [int a1, int a2]) tbOk rfl rfl rfl rfl xi rfl (Nat.le_refl 2) (.inl rfl))) | ((first | refine' w_e rfl ?xa ?xb ?xc ?xe ?_ | refine' v_e rfl ?xa ?xb ?xc ?xe ?_); (case xa => exact e_storeS tbOk rfl rfl rfl rfl rfl rfl rfl rfl (by first | omega | (rw [List.length_set]; omega))); (case xb => rfl); (case xc => rfl); (case xe => rfl); try dsimp only [P0.d, Res.d, List.map_cons, List.map_nil, List.set_cons_zero, List.set_cons_succ, Nat.reduceAdd]) | ((first | refine aw_ways rfl ?_ ?_ | refine r_split rfl rfl rfl ?_ ?_) <;> intro hg_ <;> fail_if_success (exact Bool.noConfusion hg_)) <;> (try simp only [prn] at hg_) <;> (try first | contradiction | (exfalso; omega)))
  all_goals first
    | exact end_D [] rfl (by (repeat' (first | exact trivial | refine subHR_cons rfl ?_ ?_ | rfl | exact ob_sl rfl hS))) ⟨_, rfl, imp_refl rfl⟩
    | trace_state
end Go.Proofs.YthjnidcmhegoeaaDoor.Abs
