/- Heaps by states: the methods of reachedHeap. No statement of the seat is proved here. -/
import Derived.Test.YthjnidcmhegoeaaDoorGDij
import Derived.Test.YthjnidcmhegoeaaDoorTy
import Derived.Lib.Hide
import Derived.Test.YthjnidcmhegoeaaDoorAbsI
import Derived.Test.YthjnidcmhegoeaaDoorAExG
set_option linter.unusedSimpArgs false
set_option linter.unusedVariables false
namespace Go.Proofs.YthjnidcmhegoeaaDoor.Abs
open Go.RowKit
open R (val row ref)

/-! ## AHeap -/
def rqP (r : Int × Int) : P0 := .agg [int r.1, int r.2]
def rQ (q : List (Int × Int)) : List P0 := q.map rqP
theorem rQ_len (q : List (Int × Int)) : (rQ q).length = q.length := by unfold rQ; rw [List.length_map]
theorem rQ_at {q : List (Int × Int)} {i : Nat} (h : i < q.length) : (rQ q)[i]? = some (rqP (atQ q i)) := by
  unfold rQ atQ; rw [List.getElem?_map, List.getD_eq_getElem?_getD, List.getElem?_eq_getElem h]; rfl
theorem rQ_set (q : List (Int × Int)) (i : Nat) (r : Int × Int) : (rQ q).set i (rqP r) = rQ (q.set i r) := by unfold rQ; rw [List.map_set]
theorem rQ_app (q : List (Int × Int)) (r : Int × Int) : rQ q ++ [rqP r] = rQ (q ++ [r]) := by unfold rQ; rw [List.map_append]; rfl
theorem rQ_take (q : List (Int × Int)) (n : Nat) : (rQ q).take n = rQ (q.take n) := by unfold rQ; rw [List.map_take]
theorem m_less (w : World) (b : Addr) (v : Value) (h : (loadVar 126 b).run Tryd.prog w = .ok v w) : (method (Tryd.prog.types.size + Made.depth) 122 (.pointer (some b)) "Less").run Tryd.prog w = .ok (138, v) w := by
  have e : (method (Tryd.prog.types.size + Made.depth) 122 (.pointer (some b)) "Less").run Tryd.prog w = (do let u ← loadVar 126 b; pure (138, u) : Sem (FuncId × Value)).run Tryd.prog w := by kernel_rfl
  rw [e]; simp [h]
theorem m_swap (w : World) (b : Addr) (v : Value) (h : (loadVar 126 b).run Tryd.prog w = .ok v w) : (method (Tryd.prog.types.size + Made.depth) 122 (.pointer (some b)) "Swap").run Tryd.prog w = .ok (141, v) w := by
  have e : (method (Tryd.prog.types.size + Made.depth) 122 (.pointer (some b)) "Swap").run Tryd.prog w = (do let u ← loadVar 126 b; pure (141, u) : Sem (FuncId × Value)).run Tryd.prog w := by kernel_rfl
  rw [e]; simp [h]
theorem m_len (w : World) (b : Addr) (v : Value) (h : (loadVar 126 b).run Tryd.prog w = .ok v w) : (method (Tryd.prog.types.size + Made.depth) 122 (.pointer (some b)) "Len").run Tryd.prog w = .ok (88, v) w := by
  have e : (method (Tryd.prog.types.size + Made.depth) 122 (.pointer (some b)) "Len").run Tryd.prog w = (do let u ← loadVar 126 b; pure (88, u) : Sem (FuncId × Value)).run Tryd.prog w := by kernel_rfl
  rw [e]; simp [h]
theorem m_push (w : World) (b : Addr) : (method (Tryd.prog.types.size + Made.depth) 122 (.pointer (some b)) "Push").run Tryd.prog w = .ok (140, .pointer (some b)) w := by kernel_rfl
theorem m_pop (w : World) (b : Addr) : (method (Tryd.prog.types.size + Made.depth) 122 (.pointer (some b)) "Pop").run Tryd.prog w = .ok (139, .pointer (some b)) w := by kernel_rfl
set_option maxRecDepth 100000 in
set_option maxHeartbeats 4000000 in
theorem f_less (q : List (Int × Int)) (i j : Nat) (hi : i < q.length) (hj : j < q.length) : Fn Tryd.prog 138 [.one (row false 2 (rQ q)), iP i, iP j] (.v (.one (bool (ltR (atQ q i) (atQ q j))))) := by
  have hlen := rQ_len q
  have xi : (rQ q)[((i : Nat) : Int).toNat]? = some (rqP (atQ q i)) := by rw [Int.toNat_natCast]; exact rQ_at hi
  have xj : (rQ q)[((j : Nat) : Int).toNat]? = some (rqP (atQ q j)) := by rw [Int.toNat_natCast]; exact rQ_at hj
  generalize atQ q i = a at *
  generalize atQ q j = b at *
  obtain ⟨a1, a2⟩ := a
  obtain ⟨b1, b2⟩ := b
  unfold rqP at xi xj
  dsimp only at xi xj
  refine fn_of (l := [.tmp 6]) Tryd.func138 (by kernel_rfl) rfl Tryd.ntmps138 rfl rfl ?_; simp only [argEnv, P0.d, Nat.reduceAdd]
  repeat' (first | (with_reducible first | refine aw_seq ?_ | refine thn_normal ?_ | refine thn_ret ?_ | refine thn_exit ?_ | refine blk_normal ?_ | refine blk_ret ?_ | refine blk_hit ?_ | refine blk_miss rfl ?_ | refine aw_block ?_ | refine aw_ret ?_ | refine aw_skip ?_ | refine aw_exit ?_ | refine w_nil ?_ | refine x_nil (by kernel_rfl) ?_) | refine aw_region ?_ | refine aw_region_draw (by kernel_rfl) ?_ | refine aw_yes rfl ?_ | refine aw_no rfl ?_ | ((with_reducible refine w_seq ?_); first | refine r_q tbOk rfl rfl rfl rfl ?_ | refine r_e tbOk rfl rfl rfl rfl rfl ?_ | refine r_yes tbOk rfl rfl rfl rfl rfl rfl ?_ | refine w_no rfl rfl (lookO_spec rfl) rfl rfl rfl ?_ | refine w_un rfl rfl (lookO_spec rfl) rfl rfl ?_) | ((with_reducible refine w_drw ?_); first | refine rx_q tbOk rfl rfl rfl rfl ?_ | refine rx_e tbOk rfl rfl rfl rfl rfl ?_ | refine rx_yes tbOk rfl rfl rfl rfl rfl rfl ?_ | refine x_no rfl rfl (lookO_spec rfl) rfl rfl rfl ?_ | refine x_un rfl rfl (lookO_spec rfl) rfl rfl ?_) | ((first | refine' w_q rfl rfl ?xa rfl ?_ | refine' v_q rfl rfl ?xa rfl ?_ | refine' w_yes rfl rfl (lookO_spec rfl) rfl ?xa rfl ?_ | refine' v_yes rfl rfl (lookO_spec rfl) rfl ?xa rfl ?_); case xa => first | exact k_at 9 rfl (k_index tbOk rfl rfl rfl rfl (by omega) xi) | exact k_at 14 rfl (k_index tbOk rfl rfl rfl rfl (by omega) xj) | exact k_at 20 rfl (k_index tbOk rfl rfl rfl rfl (by omega) xi) | exact k_at 25 rfl (k_index tbOk rfl rfl rfl rfl (by omega) xj) | exact k_at 31 rfl (k_index tbOk rfl rfl rfl rfl (by omega) xi) | exact k_at 36 rfl (k_index tbOk rfl rfl rfl rfl (by omega) xj)) | ((first | refine aw_ways rfl ?_ ?_ | refine r_split rfl rfl rfl ?_ ?_) <;> intro hg_ <;> fail_if_success (exact Bool.noConfusion hg_)) <;> (try simp only [prn] at hg_) <;> (try first | contradiction | (exfalso; omega)))
  all_goals first
    | exact ret_tmp rfl (dres_bool (by unfold ltR; simp_all))
    | trace_state
theorem f_heapLen (els : List P0) (hl : els.length ≤ 1000000) : Fn Tryd.prog 88 [.one (row false 2 els)] (.v (iP els.length)) := by
  refine fn_of (l := [.tmp 2]) Tryd.func88 (by kernel_rfl) rfl Tryd.ntmps88 rfl rfl ?_; simp only [argEnv, P0.d, Nat.reduceAdd]
  repeat' (first | (with_reducible first | refine aw_seq ?_ | refine thn_normal ?_ | refine thn_ret ?_ | refine thn_exit ?_ | refine blk_normal ?_ | refine blk_ret ?_ | refine blk_hit ?_ | refine blk_miss rfl ?_ | refine aw_block ?_ | refine aw_ret ?_ | refine aw_skip ?_ | refine aw_exit ?_ | refine w_nil ?_ | refine x_nil (by kernel_rfl) ?_) | refine aw_region ?_ | refine aw_region_draw (by kernel_rfl) ?_ | refine aw_yes rfl ?_ | refine aw_no rfl ?_ | ((with_reducible refine w_seq ?_); first | refine r_q tbOk rfl rfl rfl rfl ?_ | refine r_e tbOk rfl rfl rfl rfl rfl ?_ | refine r_yes tbOk rfl rfl rfl rfl rfl rfl ?_ | refine w_no rfl rfl (lookO_spec rfl) rfl rfl rfl ?_ | refine w_un rfl rfl (lookO_spec rfl) rfl rfl ?_) | ((with_reducible refine w_drw ?_); first | refine rx_q tbOk rfl rfl rfl rfl ?_ | refine rx_e tbOk rfl rfl rfl rfl rfl ?_ | refine rx_yes tbOk rfl rfl rfl rfl rfl rfl ?_ | refine x_no rfl rfl (lookO_spec rfl) rfl rfl rfl ?_ | refine x_un rfl rfl (lookO_spec rfl) rfl rfl ?_) | ((first | refine aw_ways rfl ?_ ?_ | refine r_split rfl rfl rfl ?_ ?_) <;> intro hg_ <;> fail_if_success (exact Bool.noConfusion hg_)) <;> (try simp only [prn] at hg_) <;> (try first | contradiction | (exfalso; omega)))
  exact ret_tmp rfl (dres_int rfl)
set_option maxRecDepth 100000 in
set_option maxHeartbeats 4000000 in
theorem f_swap (q : List (Int × Int)) (n i j : Nat) (hn : q.length = n) (hi : i < n) (hj : j < n) : FnS Tryd.prog 141 [.one (.own 1000000000 0 n 2), .one (.r false (int i)), .one (.r false (int j))] [(1000000000, .sl 124 2 true (rQ q))] (.tup true []) [(1000000000, .sl 124 2 true (rQ (swp q i j)))] := by
  have hlen := rQ_len q
  have xi : (rQ q)[0 + ((i : Nat) : Int).toNat]? = some (rqP (atQ q i)) := by rw [Nat.zero_add, Int.toNat_natCast]; exact rQ_at (by omega)
  have xj : (rQ q)[0 + ((j : Nat) : Int).toNat]? = some (rqP (atQ q j)) := by rw [Nat.zero_add, Int.toNat_natCast]; exact rQ_at (by omega)
  have hS : ((rQ q).set (0 + ((i : Nat) : Int).toNat) (rqP (atQ q j))).set (0 + ((j : Nat) : Int).toNat) (rqP (atQ q i)) = rQ (swp q i j) := by
    rw [Nat.zero_add, Nat.zero_add, Int.toNat_natCast, Int.toNat_natCast, rQ_set, rQ_set]; rfl
  generalize atQ q i = a at *
  generalize atQ q j = b at *
  obtain ⟨a1, a2⟩ := a
  obtain ⟨b1, b2⟩ := b
  unfold rqP at xi xj hS
  dsimp only at xi xj hS
  refine fnS_of (l := []) Tryd.func141 (by kernel_rfl) rfl Tryd.ntmps141 rfl rfl ?_; simp only [dEnv, Nat.reduceAdd]
  repeat' (first | (with_reducible first | refine aw_seq ?_ | refine thn_normal ?_ | refine thn_ret ?_ | refine thn_exit ?_ | refine blk_normal ?_ | refine blk_ret ?_ | refine blk_hit ?_ | refine blk_miss rfl ?_ | refine aw_block ?_ | refine aw_ret ?_ | refine aw_skip ?_ | refine aw_exit ?_ | refine w_nil ?_ | refine x_nil (by kernel_rfl) ?_) | refine aw_region ?_ | refine aw_region_draw (by kernel_rfl) ?_ | refine aw_yes rfl ?_ | refine aw_no rfl ?_ | ((with_reducible refine w_seq ?_); first | refine r_q tbOk rfl rfl rfl rfl ?_ | refine r_e tbOk rfl rfl rfl rfl rfl ?_ | refine r_yes tbOk rfl rfl rfl rfl rfl rfl ?_ | refine w_no rfl rfl (lookO_spec rfl) rfl rfl rfl ?_ | refine w_un rfl rfl (lookO_spec rfl) rfl rfl ?_) | ((with_reducible refine w_drw ?_); first | refine rx_q tbOk rfl rfl rfl rfl ?_ | refine rx_e tbOk rfl rfl rfl rfl rfl ?_ | refine rx_yes tbOk rfl rfl rfl rfl rfl rfl ?_ | refine x_no rfl rfl (lookO_spec rfl) rfl rfl rfl ?_ | refine x_un rfl rfl (lookO_spec rfl) rfl rfl ?_) | ((first | refine' w_q rfl rfl ?xa rfl ?_ | refine' v_q rfl rfl ?xa rfl ?_ | refine' w_yes rfl rfl (lookO_spec rfl) rfl ?xa rfl ?_ | refine' v_yes rfl rfl (lookO_spec rfl) rfl ?xa rfl ?_); case xa => first | exact k_indexO tbOk rfl rfl rfl rfl (by omega) (by omega) | exact k_at 13 rfl (k_loadS (e := P0.agg [int b1, int b2]) tbOk rfl rfl rfl rfl xj rfl (Nat.le_refl 2) (.inl rfl)) | exact k_at 17 rfl (k_loadS (e := P0.agg [int a1, int a2]) tbOk rfl rfl rfl rfl xi rfl (Nat.le_refl 2) (.inl rfl))) | ((first | refine' w_e rfl ?xa ?xb ?xc ?xe ?_ | refine' v_e rfl ?xa ?xb ?xc ?xe ?_); (case xa => exact e_storeS tbOk rfl rfl rfl rfl rfl rfl rfl rfl (by first | omega | (rw [List.length_set]; omega))); (case xb => rfl); (case xc => rfl); (case xe => rfl); try dsimp only [P0.d, Res.d, List.map_cons, List.map_nil, List.set_cons_zero, List.set_cons_succ, Nat.reduceAdd]) | ((first | refine aw_ways rfl ?_ ?_ | refine r_split rfl rfl rfl ?_ ?_) <;> intro hg_ <;> fail_if_success (exact Bool.noConfusion hg_)) <;> (try simp only [prn] at hg_) <;> (try first | contradiction | (exfalso; omega)))
  all_goals first
    | exact end_D [] rfl (by (repeat' (first | exact trivial | refine subHR_cons rfl ?_ ?_ | rfl | exact ob_sl rfl hS))) ⟨_, rfl, imp_refl rfl⟩
    | trace_state
/-! ## AHeapB -/
def takeO (m : Nat) : Ob → Ob
  | .sl E sz n els => .sl E sz n (els.take m)
  | .var E cs => .var E cs
theorem takeO_p {m : Nat} {ι : Nat → Nat × Nat} {base : Nat} {c : Cx} {b : Nat × Nat} : ∀ {ob : Ob}, ob.p ι base c b → (takeO m ob).p ι base c b
  | .sl E sz n els, ⟨arr, h1, h2, h3⟩ => by
    have hl : (els.take m).length * sz ≤ els.length * sz := Nat.mul_le_mul_right _ (by rw [List.length_take]; omega)
    refine ⟨arr, h1, by omega, fun i e he => h3 i e ?_⟩
    rw [List.getElem?_take] at he
    split at he
    · exact he
    · cases he
  | .var E cs, h => h
def tkH (k m : Nat) : List (Nat × Ob) → List (Nat × Ob)
  | [] => []
  | (u, ob) :: h => (u, bif Nat.beq u k then takeO m ob else ob) :: tkH k m h
theorem lookH_tkH (k m x : Nat) : ∀ h : List (Nat × Ob), lookH (tkH k m h) x = (lookH h x).map (fun ob => bif Nat.beq x k then takeO m ob else ob)
  | [] => rfl
  | (u, ob) :: h => by
    have ih := lookH_tkH k m x h
    simp only [tkH, lookH, upd]
    by_cases hu : x = u
    · subst hu
      rw [if_pos rfl, if_pos rfl]; rfl
    · rw [if_neg hu, if_neg hu]; exact ih
/-- A row is shortened. -/
theorem weak_take {n : Nat} {l : List (Nat × D)} {h : List (Nat × Ob)} (k m : Nat) : Weak (mkS n l h) (mkS n l (tkH k m h)) := by
  rintro w0 a w ⟨ι, own, hs⟩
  have get : ∀ x ob, lookH (tkH k m h) x = some ob → ∃ o, lookH h x = some o ∧ (ob = o ∨ ob = takeO m o) := fun x ob hx => by
    rw [lookH_tkH, Option.map_eq_some_iff] at hx
    obtain ⟨o, ho, rfl⟩ := hx
    refine ⟨o, ho, ?_⟩
    cases Nat.beq x k
    · exact .inl rfl
    · exact .inr rfl
  refine ⟨ι, own, hs.below, hs.base_, hs.own_, hs.keep, hs.frm, hs.size, hs.env, fun x ob hx => ?_, fun x ob hx => ?_, fun x x' ob ob' hx hx' e => ?_, hs.defers, hs.pin⟩
  · obtain ⟨o, ho, h1⟩ := get x ob hx
    obtain ⟨q1, q2⟩ := hs.heap x o ho
    rcases h1 with rfl | rfl
    · exact ⟨q1, q2⟩
    · exact ⟨q1, takeO_p q2⟩
  · obtain ⟨o, ho, _⟩ := get x ob hx
    exact hs.place x o ho
  · obtain ⟨o, ho, _⟩ := get x ob hx
    obtain ⟨o', ho', _⟩ := get x' ob' hx'
    exact hs.inj x x' o o' ho ho' e
theorem pair_plain (a b : Int) : ∀ x ∈ [P0.agg [int a, int b]], plain1 x = true := fun x hx => by
  obtain rfl : x = P0.agg [int a, int b] := by simpa using hx
  rfl
theorem u_reached : ∃ u, Tryd.prog.underlying 124 = some u ∧ ∀ ms, u ≠ .interface ms := ⟨_, Tryd.underlying124, fun ms h => by cases h⟩
theorem u_preached : ∃ u, Tryd.prog.underlying 122 = some u ∧ ∀ ms, u ≠ .interface ms := ⟨_, Tryd.underlying122, fun ms h => by cases h⟩
theorem ovarH {E : TypeId} {a b : Cell} (h : a = b) : Ob.var E [a] = .var E [b] := by rw [h]
theorem cellH {k n n' sz : Nat} (h : n = n') : Cell.own k 0 n sz = .own k 0 n' sz := by rw [h]
/-- The interface value of a vertex with its cost. -/
def rqI (r : Int × Int) : Value := .iface 124 (.agg #[.int .i64 r.1, .int .i64 r.2])
set_option maxRecDepth 100000 in
set_option maxHeartbeats 4000000 in
theorem f_push (q : List (Int × Int)) (r : Int × Int) (hl : q.length ≤ 1000) : FnS Tryd.prog 140 [.one (.ptr 1000000000 0 0 0), .one (.r false (R.val (rqI r)))] [(1000000000, .var 126 [.own 1000001 0 q.length 2]), (1000001, .sl 124 2 true (rQ q))] (.tup true []) [(1000000000, .var 126 [.own 2000001 0 (q.length + 1) 2]), (2000001, .sl 124 2 true (rQ (q ++ [r])))] := by
  have hlen := rQ_len q
  obtain ⟨u, hu, hni⟩ := u_reached
  have hE := rQ_app q r
  obtain ⟨c, v⟩ := r
  unfold rqP at hE
  unfold rqI
  dsimp only at hE ⊢
  refine fnS_of (l := []) Tryd.func140 (by kernel_rfl) rfl Tryd.ntmps140 rfl rfl ?_; simp only [dEnv, Nat.reduceAdd]
  repeat' (first | (with_reducible first | refine aw_seq ?_ | refine thn_normal ?_ | refine thn_ret ?_ | refine thn_exit ?_ | refine blk_normal ?_ | refine blk_ret ?_ | refine blk_hit ?_ | refine blk_miss rfl ?_ | refine aw_block ?_ | refine aw_ret ?_ | refine aw_skip ?_ | refine aw_exit ?_ | refine w_nil ?_ | refine x_nil (by kernel_rfl) ?_) | refine aw_region ?_ | refine aw_region_draw (by kernel_rfl) ?_ | refine aw_yes rfl ?_ | refine aw_no rfl ?_ | ((with_reducible refine w_seq ?_); first | refine r_q tbOk rfl rfl rfl rfl ?_ | refine r_e tbOk rfl rfl rfl rfl rfl ?_ | refine r_yes tbOk rfl rfl rfl rfl rfl rfl ?_ | refine w_no rfl rfl (lookO_spec rfl) rfl rfl rfl ?_ | refine w_un rfl rfl (lookO_spec rfl) rfl rfl ?_) | ((with_reducible refine w_drw ?_); first | refine rx_q tbOk rfl rfl rfl rfl ?_ | refine rx_e tbOk rfl rfl rfl rfl rfl ?_ | refine rx_yes tbOk rfl rfl rfl rfl rfl rfl ?_ | refine x_no rfl rfl (lookO_spec rfl) rfl rfl rfl ?_ | refine x_un rfl rfl (lookO_spec rfl) rfl rfl ?_) | ((first | refine' w_q rfl rfl ?xa rfl ?_ | refine' v_q rfl rfl ?xa rfl ?_ | refine' w_yes rfl rfl (lookO_spec rfl) rfl ?xa rfl ?_ | refine' v_yes rfl rfl (lookO_spec rfl) rfl ?xa rfl ?_); case xa => exact k_assert hu hni rfl rfl) | ((first | refine' w_e rfl ?xa ?xb ?xc ?xe ?_ | refine' v_e rfl ?xa ?xb ?xc ?xe ?_); (case xa => first | exact e_build [.tmp 16] tlOk rfl rfl rfl rfl rfl rfl (allN_one rfl) (by simp) | exact e_append tlOk rfl rfl rfl rfl rfl rfl (slD_plain (slD_own (lookHO_spec rfl) rfl) (pair_plain _ _)) hlen.symm (by simp only [maxLen, List.length_cons, List.length_nil]; omega) (by simp only [List.length_cons, List.length_nil]; omega)); (case xb => rfl); (case xc => rfl); (case xe => rfl); try dsimp only [P0.d, Res.d, List.map_cons, List.map_nil, List.set_cons_zero, List.set_cons_succ, Nat.reduceAdd]) | ((first | refine aw_ways rfl ?_ ?_ | refine r_split rfl rfl rfl ?_ ?_) <;> intro hg_ <;> fail_if_success (exact Bool.noConfusion hg_)) <;> (try simp only [prn] at hg_) <;> (try first | contradiction | (exfalso; omega)))
  all_goals first
    | exact end_D [(2000001, 18)] rfl (by (repeat' (first | exact trivial | refine subHR_cons rfl ?_ ?_ | rfl | exact ovarH (cellH (by simp [hlen])) | exact ob_sl rfl hE))) ⟨_, rfl, imp_refl rfl⟩
    | trace_state
set_option maxRecDepth 100000 in
set_option maxHeartbeats 4000000 in
theorem f_popM (q : List (Int × Int)) (r : Int × Int) (hl : q.length ≤ 1000) : FnS Tryd.prog 139 [.one (.ptr 1000000000 0 0 0)] [(1000000000, .var 126 [.own 1000000001 0 (q.length + 1) 2]), (1000000001, .sl 124 2 true (rQ (q ++ [r])))] (.one (.r true (R.val (rqI r)))) [(1000000000, .var 126 [.own 1000000001 0 q.length 2]), (1000000001, .sl 124 2 true (rQ q))] := by
  have hlen := rQ_len q
  obtain ⟨u, hu, hni⟩ := u_reached
  have hE := rQ_app q r
  have hlE : (rQ (q ++ [r])).length = q.length + 1 := by rw [rQ_len, List.length_append]; rfl
  have hw : IntKind.i64.wrap (((q.length + 1 : Nat) : Int) - 1) = (q.length : Int) := by rw [IntWalk.i64_in _ (by omega)]; omega
  have hat : (rQ (q ++ [r]))[0 + (IntKind.i64.wrap (((q.length + 1 : Nat) : Int) - 1)).toNat]? = some (rqP r) := by
    rw [hw, Nat.zero_add, Int.toNat_natCast, ← hE, List.getElem?_append_right (by omega), hlen, Nat.sub_self]; rfl
  have hT : takeO q.length (.sl 124 2 true (rQ (q ++ [r]))) = .sl 124 2 true (rQ q) := by
    unfold takeO
    dsimp only
    rw [rQ_take, List.take_left]
  obtain ⟨c, v⟩ := r
  unfold rqP at hat
  unfold rqI
  dsimp only at hat ⊢
  refine fnS_of (l := [.tmp 2]) Tryd.func139 (by kernel_rfl) rfl Tryd.ntmps139 rfl rfl ?_; simp only [dEnv, Nat.reduceAdd]
  repeat' (first | (with_reducible first | refine aw_seq ?_ | refine thn_normal ?_ | refine thn_ret ?_ | refine thn_exit ?_ | refine blk_normal ?_ | refine blk_ret ?_ | refine blk_hit ?_ | refine blk_miss rfl ?_ | refine aw_block ?_ | refine aw_ret ?_ | refine aw_skip ?_ | refine aw_exit ?_ | refine w_nil ?_ | refine x_nil (by kernel_rfl) ?_) | refine aw_region ?_ | refine aw_region_draw (by kernel_rfl) ?_ | refine aw_yes rfl ?_ | refine aw_no rfl ?_ | ((with_reducible refine w_seq ?_); first | refine r_q tbOk rfl rfl rfl rfl ?_ | refine r_e tbOk rfl rfl rfl rfl rfl ?_ | refine r_yes tbOk rfl rfl rfl rfl rfl rfl ?_ | refine w_no rfl rfl (lookO_spec rfl) rfl rfl rfl ?_ | refine w_un rfl rfl (lookO_spec rfl) rfl rfl ?_) | ((with_reducible refine w_drw ?_); first | refine rx_q tbOk rfl rfl rfl rfl ?_ | refine rx_e tbOk rfl rfl rfl rfl rfl ?_ | refine rx_yes tbOk rfl rfl rfl rfl rfl rfl ?_ | refine x_no rfl rfl (lookO_spec rfl) rfl rfl rfl ?_ | refine x_un rfl rfl (lookO_spec rfl) rfl rfl ?_) | ((first | refine' w_q rfl rfl ?xa rfl ?_ | refine' v_q rfl rfl ?xa rfl ?_ | refine' w_yes rfl rfl (lookO_spec rfl) rfl ?xa rfl ?_ | refine' v_yes rfl rfl (lookO_spec rfl) rfl ?xa rfl ?_); case xa => first | exact k_indexO tbOk rfl rfl rfl rfl (by omega) (by omega) | exact k_at 15 rfl (k_loadS (e := P0.agg [int c, int v]) tbOk rfl rfl rfl rfl hat rfl (Nat.le_refl 2) (.inl rfl)) | exact k_sliceO (a := 0) (b := q.length) tbOk rfl rfl rfl rfl ⟨_, by rw [evO_spec rfl, hw]⟩ (by omega) (by omega) | exact k_ifA hu hni rfl rfl) | ((first | refine aw_ways rfl ?_ ?_ | refine r_split rfl rfl rfl ?_ ?_) <;> intro hg_ <;> fail_if_success (exact Bool.noConfusion hg_)) <;> (try simp only [prn] at hg_) <;> (try first | contradiction | (exfalso; omega)))
  all_goals first
    | exact ret_W (weak_take 1000000001 q.length) (ret_D [] rfl (by (repeat' (first | exact trivial | refine subHR_cons rfl ?_ ?_ | rfl | exact hT | exact ovarH (cellH (by simp))))) (retD_tmp rfl (imp_refl rfl)))
    | trace_state
/-! ## AHeapC -/
def hpH (n : Nat) (q : List (Int × Int)) : List (Nat × Ob) := [(1000000000, .var 126 [.own 1000000001 0 n 2]), (1000000001, .sl 124 2 true (rQ q))]
theorem asA_cellH {H : Nat → Option Ob} {k n sz : Nat} {E : TypeId} {els : List P0} {new : Bool} (hk : H k = some (.sl E sz new els)) (hn : n = els.length) : AsArg H (.one (.own k 0 n sz)) (.one (row false sz els)) := by
  have h2 := asA_own (ev := fun _ => .one (.own k 0 n sz)) (x := .tmp 0) rfl hk (j := 0) (n := n) (by omega)
  rwa [List.drop_zero, List.take_of_length_le (by omega)] at h2
theorem k_divE {P : Program} {l : List (Nat × D)} {h : List (Nat × Ob)} {o : Oper} {n n' : Bool} {k : IntKind} {p q r : Int} {t t' : TypeId} {x y : Operand} (ho : o.op = .binOp .quo t x y t') (hx : evO l x = some (.one (.r n (R.val (.int k p))))) (hy : evO l y = some (.one (.r n' (R.val (.int k q))))) (hq : q ≠ 0) (hr : k.wrap (p.tdiv q) = r) : Loc P (lookH h) (evD (look l)) o (.one (.r true (R.val (.int k r)))) := hr ▸ k_div ho hx hy hq
theorem T_heap : tyOf Tryd.prog 126 = some (false, 1) := by (with_reducible first | exact ty2 | exact ty3 | exact ty4 | exact ty5 | exact ty9 | exact ty17 | exact ty19 | exact ty20 | exact ty23 | exact ty25 | exact ty27 | exact ty29 | exact ty32 | exact ty40 | exact ty42 | exact ty44 | exact ty46 | exact ty48 | exact ty63 | exact ty65 | exact ty67 | exact ty70 | exact ty74 | exact ty85 | exact ty89 | exact ty91 | exact ty92 | exact ty93 | exact ty104 | exact ty106 | exact ty107 | exact ty108 | exact ty112 | exact ty115 | exact ty120 | exact ty122 | exact ty124 | exact ty126 | exact ty131 | exact ty134 | exact ty137 | exact ty144 | exact ty154 | exact ty155 | exact ty161 | exact ty164 | exact ty165 | exact ty168)
theorem half_in (j : Nat) (h : j ≤ 1000) : IntKind.i64.wrap ((IntKind.i64.wrap ((j : Int) - 1)).tdiv 2) = (((j - 1) / 2 : Nat) : Int) := by
  cases j with
  | zero => decide
  | succ k =>
    rw [IntWalk.i64_in (((k + 1 : Nat) : Int) - 1) (by omega), Int.tdiv_eq_ediv_of_nonneg (by omega), IntWalk.i64_in _ (by omega)]
    omega
set_option maxRecDepth 100000 in
set_option maxHeartbeats 8000000 in
theorem f_up (q : List (Int × Int)) (n j : Nat) (hn : q.length = n) (hj : j < n) (hl : n ≤ 1000) : FnS Tryd.prog 102 [.one (.clo (ifP 122) [(1000000000, 0)]), .one (.r false (int j))] (hpH n q) (.tup true []) (hpH n (upH q j)) := by
  have hT := T_heap
  unfold hpH
  refine fnS_of (l := []) Tryd.func102 (by kernel_rfl) rfl Tryd.ntmps102 rfl rfl ?_; simp only [dEnv, Nat.reduceAdd]
  repeat' (first | (with_reducible first | refine aw_seq ?_ | refine thn_normal ?_ | refine thn_ret ?_ | refine thn_exit ?_ | refine blk_normal ?_ | refine blk_ret ?_ | refine blk_hit ?_ | refine blk_miss rfl ?_ | refine aw_block ?_ | refine aw_ret ?_ | refine aw_skip ?_ | refine aw_exit ?_ | refine w_nil ?_ | refine x_nil (by kernel_rfl) ?_) | refine aw_region ?_ | refine aw_region_draw (by kernel_rfl) ?_ | refine aw_yes rfl ?_ | refine aw_no rfl ?_ | ((with_reducible refine w_seq ?_); first | refine r_q tbOk rfl rfl rfl rfl ?_ | refine r_e tbOk rfl rfl rfl rfl rfl ?_ | refine r_yes tbOk rfl rfl rfl rfl rfl rfl ?_ | refine w_no rfl rfl (lookO_spec rfl) rfl rfl rfl ?_ | refine w_un rfl rfl (lookO_spec rfl) rfl rfl ?_) | ((with_reducible refine w_drw ?_); first | refine rx_q tbOk rfl rfl rfl rfl ?_ | refine rx_e tbOk rfl rfl rfl rfl rfl ?_ | refine rx_yes tbOk rfl rfl rfl rfl rfl rfl ?_ | refine x_no rfl rfl (lookO_spec rfl) rfl rfl rfl ?_ | refine x_un rfl rfl (lookO_spec rfl) rfl rfl ?_) | ((first | refine aw_ways rfl ?_ ?_ | refine r_split rfl rfl rfl ?_ ?_) <;> intro hg_ <;> fail_if_success (exact Bool.noConfusion hg_)) <;> (try simp only [prn] at hg_) <;> (try first | contradiction | (exfalso; omega)))
  refine aw_loopI (fun x : List (Int × Int) × Nat × Bool => x.1.length = n ∧ x.2.1 < n ∧ upH x.1 x.2.1 = upH q j) (fun x => mkS 23 [(1, .one (.r x.2.2 (int x.2.1))), (0, .one (.clo (ifP 122) [(1000000000, 0)]))] (hpH n x.1)) (fun x => x.2.1) (q, j, false) ⟨hn, hj, rfl⟩ (by unfold hpH; (refine weak_ren [] rfl ?_ ?_ <;> repeat' (first | exact trivial | refine subR_cons rfl ?_ ?_ | refine subHR_cons rfl ?_ ?_ | rfl | (refine d_int ?_; (first | rfl | omega | (rw [IntWalk.i64_in _ (by omega)] <;> omega) | (simp; done) | (simp; omega))) | (refine d_bool ?_; (first | (simp_all; done) | (rw [Bool.eq_iff_iff]; simp_all; done) | (rw [Bool.eq_iff_iff]; simp_all; omega) | (rw [Bool.eq_iff_iff]; simp; omega)))))) ?_
  rintro ⟨p, k, fl⟩ ⟨h1, h2, h3⟩
  dsimp only at h1 h2 h3
  unfold hpH
  dsimp only
  have hd := half_in k (by omega)
  have hlen := rQ_len p
  have hik : (k - 1) / 2 ≤ k := by omega
  have KL := f_less p k ((k - 1) / 2) (by omega) (by omega)
  have KS := f_swap p n ((k - 1) / 2) k h1 (by omega) h2
  rw [upH] at h3
  have hsl := swp_len p ((k - 1) / 2) k
  generalize swp p ((k - 1) / 2) k = p' at *
  generalize (k - 1) / 2 = i at *
  generalize ltR (atQ p k) (atQ p i) = b at *
  repeat' (first | (with_reducible first | refine aw_seq ?_ | refine thn_normal ?_ | refine thn_ret ?_ | refine thn_exit ?_ | refine blk_normal ?_ | refine blk_ret ?_ | refine blk_hit ?_ | refine blk_miss rfl ?_ | refine aw_block ?_ | refine aw_ret ?_ | refine aw_skip ?_ | refine aw_exit ?_ | refine w_nil ?_ | refine x_nil (by kernel_rfl) ?_) | refine aw_region ?_ | refine aw_region_draw (by kernel_rfl) ?_ | refine aw_yes rfl ?_ | refine aw_no rfl ?_ | ((with_reducible refine w_seq ?_); first | refine r_q tbOk rfl rfl rfl rfl ?_ | refine r_e tbOk rfl rfl rfl rfl rfl ?_ | refine r_yes tbOk rfl rfl rfl rfl rfl rfl ?_ | refine w_no rfl rfl (lookO_spec rfl) rfl rfl rfl ?_ | refine w_un rfl rfl (lookO_spec rfl) rfl rfl ?_) | ((with_reducible refine w_drw ?_); first | refine rx_q tbOk rfl rfl rfl rfl ?_ | refine rx_e tbOk rfl rfl rfl rfl rfl ?_ | refine rx_yes tbOk rfl rfl rfl rfl rfl rfl ?_ | refine x_no rfl rfl (lookO_spec rfl) rfl rfl rfl ?_ | refine x_un rfl rfl (lookO_spec rfl) rfl rfl ?_) | ((first | refine' w_q rfl rfl ?xa rfl ?_ | refine' v_q rfl rfl ?xa rfl ?_ | refine' w_yes rfl rfl (lookO_spec rfl) rfl ?xa rfl ?_ | refine' v_yes rfl rfl (lookO_spec rfl) rfl ?xa rfl ?_); case xa => first | exact k_divE rfl rfl rfl (by decide) hd | exact k_invV KL rfl rfl rfl (asA_cellH (lookHO_spec rfl) (by rw [hlen, h1])) hT m_less ⟨asA_r (evO_spec rfl), asA_r (evO_spec rfl), trivial⟩) | ((first | refine' w_e rfl ?xa ?xb ?xc ?xe ?_ | refine' v_e rfl ?xa ?xb ?xc ?xe ?_); (case xa => exact e_invV [(1000000000, 1000000001)] KS rfl rfl rfl (asD_ren rfl) hT m_swap ⟨by rw [evO_spec rfl]; exact asD_r rfl, by rw [evO_spec rfl]; exact asD_r rfl, trivial⟩ (by (repeat' (first | exact trivial | refine subHR_cons rfl ?_ ?_ | rfl))) rfl); (case xb => rfl); (case xc => rfl); (case xe => rfl); try dsimp only [P0.d, Res.d, List.map_cons, List.map_nil, List.set_cons_zero, List.set_cons_succ, Nat.reduceAdd]) | ((first | refine aw_ways rfl ?_ ?_ | refine r_split rfl rfl rfl ?_ ?_) <;> intro hg_ <;> fail_if_success (exact Bool.noConfusion hg_)) <;> (try simp only [prn] at hg_) <;> (try first | contradiction | (exfalso; omega)))
  all_goals first
    | (have hE : p = upH q j := by
         rw [← h3, dif_pos (by first | (left; omega) | (right; simp_all))]
       exact end_D [] rfl (by (repeat' (first | exact trivial | refine subHR_cons rfl ?_ ?_ | rfl | exact ob_sl rfl (by rw [hE])))) ⟨_, rfl, imp_refl rfl⟩)
    | (have hne : i ≠ k := by intro hc; simp_all
       have hE : upH p' i = upH q j := by
         rw [← h3, dif_neg (by rintro (c | c) <;> simp_all)]
       refine ⟨(p', i, true), ⟨by rw [hsl]; exact h1, by dsimp only; omega, hE⟩, by dsimp only; (refine weak_ren [] rfl ?_ ?_ <;> repeat' (first | exact trivial | refine subR_cons rfl ?_ ?_ | refine subHR_cons rfl ?_ ?_ | rfl | (refine d_int ?_; (first | rfl | omega | (rw [IntWalk.i64_in _ (by omega)] <;> omega) | (simp; done) | (simp; omega))) | (refine d_bool ?_; (first | (simp_all; done) | (rw [Bool.eq_iff_iff]; simp_all; done) | (rw [Bool.eq_iff_iff]; simp_all; omega) | (rw [Bool.eq_iff_iff]; simp; omega))))), by dsimp only; omega⟩)
    | trace_state
set_option maxRecDepth 100000 in
set_option maxHeartbeats 8000000 in
theorem f_down (q : List (Int × Int)) (n i0 n0 : Nat) (hn : q.length = n) (hi0 : i0 < n) (hn0 : n0 ≤ n) (hl : n ≤ 1000) : FnS Tryd.prog 101 [.one (.clo (ifP 122) [(1000000000, 0)]), .one (.r false (int i0)), .one (.r false (int n0))] (hpH n q) .any (hpH n (downH q i0 n0)) := by
  have hT := T_heap
  unfold hpH
  refine fnS_of (l := [.tmp 6]) Tryd.func101 (by kernel_rfl) rfl Tryd.ntmps101 rfl rfl ?_; simp only [dEnv, Nat.reduceAdd]
  repeat' (first | (with_reducible first | refine aw_seq ?_ | refine thn_normal ?_ | refine thn_ret ?_ | refine thn_exit ?_ | refine blk_normal ?_ | refine blk_ret ?_ | refine blk_hit ?_ | refine blk_miss rfl ?_ | refine aw_block ?_ | refine aw_ret ?_ | refine aw_skip ?_ | refine aw_exit ?_ | refine w_nil ?_ | refine x_nil (by kernel_rfl) ?_) | refine aw_region ?_ | refine aw_region_draw (by kernel_rfl) ?_ | refine aw_yes rfl ?_ | refine aw_no rfl ?_ | ((with_reducible refine w_seq ?_); first | refine r_q tbOk rfl rfl rfl rfl ?_ | refine r_e tbOk rfl rfl rfl rfl rfl ?_ | refine r_yes tbOk rfl rfl rfl rfl rfl rfl ?_ | refine w_no rfl rfl (lookO_spec rfl) rfl rfl rfl ?_ | refine w_un rfl rfl (lookO_spec rfl) rfl rfl ?_) | ((with_reducible refine w_drw ?_); first | refine rx_q tbOk rfl rfl rfl rfl ?_ | refine rx_e tbOk rfl rfl rfl rfl rfl ?_ | refine rx_yes tbOk rfl rfl rfl rfl rfl rfl ?_ | refine x_no rfl rfl (lookO_spec rfl) rfl rfl rfl ?_ | refine x_un rfl rfl (lookO_spec rfl) rfl rfl ?_) | ((first | refine aw_ways rfl ?_ ?_ | refine r_split rfl rfl rfl ?_ ?_) <;> intro hg_ <;> fail_if_success (exact Bool.noConfusion hg_)) <;> (try simp only [prn] at hg_) <;> (try first | contradiction | (exfalso; omega)))
  refine aw_loopI (fun x : List (Int × Int) × Nat × Bool => x.1.length = n ∧ x.2.1 < n ∧ downH x.1 x.2.1 n0 = downH q i0 n0) (fun x => mkS 48 [(7, .one (.r x.2.2 (int x.2.1))), (2, .one (.r false (int n0))), (1, .one (.r false (int i0))), (0, .one (.clo (ifP 122) [(1000000000, 0)]))] (hpH n x.1)) (fun x => n - x.2.1) (q, i0, false) ⟨hn, hi0, rfl⟩ (by unfold hpH; (refine weak_ren [] rfl ?_ ?_ <;> repeat' (first | exact trivial | refine subR_cons rfl ?_ ?_ | refine subHR_cons rfl ?_ ?_ | rfl | (refine d_int ?_; (first | rfl | omega | (rw [IntWalk.i64_in _ (by omega)] <;> omega) | (simp; done) | (simp; omega))) | (refine d_bool ?_; (first | (simp_all; done) | (rw [Bool.eq_iff_iff]; simp_all; done) | (rw [Bool.eq_iff_iff]; simp_all; omega) | (rw [Bool.eq_iff_iff]; simp; omega)))))) ?_
  rintro ⟨p, i, fl⟩ ⟨h1, h2, h3⟩
  dsimp only at h1 h2 h3
  unfold hpH
  dsimp only
  have hlen := rQ_len p
  have w1 : IntKind.i64.wrap (IntKind.i64.wrap (2 * (i : Int)) + 1) = ((2 * i + 1 : Nat) : Int) := by rw [IntWalk.i64_in (2 * (i : Int)) (by omega), IntWalk.i64_in _ (by omega)]; omega
  have w2 : IntKind.i64.wrap (IntKind.i64.wrap (IntKind.i64.wrap (2 * (i : Int)) + 1) + 1) = ((2 * i + 2 : Nat) : Int) := by rw [w1, IntWalk.i64_in _ (by omega)]; omega
  rw [downH] at h3
  by_cases hx : n0 ≤ 2 * i + 1
  · have hE : p = downH q i0 n0 := by rw [← h3, dif_pos (.inl hx)]
    clear h3
    repeat' (first | (with_reducible first | refine aw_seq ?_ | refine thn_normal ?_ | refine thn_ret ?_ | refine thn_exit ?_ | refine blk_normal ?_ | refine blk_ret ?_ | refine blk_hit ?_ | refine blk_miss rfl ?_ | refine aw_block ?_ | refine aw_ret ?_ | refine aw_skip ?_ | refine aw_exit ?_ | refine w_nil ?_ | refine x_nil (by kernel_rfl) ?_) | refine aw_region ?_ | refine aw_region_draw (by kernel_rfl) ?_ | refine aw_yes rfl ?_ | refine aw_no rfl ?_ | ((with_reducible refine w_seq ?_); first | refine r_q tbOk rfl rfl rfl rfl ?_ | refine r_e tbOk rfl rfl rfl rfl rfl ?_ | refine r_yes tbOk rfl rfl rfl rfl rfl rfl ?_ | refine w_no rfl rfl (lookO_spec rfl) rfl rfl rfl ?_ | refine w_un rfl rfl (lookO_spec rfl) rfl rfl ?_) | ((with_reducible refine w_drw ?_); first | refine rx_q tbOk rfl rfl rfl rfl ?_ | refine rx_e tbOk rfl rfl rfl rfl rfl ?_ | refine rx_yes tbOk rfl rfl rfl rfl rfl rfl ?_ | refine x_no rfl rfl (lookO_spec rfl) rfl rfl rfl ?_ | refine x_un rfl rfl (lookO_spec rfl) rfl rfl ?_) | ((first | refine aw_ways rfl ?_ ?_ | refine r_split rfl rfl rfl ?_ ?_) <;> intro hg_ <;> fail_if_success (exact Bool.noConfusion hg_)) <;> (try simp only [prn] at hg_) <;> (try first | contradiction | (exfalso; omega)))
    all_goals first
      | (exfalso; omega)
      | exact ret_D [] rfl (by (repeat' (first | exact trivial | refine subHR_cons rfl ?_ ?_ | rfl | exact ob_sl rfl (by rw [hE])))) (retD_tmp rfl (fun _ _ _ _ _ => trivial))
      | trace_state
  · have hin : 2 * i + 1 < n0 := by omega
    obtain ⟨c1, c2, c3⟩ := chd_lt (q := p) hin
    have KA : 2 * i + 2 < n0 → Fn Tryd.prog 138 [.one (row false 2 (rQ p)), iP (IntKind.i64.wrap (IntKind.i64.wrap (IntKind.i64.wrap (2 * (i : Int)) + 1) + 1)), iP (IntKind.i64.wrap (IntKind.i64.wrap (2 * (i : Int)) + 1))] (.v (.one (bool (ltR (atQ p (2 * i + 2)) (atQ p (2 * i + 1)))))) := fun h => by
      rw [w2, w1]; exact f_less p (2 * i + 2) (2 * i + 1) (by omega) (by omega)
    have hcd : chd p i n0 = if 2 * i + 2 < n0 ∧ ltR (atQ p (2 * i + 2)) (atQ p (2 * i + 1)) = true then 2 * i + 2 else 2 * i + 1 := rfl
    have KB := f_less p (chd p i n0) i (by omega) (by omega)
    have KS := f_swap p n i (chd p i n0) h1 h2 (by omega)
    have hsl := swp_len p i (chd p i n0)
    generalize swp p i (chd p i n0) = p' at *
    generalize ltR (atQ p (chd p i n0)) (atQ p i) = b2 at *
    generalize ltR (atQ p (2 * i + 2)) (atQ p (2 * i + 1)) = b1 at *
    generalize chd p i n0 = c at *
    by_cases hy : 2 * i + 2 < n0
    · have KA := KA hy
      cases b1 with
      | true =>
        rw [if_pos ⟨hy, rfl⟩] at hcd
        rw [hcd, ← w2] at KB KS
        rw [hcd] at h3 c1 c2
        repeat' (first | (with_reducible first | refine aw_seq ?_ | refine thn_normal ?_ | refine thn_ret ?_ | refine thn_exit ?_ | refine blk_normal ?_ | refine blk_ret ?_ | refine blk_hit ?_ | refine blk_miss rfl ?_ | refine aw_block ?_ | refine aw_ret ?_ | refine aw_skip ?_ | refine aw_exit ?_ | refine w_nil ?_ | refine x_nil (by kernel_rfl) ?_) | refine aw_region ?_ | refine aw_region_draw (by kernel_rfl) ?_ | refine aw_yes rfl ?_ | refine aw_no rfl ?_ | ((with_reducible refine w_seq ?_); first | refine r_q tbOk rfl rfl rfl rfl ?_ | refine r_e tbOk rfl rfl rfl rfl rfl ?_ | refine r_yes tbOk rfl rfl rfl rfl rfl rfl ?_ | refine w_no rfl rfl (lookO_spec rfl) rfl rfl rfl ?_ | refine w_un rfl rfl (lookO_spec rfl) rfl rfl ?_) | ((with_reducible refine w_drw ?_); first | refine rx_q tbOk rfl rfl rfl rfl ?_ | refine rx_e tbOk rfl rfl rfl rfl rfl ?_ | refine rx_yes tbOk rfl rfl rfl rfl rfl rfl ?_ | refine x_no rfl rfl (lookO_spec rfl) rfl rfl rfl ?_ | refine x_un rfl rfl (lookO_spec rfl) rfl rfl ?_) | ((first | refine' w_q rfl rfl ?xa rfl ?_ | refine' v_q rfl rfl ?xa rfl ?_ | refine' w_yes rfl rfl (lookO_spec rfl) rfl ?xa rfl ?_ | refine' v_yes rfl rfl (lookO_spec rfl) rfl ?xa rfl ?_); case xa => first | exact k_invV KA rfl rfl rfl (asA_cellH (lookHO_spec rfl) (by rw [hlen, h1])) hT m_less ⟨asA_r (evO_spec rfl), asA_r (evO_spec rfl), trivial⟩ | exact k_invV KB rfl rfl rfl (asA_cellH (lookHO_spec rfl) (by rw [hlen, h1])) hT m_less ⟨asA_r (evO_spec rfl), asA_r (evO_spec rfl), trivial⟩) | ((first | refine' w_e rfl ?xa ?xb ?xc ?xe ?_ | refine' v_e rfl ?xa ?xb ?xc ?xe ?_); (case xa => exact e_invV [(1000000000, 1000000001)] KS rfl rfl rfl (asD_ren rfl) hT m_swap ⟨by rw [evO_spec rfl]; exact asD_r rfl, by rw [evO_spec rfl]; exact asD_r rfl, trivial⟩ (by (repeat' (first | exact trivial | refine subHR_cons rfl ?_ ?_ | rfl))) rfl); (case xb => rfl); (case xc => rfl); (case xe => rfl); try dsimp only [P0.d, Res.d, List.map_cons, List.map_nil, List.set_cons_zero, List.set_cons_succ, Nat.reduceAdd]) | ((first | refine aw_ways rfl ?_ ?_ | refine r_split rfl rfl rfl ?_ ?_) <;> intro hg_ <;> fail_if_success (exact Bool.noConfusion hg_)) <;> (try simp only [prn] at hg_) <;> (try first | contradiction | (exfalso; omega)))
        all_goals first
          | (exfalso; omega)
          | (exfalso; simp_all; done)
          | (have hb : b2 = false := by simp_all
             have hE : p = downH q i0 n0 := by rw [← h3, dif_pos (.inr hb)]
             exact ret_D [] rfl (by (repeat' (first | exact trivial | refine subHR_cons rfl ?_ ?_ | rfl | exact ob_sl rfl (by rw [hE])))) (retD_tmp rfl (fun _ _ _ _ _ => trivial)))
          | (have hb : b2 = true := by simp_all
             have hE : downH p' c n0 = downH q i0 n0 := by rw [← h3, dif_neg (by rintro (c4 | c4) <;> first | omega | (rw [hb] at c4; cases c4))]; rw [hcd]
             refine ⟨(p', c, true), ⟨by rw [hsl]; exact h1, by dsimp only; omega, hE⟩, by dsimp only; (refine weak_ren [] rfl ?_ ?_ <;> repeat' (first | exact trivial | refine subR_cons rfl ?_ ?_ | refine subHR_cons rfl ?_ ?_ | rfl | (refine d_int ?_; (first | rfl | omega | (rw [IntWalk.i64_in _ (by omega)] <;> omega) | (simp; done) | (simp; omega))) | (refine d_bool ?_; (first | (simp_all; done) | (rw [Bool.eq_iff_iff]; simp_all; done) | (rw [Bool.eq_iff_iff]; simp_all; omega) | (rw [Bool.eq_iff_iff]; simp; omega))) | exact d_int (by rw [hcd]; first | exact w1 | exact w2))), by dsimp only; omega⟩)
          | trace_state
      | false =>
        rw [if_neg (by simp)] at hcd
        rw [hcd, ← w1] at KB KS
        rw [hcd] at h3 c1 c2
        repeat' (first | (with_reducible first | refine aw_seq ?_ | refine thn_normal ?_ | refine thn_ret ?_ | refine thn_exit ?_ | refine blk_normal ?_ | refine blk_ret ?_ | refine blk_hit ?_ | refine blk_miss rfl ?_ | refine aw_block ?_ | refine aw_ret ?_ | refine aw_skip ?_ | refine aw_exit ?_ | refine w_nil ?_ | refine x_nil (by kernel_rfl) ?_) | refine aw_region ?_ | refine aw_region_draw (by kernel_rfl) ?_ | refine aw_yes rfl ?_ | refine aw_no rfl ?_ | ((with_reducible refine w_seq ?_); first | refine r_q tbOk rfl rfl rfl rfl ?_ | refine r_e tbOk rfl rfl rfl rfl rfl ?_ | refine r_yes tbOk rfl rfl rfl rfl rfl rfl ?_ | refine w_no rfl rfl (lookO_spec rfl) rfl rfl rfl ?_ | refine w_un rfl rfl (lookO_spec rfl) rfl rfl ?_) | ((with_reducible refine w_drw ?_); first | refine rx_q tbOk rfl rfl rfl rfl ?_ | refine rx_e tbOk rfl rfl rfl rfl rfl ?_ | refine rx_yes tbOk rfl rfl rfl rfl rfl rfl ?_ | refine x_no rfl rfl (lookO_spec rfl) rfl rfl rfl ?_ | refine x_un rfl rfl (lookO_spec rfl) rfl rfl ?_) | ((first | refine' w_q rfl rfl ?xa rfl ?_ | refine' v_q rfl rfl ?xa rfl ?_ | refine' w_yes rfl rfl (lookO_spec rfl) rfl ?xa rfl ?_ | refine' v_yes rfl rfl (lookO_spec rfl) rfl ?xa rfl ?_); case xa => first | exact k_invV KA rfl rfl rfl (asA_cellH (lookHO_spec rfl) (by rw [hlen, h1])) hT m_less ⟨asA_r (evO_spec rfl), asA_r (evO_spec rfl), trivial⟩ | exact k_invV KB rfl rfl rfl (asA_cellH (lookHO_spec rfl) (by rw [hlen, h1])) hT m_less ⟨asA_r (evO_spec rfl), asA_r (evO_spec rfl), trivial⟩) | ((first | refine' w_e rfl ?xa ?xb ?xc ?xe ?_ | refine' v_e rfl ?xa ?xb ?xc ?xe ?_); (case xa => exact e_invV [(1000000000, 1000000001)] KS rfl rfl rfl (asD_ren rfl) hT m_swap ⟨by rw [evO_spec rfl]; exact asD_r rfl, by rw [evO_spec rfl]; exact asD_r rfl, trivial⟩ (by (repeat' (first | exact trivial | refine subHR_cons rfl ?_ ?_ | rfl))) rfl); (case xb => rfl); (case xc => rfl); (case xe => rfl); try dsimp only [P0.d, Res.d, List.map_cons, List.map_nil, List.set_cons_zero, List.set_cons_succ, Nat.reduceAdd]) | ((first | refine aw_ways rfl ?_ ?_ | refine r_split rfl rfl rfl ?_ ?_) <;> intro hg_ <;> fail_if_success (exact Bool.noConfusion hg_)) <;> (try simp only [prn] at hg_) <;> (try first | contradiction | (exfalso; omega)))
        all_goals first
          | (exfalso; omega)
          | (exfalso; simp_all; done)
          | (have hb : b2 = false := by simp_all
             have hE : p = downH q i0 n0 := by rw [← h3, dif_pos (.inr hb)]
             exact ret_D [] rfl (by (repeat' (first | exact trivial | refine subHR_cons rfl ?_ ?_ | rfl | exact ob_sl rfl (by rw [hE])))) (retD_tmp rfl (fun _ _ _ _ _ => trivial)))
          | (have hb : b2 = true := by simp_all
             have hE : downH p' c n0 = downH q i0 n0 := by rw [← h3, dif_neg (by rintro (c4 | c4) <;> first | omega | (rw [hb] at c4; cases c4))]; rw [hcd]
             refine ⟨(p', c, true), ⟨by rw [hsl]; exact h1, by dsimp only; omega, hE⟩, by dsimp only; (refine weak_ren [] rfl ?_ ?_ <;> repeat' (first | exact trivial | refine subR_cons rfl ?_ ?_ | refine subHR_cons rfl ?_ ?_ | rfl | (refine d_int ?_; (first | rfl | omega | (rw [IntWalk.i64_in _ (by omega)] <;> omega) | (simp; done) | (simp; omega))) | (refine d_bool ?_; (first | (simp_all; done) | (rw [Bool.eq_iff_iff]; simp_all; done) | (rw [Bool.eq_iff_iff]; simp_all; omega) | (rw [Bool.eq_iff_iff]; simp; omega))) | exact d_int (by rw [hcd]; first | exact w1 | exact w2))), by dsimp only; omega⟩)
          | trace_state
    · rw [if_neg (fun h => hy h.1)] at hcd
      rw [hcd, ← w1] at KB KS
      rw [hcd] at h3 c1 c2
      repeat' (first | (with_reducible first | refine aw_seq ?_ | refine thn_normal ?_ | refine thn_ret ?_ | refine thn_exit ?_ | refine blk_normal ?_ | refine blk_ret ?_ | refine blk_hit ?_ | refine blk_miss rfl ?_ | refine aw_block ?_ | refine aw_ret ?_ | refine aw_skip ?_ | refine aw_exit ?_ | refine w_nil ?_ | refine x_nil (by kernel_rfl) ?_) | refine aw_region ?_ | refine aw_region_draw (by kernel_rfl) ?_ | refine aw_yes rfl ?_ | refine aw_no rfl ?_ | ((with_reducible refine w_seq ?_); first | refine r_q tbOk rfl rfl rfl rfl ?_ | refine r_e tbOk rfl rfl rfl rfl rfl ?_ | refine r_yes tbOk rfl rfl rfl rfl rfl rfl ?_ | refine w_no rfl rfl (lookO_spec rfl) rfl rfl rfl ?_ | refine w_un rfl rfl (lookO_spec rfl) rfl rfl ?_) | ((with_reducible refine w_drw ?_); first | refine rx_q tbOk rfl rfl rfl rfl ?_ | refine rx_e tbOk rfl rfl rfl rfl rfl ?_ | refine rx_yes tbOk rfl rfl rfl rfl rfl rfl ?_ | refine x_no rfl rfl (lookO_spec rfl) rfl rfl rfl ?_ | refine x_un rfl rfl (lookO_spec rfl) rfl rfl ?_) | ((first | refine' w_q rfl rfl ?xa rfl ?_ | refine' v_q rfl rfl ?xa rfl ?_ | refine' w_yes rfl rfl (lookO_spec rfl) rfl ?xa rfl ?_ | refine' v_yes rfl rfl (lookO_spec rfl) rfl ?xa rfl ?_); case xa => first | exact k_invV KA rfl rfl rfl (asA_cellH (lookHO_spec rfl) (by rw [hlen, h1])) hT m_less ⟨asA_r (evO_spec rfl), asA_r (evO_spec rfl), trivial⟩ | exact k_invV KB rfl rfl rfl (asA_cellH (lookHO_spec rfl) (by rw [hlen, h1])) hT m_less ⟨asA_r (evO_spec rfl), asA_r (evO_spec rfl), trivial⟩) | ((first | refine' w_e rfl ?xa ?xb ?xc ?xe ?_ | refine' v_e rfl ?xa ?xb ?xc ?xe ?_); (case xa => exact e_invV [(1000000000, 1000000001)] KS rfl rfl rfl (asD_ren rfl) hT m_swap ⟨by rw [evO_spec rfl]; exact asD_r rfl, by rw [evO_spec rfl]; exact asD_r rfl, trivial⟩ (by (repeat' (first | exact trivial | refine subHR_cons rfl ?_ ?_ | rfl))) rfl); (case xb => rfl); (case xc => rfl); (case xe => rfl); try dsimp only [P0.d, Res.d, List.map_cons, List.map_nil, List.set_cons_zero, List.set_cons_succ, Nat.reduceAdd]) | ((first | refine aw_ways rfl ?_ ?_ | refine r_split rfl rfl rfl ?_ ?_) <;> intro hg_ <;> fail_if_success (exact Bool.noConfusion hg_)) <;> (try simp only [prn] at hg_) <;> (try first | contradiction | (exfalso; omega)))
      all_goals first
        | (exfalso; omega)
        | (exfalso; simp_all; done)
        | (have hb : b2 = false := by simp_all
           have hE : p = downH q i0 n0 := by rw [← h3, dif_pos (.inr hb)]
           exact ret_D [] rfl (by (repeat' (first | exact trivial | refine subHR_cons rfl ?_ ?_ | rfl | exact ob_sl rfl (by rw [hE])))) (retD_tmp rfl (fun _ _ _ _ _ => trivial)))
        | (have hb : b2 = true := by simp_all
           have hE : downH p' c n0 = downH q i0 n0 := by rw [← h3, dif_neg (by rintro (c4 | c4) <;> first | omega | (rw [hb] at c4; cases c4))]; rw [hcd]
           refine ⟨(p', c, true), ⟨by rw [hsl]; exact h1, by dsimp only; omega, hE⟩, by dsimp only; (refine weak_ren [] rfl ?_ ?_ <;> repeat' (first | exact trivial | refine subR_cons rfl ?_ ?_ | refine subHR_cons rfl ?_ ?_ | rfl | (refine d_int ?_; (first | rfl | omega | (rw [IntWalk.i64_in _ (by omega)] <;> omega) | (simp; done) | (simp; omega))) | (refine d_bool ?_; (first | (simp_all; done) | (rw [Bool.eq_iff_iff]; simp_all; done) | (rw [Bool.eq_iff_iff]; simp_all; omega) | (rw [Bool.eq_iff_iff]; simp; omega))) | exact d_int (by rw [hcd]; first | exact w1 | exact w2))), by dsimp only; omega⟩)
        | trace_state
/-! ## AHeapD -/
set_option maxRecDepth 100000 in
set_option maxHeartbeats 4000000 in
theorem f_heapPush (q : List (Int × Int)) (r : Int × Int) (hl : q.length ≤ 900) : FnS Tryd.prog 90 [.one (.clo (ifP 122) [(1000000000, 0)]), .one (.r false (R.val (rqI r)))] [(1000000000, .var 126 [.own 1000001 0 q.length 2]), (1000001, .sl 124 2 true (rQ q))] (.tup true []) [(1000000000, .var 126 [.own 2000001 0 (q.length + 1) 2]), (2000001, .sl 124 2 true (rQ (pushH q r)))] := by
  have hT := T_heap
  have KP := f_push q r (by omega)
  have hlA : (q ++ [r]).length = q.length + 1 := by rw [List.length_append]; rfl
  have hlR : (rQ (q ++ [r])).length = q.length + 1 := by rw [rQ_len, hlA]
  have KL := f_heapLen (rQ (q ++ [r])) (by omega)
  have KU := f_up (q ++ [r]) (q.length + 1) q.length hlA (by omega) (by omega)
  have hw : IntKind.i64.wrap (((rQ (q ++ [r])).length : Int) - 1) = (q.length : Int) := by rw [hlR, IntWalk.i64_in _ (by omega)]; omega
  rw [← hw] at KU
  unfold hpH at KU
  have hP : upH (q ++ [r]) q.length = pushH q r := rfl
  rw [hP] at KU
  generalize pushH q r = X at *
  refine fnS_of (l := []) Tryd.func90 (by kernel_rfl) rfl Tryd.ntmps90 rfl rfl ?_; simp only [dEnv, Nat.reduceAdd]
  repeat' (first | (with_reducible first | refine aw_seq ?_ | refine thn_normal ?_ | refine thn_ret ?_ | refine thn_exit ?_ | refine blk_normal ?_ | refine blk_ret ?_ | refine blk_hit ?_ | refine blk_miss rfl ?_ | refine aw_block ?_ | refine aw_ret ?_ | refine aw_skip ?_ | refine aw_exit ?_ | refine w_nil ?_ | refine x_nil (by kernel_rfl) ?_) | refine aw_region ?_ | refine aw_region_draw (by kernel_rfl) ?_ | refine aw_yes rfl ?_ | refine aw_no rfl ?_ | ((with_reducible refine w_seq ?_); first | refine r_q tbOk rfl rfl rfl rfl ?_ | refine r_e tbOk rfl rfl rfl rfl rfl ?_ | refine r_yes tbOk rfl rfl rfl rfl rfl rfl ?_ | refine w_no rfl rfl (lookO_spec rfl) rfl rfl rfl ?_ | refine w_un rfl rfl (lookO_spec rfl) rfl rfl ?_) | ((with_reducible refine w_drw ?_); first | refine rx_q tbOk rfl rfl rfl rfl ?_ | refine rx_e tbOk rfl rfl rfl rfl rfl ?_ | refine rx_yes tbOk rfl rfl rfl rfl rfl rfl ?_ | refine x_no rfl rfl (lookO_spec rfl) rfl rfl rfl ?_ | refine x_un rfl rfl (lookO_spec rfl) rfl rfl ?_) | ((first | refine' w_q rfl rfl ?xa rfl ?_ | refine' v_q rfl rfl ?xa rfl ?_ | refine' w_yes rfl rfl (lookO_spec rfl) rfl ?xa rfl ?_ | refine' v_yes rfl rfl (lookO_spec rfl) rfl ?xa rfl ?_); case xa => exact k_invV KL rfl rfl rfl (asA_cellH (lookHO_spec rfl) hlR.symm) hT m_len trivial) | ((first | refine' w_e rfl ?xa ?xb ?xc ?xe ?_ | refine' v_e rfl ?xa ?xb ?xc ?xe ?_); (case xa => first | exact e_invP [(2000001, 500)] KP rfl rfl (asD_ren rfl) m_push ⟨by rw [evO_spec rfl]; exact asD_r rfl, trivial⟩ (by (repeat' (first | exact trivial | refine subHR_cons rfl ?_ ?_ | rfl))) rfl | exact e_callS [(1000000001, 500)] KU rfl ⟨asD_ren (evO_spec rfl), by rw [evO_spec rfl]; exact asD_r rfl, trivial⟩ (by (repeat' (first | exact trivial | refine subHR_cons rfl ?_ ?_ | rfl))) rfl); (case xb => rfl); (case xc => rfl); (case xe => rfl); try dsimp only [P0.d, Res.d, List.map_cons, List.map_nil, List.set_cons_zero, List.set_cons_succ, Nat.reduceAdd]) | ((first | refine aw_ways rfl ?_ ?_ | refine r_split rfl rfl rfl ?_ ?_) <;> intro hg_ <;> fail_if_success (exact Bool.noConfusion hg_)) <;> (try simp only [prn] at hg_) <;> (try first | contradiction | (exfalso; omega)))
  all_goals first
    | exact end_D [(2000001, 500)] rfl (by (repeat' (first | exact trivial | refine subHR_cons rfl ?_ ?_ | rfl))) ⟨_, rfl, imp_refl rfl⟩
    | trace_state
set_option maxRecDepth 100000 in
set_option maxHeartbeats 4000000 in
theorem f_heapPop (q : List (Int × Int)) (k : Nat) (hq : q.length = k + 1) (hH : Hp q.length q) (hl : k ≤ 900) : FnS Tryd.prog 89 [.one (.clo (ifP 122) [(1000000000, 0)])] [(1000000000, .var 126 [.own 1000000001 0 (k + 1) 2]), (1000000001, .sl 124 2 true (rQ q))] (.one (.r true (R.val (rqI (popR q))))) [(1000000000, .var 126 [.own 1000000001 0 k 2]), (1000000001, .sl 124 2 true (rQ (popH q)))] := by
  have hT := T_heap
  obtain ⟨_, _, _, p4, p5, p6⟩ := popH_spec hH (fun c => by rw [c] at hq; cases hq)
  have hlR : (rQ q).length = k + 1 := by rw [rQ_len, hq]
  have KL := f_heapLen (rQ q) (by omega)
  have KS := f_swap q (k + 1) 0 k hq (by omega) (by omega)
  have KD := f_down (swp q 0 k) (k + 1) 0 k (by rw [swp_len, hq]) (by omega) (by omega) (by omega)
  have hQ : downH (swp q 0 k) 0 k = popH q ++ [popR q] := by
    rw [← p6]; unfold popQ; rw [hq]; rfl
  rw [hQ] at KD
  have KM := f_popM (popH q) (popR q) (by omega)
  have hpl : (popH q).length = k := by omega
  rw [hpl] at KM
  have hw : IntKind.i64.wrap (((rQ q).length : Int) - 1) = (k : Int) := by rw [hlR, IntWalk.i64_in _ (by omega)]; omega
  rw [← hw] at KS KD
  unfold hpH at KD
  generalize popH q ++ [popR q] = X at *
  generalize swp q 0 k = Y at *
  refine fnS_of (l := [.tmp 2]) Tryd.func89 (by kernel_rfl) rfl Tryd.ntmps89 rfl rfl ?_; simp only [dEnv, Nat.reduceAdd]
  repeat' (first | (with_reducible first | refine aw_seq ?_ | refine thn_normal ?_ | refine thn_ret ?_ | refine thn_exit ?_ | refine blk_normal ?_ | refine blk_ret ?_ | refine blk_hit ?_ | refine blk_miss rfl ?_ | refine aw_block ?_ | refine aw_ret ?_ | refine aw_skip ?_ | refine aw_exit ?_ | refine w_nil ?_ | refine x_nil (by kernel_rfl) ?_) | refine aw_region ?_ | refine aw_region_draw (by kernel_rfl) ?_ | refine aw_yes rfl ?_ | refine aw_no rfl ?_ | ((with_reducible refine w_seq ?_); first | refine r_q tbOk rfl rfl rfl rfl ?_ | refine r_e tbOk rfl rfl rfl rfl rfl ?_ | refine r_yes tbOk rfl rfl rfl rfl rfl rfl ?_ | refine w_no rfl rfl (lookO_spec rfl) rfl rfl rfl ?_ | refine w_un rfl rfl (lookO_spec rfl) rfl rfl ?_) | ((with_reducible refine w_drw ?_); first | refine rx_q tbOk rfl rfl rfl rfl ?_ | refine rx_e tbOk rfl rfl rfl rfl rfl ?_ | refine rx_yes tbOk rfl rfl rfl rfl rfl rfl ?_ | refine x_no rfl rfl (lookO_spec rfl) rfl rfl rfl ?_ | refine x_un rfl rfl (lookO_spec rfl) rfl rfl ?_) | ((first | refine' w_q rfl rfl ?xa rfl ?_ | refine' v_q rfl rfl ?xa rfl ?_ | refine' w_yes rfl rfl (lookO_spec rfl) rfl ?xa rfl ?_ | refine' v_yes rfl rfl (lookO_spec rfl) rfl ?xa rfl ?_); case xa => exact k_invV KL rfl rfl rfl (asA_cellH (lookHO_spec rfl) hlR.symm) hT m_len trivial) | ((first | refine' w_e rfl ?xa ?xb ?xc ?xe ?_ | refine' v_e rfl ?xa ?xb ?xc ?xe ?_); (case xa => first | exact e_invV [(1000000000, 1000000001)] KS rfl rfl rfl (asD_ren rfl) hT m_swap ⟨by rw [evO_spec rfl]; exact asD_r rfl, by rw [evO_spec rfl]; exact asD_r rfl, trivial⟩ (by (repeat' (first | exact trivial | refine subHR_cons rfl ?_ ?_ | rfl))) rfl | exact e_callS [] KD rfl ⟨asD_ren (evO_spec rfl), by rw [evO_spec rfl]; exact asD_r rfl, by rw [evO_spec rfl]; exact asD_r rfl, trivial⟩ (by (repeat' (first | exact trivial | refine subHR_cons rfl ?_ ?_ | rfl))) rfl | exact e_invP [] KM rfl rfl (asD_ren rfl) m_pop trivial (by (repeat' (first | exact trivial | refine subHR_cons rfl ?_ ?_ | rfl))) rfl); (case xb => rfl); (case xc => rfl); (case xe => rfl); try dsimp only [P0.d, Res.d, List.map_cons, List.map_nil, List.set_cons_zero, List.set_cons_succ, Nat.reduceAdd]) | ((first | refine aw_ways rfl ?_ ?_ | refine r_split rfl rfl rfl ?_ ?_) <;> intro hg_ <;> fail_if_success (exact Bool.noConfusion hg_)) <;> (try simp only [prn] at hg_) <;> (try first | contradiction | (exfalso; omega)))
  all_goals first
    | exact ret_D [] rfl (by (repeat' (first | exact trivial | refine subHR_cons rfl ?_ ?_ | rfl))) (retD_tmp rfl (imp_refl rfl))
    | trace_state
end Go.Proofs.YthjnidcmhegoeaaDoor.Abs
