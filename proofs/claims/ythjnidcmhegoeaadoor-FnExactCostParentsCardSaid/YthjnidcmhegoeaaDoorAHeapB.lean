/- Heaps by states: container/heap. No statement of the seat is proved here. -/
import Derived.Test.YthjnidcmhegoeaaDoorTy
import Derived.Lib.Hide
import Derived.Test.YthjnidcmhegoeaaDoorAHeap
set_option linter.unusedSimpArgs false
set_option linter.unusedVariables false
namespace Go.Proofs.YthjnidcmhegoeaaDoor.Abs
open Go.RowKit
open R (val row ref)

def takeO (m : Nat) : Ob → Ob
  | .sl E sz n els => .sl E sz n (els.take m)
  | .var E cs => .var E cs
theorem takeO_p {m : Nat} {ι : Nat → Nat × Nat} {base : Nat} {c : Cx} {b : Nat × Nat} : ∀ {ob : Ob}, ob.p ι base c b → (takeO m ob).p ι base c b
  | .sl E sz n els, ⟨arr, h1, h2, h3⟩ => by
    have hl : (els.take m).length * sz ≤ els.length * sz := Nat.mul_le_mul_right _ (by rw [List.length_take]; omega)
    refine ⟨arr, h1, by omega, fun i e he => h3 i e ?_⟩
    rw [List.getElem?_take] at he
    split at he
    · exact he
    · cases he
  | .var E cs, h => h
def tkH (k m : Nat) : List (Nat × Ob) → List (Nat × Ob)
  | [] => []
  | (u, ob) :: h => (u, bif Nat.beq u k then takeO m ob else ob) :: tkH k m h
theorem lookH_tkH (k m x : Nat) : ∀ h : List (Nat × Ob), lookH (tkH k m h) x = (lookH h x).map (fun ob => bif Nat.beq x k then takeO m ob else ob)
  | [] => rfl
  | (u, ob) :: h => by
    have ih := lookH_tkH k m x h
    simp only [tkH, lookH, upd]
    by_cases hu : x = u
    · subst hu
      rw [if_pos rfl, if_pos rfl]; rfl
    · rw [if_neg hu, if_neg hu]; exact ih
/-- A row is shortened. -/
theorem weak_take {n : Nat} {l : List (Nat × D)} {h : List (Nat × Ob)} (k m : Nat) : Weak (mkS n l h) (mkS n l (tkH k m h)) := by
  rintro w0 a w ⟨ι, own, hs⟩
  have get : ∀ x ob, lookH (tkH k m h) x = some ob → ∃ o, lookH h x = some o ∧ (ob = o ∨ ob = takeO m o) := fun x ob hx => by
    rw [lookH_tkH, Option.map_eq_some_iff] at hx
    obtain ⟨o, ho, rfl⟩ := hx
    refine ⟨o, ho, ?_⟩
    cases Nat.beq x k
    · exact .inl rfl
    · exact .inr rfl
  refine ⟨ι, own, hs.below, hs.base_, hs.own_, hs.keep, hs.frm, hs.size, hs.env, fun x ob hx => ?_, fun x ob hx => ?_, fun x x' ob ob' hx hx' e => ?_, hs.defers, hs.pin⟩
  · obtain ⟨o, ho, h1⟩ := get x ob hx
    obtain ⟨q1, q2⟩ := hs.heap x o ho
    rcases h1 with rfl | rfl
    · exact ⟨q1, q2⟩
    · exact ⟨q1, takeO_p q2⟩
  · obtain ⟨o, ho, _⟩ := get x ob hx
    exact hs.place x o ho
  · obtain ⟨o, ho, _⟩ := get x ob hx
    obtain ⟨o', ho', _⟩ := get x' ob' hx'
    exact hs.inj x x' o o' ho ho' e
theorem pair_plain (a b : Int) : ∀ x ∈ [P0.agg [int a, int b]], plain1 x = true := fun x hx => by
  obtain rfl : x = P0.agg [int a, int b] := by simpa using hx
  rfl
theorem u_reached : ∃ u, Tryd.prog.underlying 124 = some u ∧ ∀ ms, u ≠ .interface ms := ⟨_, Tryd.underlying124, fun ms h => by cases h⟩
theorem u_preached : ∃ u, Tryd.prog.underlying 122 = some u ∧ ∀ ms, u ≠ .interface ms := ⟨_, Tryd.underlying122, fun ms h => by cases h⟩
theorem ovarH {E : TypeId} {a b : Cell} (h : a = b) : Ob.var E [a] = .var E [b] := by rw [h]
theorem cellH {k n n' sz : Nat} (h : n = n') : Cell.own k 0 n sz = .own k 0 n' sz := by rw [h]
/-- The interface value of a vertex with its cost. -/
def rqI (r : Int × Int) : Value := .iface 124 (.agg #[.int .i64 r.1, .int .i64 r.2])
set_option maxRecDepth 100000 in
set_option maxHeartbeats 4000000 in
theorem f_push (q : List (Int × Int)) (r : Int × Int) (hl : q.length ≤ 1000) : FnS Tryd.prog 140 [.one (.ptr 1000000000 0 0 0), .one (.r false (R.val (rqI r)))] [(1000000000, .var 126 [.own 1000001 0 q.length 2]), (1000001, .sl 124 2 true (rQ q))] (.tup true []) [(1000000000, .var 126 [.own 2000001 0 (q.length + 1) 2]), (2000001, .sl 124 2 true (rQ (q ++ [r])))] := by
  have hlen := rQ_len q
  obtain ⟨u, hu, hni⟩ := u_reached
  have hE := rQ_app q r
  obtain ⟨c, v⟩ := r
  unfold rqP at hE
  unfold rqI
  dsimp only at hE ⊢
  refine fnS_of (l := []) Tryd.func140 (by kernel_rfl) rfl Tryd.ntmps140 rfl rfl ?_; simp only [dEnv, Nat.reduceAdd]
  repeat' (first | (with_reducible first | refine aw_seq ?_ | refine thn_normal ?_ | refine thn_ret ?_ | refine thn_exit ?_ | refine blk_normal ?_ | refine blk_ret ?_ | refine blk_hit ?_ | refine blk_miss rfl ?_ | refine aw_block ?_ | refine aw_ret ?_ | refine aw_skip ?_ | refine aw_exit ?_ | refine w_nil ?_ | refine x_nil (by kernel_rfl) ?_) | refine aw_region ?_ | refine aw_region_draw (by kernel_rfl) ?_ | refine aw_yes rfl ?_ | refine aw_no rfl ?_ | ((with_reducible refine w_seq ?_); first | refine r_q tbOk rfl rfl rfl rfl ?_ | refine r_e tbOk rfl rfl rfl rfl rfl ?_ | refine r_yes tbOk rfl rfl rfl rfl rfl rfl ?_ | refine w_no rfl rfl (lookO_spec rfl) rfl rfl rfl ?_ | refine w_un rfl rfl (lookO_spec rfl) rfl rfl ?_) | ((with_reducible refine w_drw ?_); first | refine rx_q tbOk rfl rfl rfl rfl ?_ | refine rx_e tbOk rfl rfl rfl rfl rfl ?_ | refine rx_yes tbOk rfl rfl rfl rfl rfl rfl ?_ | refine x_no rfl rfl (lookO_spec rfl) rfl rfl rfl ?_ | refine x_un rfl rfl (lookO_spec rfl) rfl rfl ?_) | ((first | refine' w_q rfl rfl ?xa rfl ?_ | refine' v_q rfl rfl ?xa rfl ?_ | refine' w_yes rfl rfl (lookO_spec rfl) rfl ?xa rfl ?_ | refine' v_yes rfl rfl (lookO_spec rfl) rfl ?xa rfl ?_); case xa => exact k_assert hu hni rfl rfl) | ((first | refine' w_e rfl ?xa ?xb ?xc ?xe ?_ | refine' v_e rfl ?xa ?xb ?xc ?xe ?_); (case xa => first | exact e_build [.tmp 16] tlOk rfl rfl rfl rfl rfl rfl (allN_one rfl) (by simp) | exact e_append tlOk rfl rfl rfl rfl rfl rfl (slD_plain (slD_own (lookHO_spec rfl) rfl) (pair_plain _ _)) hlen.symm (by simp only [maxLen, List.length_cons, List.length_nil]; omega) (by simp only [List.length_cons, List.length_nil]; omega)); (case xb => rfl); (case xc => rfl); (case xe => rfl); try dsimp only [P0.d, Res.d, List.map_cons, List.map_nil, List.set_cons_zero, List.set_cons_succ, Nat.reduceAdd]) | ((first | refine aw_ways rfl ?_ ?_ | refine r_split rfl rfl rfl ?_ ?_) <;> intro hg_ <;> fail_if_success (exact Bool.noConfusion hg_)) <;> (try simp only [prn] at hg_) <;> (try first | contradiction | (exfalso; omega)))
  all_goals first
    | exact end_D [(2000001, 18)] rfl (by (repeat' (first | exact trivial | refine subHR_cons rfl ?_ ?_ | rfl | exact ovarH (cellH (by simp [hlen])) | exact ob_sl rfl hE))) ⟨_, rfl, imp_refl rfl⟩
    | trace_state
set_option maxRecDepth 100000 in
set_option maxHeartbeats 4000000 in
theorem f_popM (q : List (Int × Int)) (r : Int × Int) (hl : q.length ≤ 1000) : FnS Tryd.prog 139 [.one (.ptr 1000000000 0 0 0)] [(1000000000, .var 126 [.own 1000000001 0 (q.length + 1) 2]), (1000000001, .sl 124 2 true (rQ (q ++ [r])))] (.one (.r true (R.val (rqI r)))) [(1000000000, .var 126 [.own 1000000001 0 q.length 2]), (1000000001, .sl 124 2 true (rQ q))] := by
  have hlen := rQ_len q
  obtain ⟨u, hu, hni⟩ := u_reached
  have hE := rQ_app q r
  have hlE : (rQ (q ++ [r])).length = q.length + 1 := by rw [rQ_len, List.length_append]; rfl
  have hw : IntKind.i64.wrap (((q.length + 1 : Nat) : Int) - 1) = (q.length : Int) := by rw [IntWalk.i64_in _ (by omega)]; omega
  have hat : (rQ (q ++ [r]))[0 + (IntKind.i64.wrap (((q.length + 1 : Nat) : Int) - 1)).toNat]? = some (rqP r) := by
    rw [hw, Nat.zero_add, Int.toNat_natCast, ← hE, List.getElem?_append_right (by omega), hlen, Nat.sub_self]; rfl
  have hT : takeO q.length (.sl 124 2 true (rQ (q ++ [r]))) = .sl 124 2 true (rQ q) := by
    unfold takeO
    dsimp only
    rw [rQ_take, List.take_left]
  obtain ⟨c, v⟩ := r
  unfold rqP at hat
  unfold rqI
  dsimp only at hat ⊢
  refine fnS_of (l := [.tmp 2]) Tryd.func139 (by kernel_rfl) rfl Tryd.ntmps139 rfl rfl ?_; simp only [dEnv, Nat.reduceAdd]
  repeat' (first | (with_reducible first | refine aw_seq ?_ | refine thn_normal ?_ | refine thn_ret ?_ | refine thn_exit ?_ | refine blk_normal ?_ | refine blk_ret ?_ | refine blk_hit ?_ | refine blk_miss rfl ?_ | refine aw_block ?_ | refine aw_ret ?_ | refine aw_skip ?_ | refine aw_exit ?_ | refine w_nil ?_ | refine x_nil (by kernel_rfl) ?_) | refine aw_region ?_ | refine aw_region_draw (by kernel_rfl) ?_ | refine aw_yes rfl ?_ | refine aw_no rfl ?_ | ((with_reducible refine w_seq ?_); first | refine r_q tbOk rfl rfl rfl rfl ?_ | refine r_e tbOk rfl rfl rfl rfl rfl ?_ | refine r_yes tbOk rfl rfl rfl rfl rfl rfl ?_ | refine w_no rfl rfl (lookO_spec rfl) rfl rfl rfl ?_ | refine w_un rfl rfl (lookO_spec rfl) rfl rfl ?_) | ((with_reducible refine w_drw ?_); first | refine rx_q tbOk rfl rfl rfl rfl ?_ | refine rx_e tbOk rfl rfl rfl rfl rfl ?_ | refine rx_yes tbOk rfl rfl rfl rfl rfl rfl ?_ | refine x_no rfl rfl (lookO_spec rfl) rfl rfl rfl ?_ | refine x_un rfl rfl (lookO_spec rfl) rfl rfl ?_) | ((first | refine' w_q rfl rfl ?xa rfl ?_ | refine' v_q rfl rfl ?xa rfl ?_ | refine' w_yes rfl rfl (lookO_spec rfl) rfl ?xa rfl ?_ | refine' v_yes rfl rfl (lookO_spec rfl) rfl ?xa rfl ?_); case xa => first | exact k_indexO tbOk rfl rfl rfl rfl (by omega) (by omega) | exact k_at 15 rfl (k_loadS (e := P0.agg [int c, int v]) tbOk rfl rfl rfl rfl hat rfl (Nat.le_refl 2) (.inl rfl)) | exact k_sliceO (a := 0) (b := q.length) tbOk rfl rfl rfl rfl ⟨_, by rw [evO_spec rfl, hw]⟩ (by omega) (by omega) | exact k_ifA hu hni rfl rfl) | ((first | refine aw_ways rfl ?_ ?_ | refine r_split rfl rfl rfl ?_ ?_) <;> intro hg_ <;> fail_if_success (exact Bool.noConfusion hg_)) <;> (try simp only [prn] at hg_) <;> (try first | contradiction | (exfalso; omega)))
  all_goals first
    | exact ret_W (weak_take 1000000001 q.length) (ret_D [] rfl (by (repeat' (first | exact trivial | refine subHR_cons rfl ?_ ?_ | rfl | exact hT | exact ovarH (cellH (by simp))))) (retD_tmp rfl (imp_refl rfl)))
    | trace_state
end Go.Proofs.YthjnidcmhegoeaaDoor.Abs
