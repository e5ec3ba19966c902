/- By states: the reader from which the laws draw. No statement of the seat is proved here. -/
import Derived.Test.YtfdaoepbdolgiaaDoorTy
import Derived.Lib.Hide
import Derived.Test.YtfdaoepbdolgiaaDoorADiv
set_option linter.unusedSimpArgs false
set_option linter.unusedVariables false
namespace Go.Proofs.YtfdaoepbdolgiaaDoor.Abs
open Go.RowKit
open R (val row ref)

abbrev byP (b : Int) : P0 := .one (R.val (.int .u8 b))
def bys (bs : List Int) : List P0 := bs.map byP
theorem bys_len (bs : List Int) : (bys bs).length = bs.length := List.length_map ..
def Byte (bs : List Int) : Prop := ∀ z ∈ bs, 0 ≤ z ∧ z ≤ 255
theorem bys_at {bs : List Int} {i : Int} (h0 : 0 ≤ i) (h1 : i < bs.length) : (bys bs)[i.toNat]? = some (byP (dV bs i)) := by
  have h : i.toNat < bs.length := by omega
  unfold bys dV
  rw [List.getElem?_map, List.getElem?_eq_getElem h, List.getD_eq_getElem?_getD, List.getElem?_eq_getElem h]; rfl
theorem byte_at {bs : List Int} (hb : Byte bs) {i : Int} (h0 : 0 ≤ i) (h1 : i < bs.length) : 0 ≤ dV bs i ∧ dV bs i ≤ 255 := by
  have h : i.toNat < bs.length := by omega
  unfold dV
  rw [List.getD_eq_getElem?_getD, List.getElem?_eq_getElem h]
  exact hb _ (List.getElem_mem h)
/-- The reader in a variable: its bytes, its place. -/
def rdH (k : Nat) (m1 m2 nb : Bool) (bs : List Int) (p : Int) : List (Nat × Ob) := [(k, .var 85 [.r m1 (row nb 1 (bys bs)), .r m2 (int p)])]
set_option maxRecDepth 100000 in
set_option maxHeartbeats 2000000 in
theorem pick_ex (bs : List Int) (p n : Int) (hB : Byte bs) (hl : bs.length ≤ 2000) (hp0 : 0 ≤ p) (hp : p ≤ 1000000) :
    ∃ v : Int, (0 ≤ v ∧ (v < n ∨ v = 0)) ∧ ∀ m1 m2 nb, FnS Tryd.prog 54 [.one (.ptr 1000000000 0 0 0), .one (.r false (int n))] (rdH 1000000000 m1 m2 nb bs p) (.one (.r true (int v))) (rdH 1000000000 m1 true nb bs (p + 1)) := by
  have hlb := bys_len bs
  have hw1 : IntKind.i64.wrap (p + 1) = p + 1 := IntWalk.i64_in _ (by omega)
  have hw2 : IntKind.i64.wrap (p + 1 - 1) = p := by rw [IntWalk.i64_in _ (by omega)]; omega
  unfold rdH
  by_cases hn : n < 1
  · refine ⟨0, ⟨Int.le_refl _, .inr rfl⟩, ?_⟩
    intro m1 m2 nb
    refine fnS_of (l := [.tmp 4]) Tryd.func54 (by kernel_rfl) rfl Tryd.ntmps54 rfl rfl ?_; simp only [dEnv, Nat.reduceAdd]
    repeat' (first | (with_reducible first | refine aw_seq ?_ | refine thn_normal ?_ | refine thn_ret ?_ | refine thn_exit ?_ | refine blk_normal ?_ | refine blk_ret ?_ | refine blk_hit ?_ | refine blk_miss rfl ?_ | refine aw_block ?_ | refine aw_ret ?_ | refine aw_skip ?_ | refine aw_exit ?_ | refine w_nil ?_ | refine x_nil (by kernel_rfl) ?_) | refine aw_region ?_ | refine aw_region_draw (by kernel_rfl) ?_ | refine aw_yes rfl ?_ | refine aw_no rfl ?_ | ((with_reducible refine w_seq ?_); first | refine r_q tbOk rfl rfl rfl rfl ?_ | refine r_e tbOk rfl rfl rfl rfl rfl ?_ | refine r_yes tbOk rfl rfl rfl rfl rfl rfl ?_ | refine w_no rfl rfl (lookO_spec rfl) rfl rfl rfl ?_ | refine w_un rfl rfl (lookO_spec rfl) rfl rfl ?_) | ((with_reducible refine w_drw ?_); first | refine rx_q tbOk rfl rfl rfl rfl ?_ | refine rx_e tbOk rfl rfl rfl rfl rfl ?_ | refine rx_yes tbOk rfl rfl rfl rfl rfl rfl ?_ | refine x_no rfl rfl (lookO_spec rfl) rfl rfl rfl ?_ | refine x_un rfl rfl (lookO_spec rfl) rfl rfl ?_) | ((first | refine aw_ways rfl ?_ ?_ | refine r_split rfl rfl rfl ?_ ?_) <;> intro hg_ <;> fail_if_success (exact Bool.noConfusion hg_)) <;> (try simp only [prn] at hg_) <;> (try first | contradiction | (exfalso; omega)))
    rw [hw1]
    exact ret_D [] rfl (by (repeat' (first | exact trivial | refine subHR_cons rfl ?_ ?_ | rfl))) (retD_int rfl rfl rfl)
  by_cases h0 : bs.length = 0
  · refine ⟨0, ⟨Int.le_refl _, .inr rfl⟩, ?_⟩
    intro m1 m2 nb
    refine fnS_of (l := [.tmp 4]) Tryd.func54 (by kernel_rfl) rfl Tryd.ntmps54 rfl rfl ?_; simp only [dEnv, Nat.reduceAdd]
    repeat' (first | (with_reducible first | refine aw_seq ?_ | refine thn_normal ?_ | refine thn_ret ?_ | refine thn_exit ?_ | refine blk_normal ?_ | refine blk_ret ?_ | refine blk_hit ?_ | refine blk_miss rfl ?_ | refine aw_block ?_ | refine aw_ret ?_ | refine aw_skip ?_ | refine aw_exit ?_ | refine w_nil ?_ | refine x_nil (by kernel_rfl) ?_) | refine aw_region ?_ | refine aw_region_draw (by kernel_rfl) ?_ | refine aw_yes rfl ?_ | refine aw_no rfl ?_ | ((with_reducible refine w_seq ?_); first | refine r_q tbOk rfl rfl rfl rfl ?_ | refine r_e tbOk rfl rfl rfl rfl rfl ?_ | refine r_yes tbOk rfl rfl rfl rfl rfl rfl ?_ | refine w_no rfl rfl (lookO_spec rfl) rfl rfl rfl ?_ | refine w_un rfl rfl (lookO_spec rfl) rfl rfl ?_) | ((with_reducible refine w_drw ?_); first | refine rx_q tbOk rfl rfl rfl rfl ?_ | refine rx_e tbOk rfl rfl rfl rfl rfl ?_ | refine rx_yes tbOk rfl rfl rfl rfl rfl rfl ?_ | refine x_no rfl rfl (lookO_spec rfl) rfl rfl rfl ?_ | refine x_un rfl rfl (lookO_spec rfl) rfl rfl ?_) | ((first | refine aw_ways rfl ?_ ?_ | refine r_split rfl rfl rfl ?_ ?_) <;> intro hg_ <;> fail_if_success (exact Bool.noConfusion hg_)) <;> (try simp only [prn] at hg_) <;> (try first | contradiction | (exfalso; omega)))
    rw [hw1]
    exact ret_D [] rfl (by (repeat' (first | exact trivial | refine subHR_cons rfl ?_ ?_ | rfl))) (retD_int rfl rfl rfl)
  have hw3 : IntKind.i64.wrap (IntKind.i64.wrap (p + 1) - 1) = p := by rw [hw1, hw2]
  have hL : 0 < (bs.length : Int) := by omega
  by_cases hk : p < bs.length
  · obtain ⟨z0, z1⟩ := byte_at hB hp0 hk
    have hz : IntKind.i64.wrap (dV bs p) = dV bs p := IntWalk.i64_in _ (by omega)
    refine ⟨(dV bs p).tmod n, ⟨Int.tmod_nonneg _ z0, .inl (Int.tmod_lt_of_pos _ (by omega))⟩, ?_⟩
    intro m1 m2 nb
    refine fnS_of (l := [.tmp 4]) Tryd.func54 (by kernel_rfl) rfl Tryd.ntmps54 rfl rfl ?_; simp only [dEnv, Nat.reduceAdd]
    repeat' (first | (with_reducible first | refine aw_seq ?_ | refine thn_normal ?_ | refine thn_ret ?_ | refine thn_exit ?_ | refine blk_normal ?_ | refine blk_ret ?_ | refine blk_hit ?_ | refine blk_miss rfl ?_ | refine aw_block ?_ | refine aw_ret ?_ | refine aw_skip ?_ | refine aw_exit ?_ | refine w_nil ?_ | refine x_nil (by kernel_rfl) ?_) | refine aw_region ?_ | refine aw_region_draw (by kernel_rfl) ?_ | refine aw_yes rfl ?_ | refine aw_no rfl ?_ | ((with_reducible refine w_seq ?_); first | refine r_q tbOk rfl rfl rfl rfl ?_ | refine r_e tbOk rfl rfl rfl rfl rfl ?_ | refine r_yes tbOk rfl rfl rfl rfl rfl rfl ?_ | refine w_no rfl rfl (lookO_spec rfl) rfl rfl rfl ?_ | refine w_un rfl rfl (lookO_spec rfl) rfl rfl ?_) | ((with_reducible refine w_drw ?_); first | refine rx_q tbOk rfl rfl rfl rfl ?_ | refine rx_e tbOk rfl rfl rfl rfl rfl ?_ | refine rx_yes tbOk rfl rfl rfl rfl rfl rfl ?_ | refine x_no rfl rfl (lookO_spec rfl) rfl rfl rfl ?_ | refine x_un rfl rfl (lookO_spec rfl) rfl rfl ?_) | ((first | refine' w_q rfl rfl ?xa rfl ?_ | refine' v_q rfl rfl ?xa rfl ?_ | refine' w_yes rfl rfl (lookO_spec rfl) rfl ?xa rfl ?_ | refine' v_yes rfl rfl (lookO_spec rfl) rfl ?xa rfl ?_); case xa => first | exact k_index tbOk rfl rfl rfl rfl (by omega) (by exact bys_at (by omega) (by omega)) | exact k_conv u_u8 u_i64 rfl rfl | exact k_rem rfl rfl rfl (by omega)) | ((first | refine aw_ways rfl ?_ ?_ | refine r_split rfl rfl rfl ?_ ?_) <;> intro hg_ <;> fail_if_success (exact Bool.noConfusion hg_)) <;> (try simp only [prn] at hg_) <;> (try first | contradiction | (exfalso; omega)))
    rw [hw1]
    exact ret_D [] rfl (by (repeat' (first | exact trivial | refine subHR_cons rfl ?_ ?_ | rfl))) (retD_int rfl rfl (by rw [hw2, hz]))
  · have t1 : 0 ≤ p.tmod bs.length ∧ p.tmod bs.length < bs.length := ⟨Int.tmod_nonneg _ hp0, Int.tmod_lt_of_pos _ hL⟩
    have t2 : 0 ≤ (p * 7 + 3).tmod bs.length ∧ (p * 7 + 3).tmod bs.length < bs.length := ⟨Int.tmod_nonneg _ (by omega), Int.tmod_lt_of_pos _ hL⟩
    have a1 : IntKind.i64.wrap (p * 7) = p * 7 := IntWalk.i64_in _ (by omega)
    have a2 : IntKind.i64.wrap (p * 7 + 3) = p * 7 + 3 := IntWalk.i64_in _ (by omega)
    obtain ⟨z0, z1⟩ := byte_at hB t1.1 t1.2
    obtain ⟨y0, y1⟩ := byte_at hB t2.1 t2.2
    have q0 : 0 ≤ p.tdiv bs.length := Int.tdiv_nonneg hp0 (by omega)
    have q1 : p.tdiv bs.length ≤ p := Int.tdiv_le_self _ hp0
    have hm1 : 0 ≤ Int.tmod (IntKind.i64.wrap (IntKind.i64.wrap (p + 1) - 1)) ((bys bs).length : Int) ∧ Int.tmod (IntKind.i64.wrap (IntKind.i64.wrap (p + 1) - 1)) ((bys bs).length : Int) < bs.length := by rw [hw3, hlb]; exact t1
    have hm2 : 0 ≤ Int.tmod (IntKind.i64.wrap (IntKind.i64.wrap (IntKind.i64.wrap (IntKind.i64.wrap (p + 1) - 1) * 7) + 3)) ((bys bs).length : Int) ∧ Int.tmod (IntKind.i64.wrap (IntKind.i64.wrap (IntKind.i64.wrap (IntKind.i64.wrap (p + 1) - 1) * 7) + 3)) ((bys bs).length : Int) < bs.length := by rw [hw3, a1, a2, hlb]; exact t2
    have hX : ∃ X : Int, X = dV bs (p.tmod bs.length) * 131 + dV bs ((p * 7 + 3).tmod bs.length) * 1117 + p * 29 + p.tdiv bs.length * 53 := ⟨_, rfl⟩
    obtain ⟨X, hX⟩ := hX
    have hXr : 0 ≤ X ∧ X ≤ 1000000000 := by omega
    have b1 : IntKind.i64.wrap (dV bs (p.tmod bs.length)) = dV bs (p.tmod bs.length) := IntWalk.i64_in _ (by omega)
    have b2 : IntKind.i64.wrap (dV bs ((p * 7 + 3).tmod bs.length)) = dV bs ((p * 7 + 3).tmod bs.length) := IntWalk.i64_in _ (by omega)
    have b3 : IntKind.i64.wrap (dV bs (p.tmod bs.length) * 131) = dV bs (p.tmod bs.length) * 131 := IntWalk.i64_in _ (by omega)
    have b4 : IntKind.i64.wrap (dV bs ((p * 7 + 3).tmod bs.length) * 1117) = dV bs ((p * 7 + 3).tmod bs.length) * 1117 := IntWalk.i64_in _ (by omega)
    have b5 : IntKind.i64.wrap (dV bs (p.tmod bs.length) * 131 + dV bs ((p * 7 + 3).tmod bs.length) * 1117) = dV bs (p.tmod bs.length) * 131 + dV bs ((p * 7 + 3).tmod bs.length) * 1117 := IntWalk.i64_in _ (by omega)
    have b6 : IntKind.i64.wrap (p * 29) = p * 29 := IntWalk.i64_in _ (by omega)
    have b7 : IntKind.i64.wrap (dV bs (p.tmod bs.length) * 131 + dV bs ((p * 7 + 3).tmod bs.length) * 1117 + p * 29) = dV bs (p.tmod bs.length) * 131 + dV bs ((p * 7 + 3).tmod bs.length) * 1117 + p * 29 := IntWalk.i64_in _ (by omega)
    have b8 : IntKind.i64.wrap (p.tdiv bs.length) = p.tdiv bs.length := IntWalk.i64_in _ (by omega)
    have b9 : IntKind.i64.wrap (p.tdiv bs.length * 53) = p.tdiv bs.length * 53 := IntWalk.i64_in _ (by omega)
    have b10 : IntKind.i64.wrap (dV bs (p.tmod bs.length) * 131 + dV bs ((p * 7 + 3).tmod bs.length) * 1117 + p * 29 + p.tdiv bs.length * 53) = X := by rw [← hX]; exact IntWalk.i64_in _ (by omega)
    have c0 : 0 ≤ X.tdiv 64 := Int.tdiv_nonneg hXr.1 (by omega)
    have c1 : X.tdiv 64 ≤ X := Int.tdiv_le_self _ hXr.1
    have c2 : IntKind.i64.wrap (X.tdiv 64) = X.tdiv 64 := IntWalk.i64_in _ (by omega)
    have hN : 0 ≤ bits .xor .i64 X (X.tdiv 64) := by
      have e := xor64 X.toNat (X.tdiv 64).toNat (by omega) (by omega)
      rw [Int.toNat_of_nonneg hXr.1, Int.toNat_of_nonneg c0] at e
      rw [e]; omega
    refine ⟨(bits .xor .i64 X (X.tdiv 64)).tmod n, ⟨Int.tmod_nonneg _ hN, .inl (Int.tmod_lt_of_pos _ (by omega))⟩, ?_⟩
    intro m1 m2 nb
    refine fnS_of (l := [.tmp 4]) Tryd.func54 (by kernel_rfl) rfl Tryd.ntmps54 rfl rfl ?_; simp only [dEnv, Nat.reduceAdd]
    repeat' (first | (with_reducible first | refine aw_seq ?_ | refine thn_normal ?_ | refine thn_ret ?_ | refine thn_exit ?_ | refine blk_normal ?_ | refine blk_ret ?_ | refine blk_hit ?_ | refine blk_miss rfl ?_ | refine aw_block ?_ | refine aw_ret ?_ | refine aw_skip ?_ | refine aw_exit ?_ | refine w_nil ?_ | refine x_nil (by kernel_rfl) ?_) | refine aw_region ?_ | refine aw_region_draw (by kernel_rfl) ?_ | refine aw_yes rfl ?_ | refine aw_no rfl ?_ | ((with_reducible refine w_seq ?_); first | refine r_q tbOk rfl rfl rfl rfl ?_ | refine r_e tbOk rfl rfl rfl rfl rfl ?_ | refine r_yes tbOk rfl rfl rfl rfl rfl rfl ?_ | refine w_no rfl rfl (lookO_spec rfl) rfl rfl rfl ?_ | refine w_un rfl rfl (lookO_spec rfl) rfl rfl ?_) | ((with_reducible refine w_drw ?_); first | refine rx_q tbOk rfl rfl rfl rfl ?_ | refine rx_e tbOk rfl rfl rfl rfl rfl ?_ | refine rx_yes tbOk rfl rfl rfl rfl rfl rfl ?_ | refine x_no rfl rfl (lookO_spec rfl) rfl rfl rfl ?_ | refine x_un rfl rfl (lookO_spec rfl) rfl rfl ?_) | ((first | refine' w_q rfl rfl ?xa rfl ?_ | refine' v_q rfl rfl ?xa rfl ?_ | refine' w_yes rfl rfl (lookO_spec rfl) rfl ?xa rfl ?_ | refine' v_yes rfl rfl (lookO_spec rfl) rfl ?xa rfl ?_); case xa => first | exact k_index tbOk rfl rfl rfl rfl hm1.1 (by exact bys_at hm1.1 hm1.2) | exact k_index tbOk rfl rfl rfl rfl hm2.1 (by exact bys_at hm2.1 hm2.2) | exact k_conv u_u8 u_i64 rfl rfl | exact k_rem rfl rfl rfl (by omega) | exact k_div rfl rfl rfl (by omega) | exact k_xor rfl rfl rfl) | ((first | refine aw_ways rfl ?_ ?_ | refine r_split rfl rfl rfl ?_ ?_) <;> intro hg_ <;> fail_if_success (exact Bool.noConfusion hg_)) <;> (try simp only [prn] at hg_) <;> (try first | contradiction | (exfalso; omega)))
    rw [hw1]
    exact ret_D [] rfl (by (repeat' (first | exact trivial | refine subHR_cons rfl ?_ ?_ | rfl))) (retD_int rfl rfl (by simp only [hw2, hlb, a1, a2, b1, b2, b3, b4, b5, b6, b7, b8, b9, b10, c2]))
open Classical in
/-- What pick gives. -/
noncomputable def pickV (bs : List Int) (p n : Int) : Int :=
  if h : Byte bs ∧ bs.length ≤ 2000 ∧ 0 ≤ p ∧ p ≤ 1000000 then Classical.choose (pick_ex bs p n h.1 h.2.1 h.2.2.1 h.2.2.2) else 0
theorem f_pick {bs : List Int} (p n : Int) (hB : Byte bs) (hl : bs.length ≤ 2000) (hp0 : 0 ≤ p) (hp : p ≤ 1000000) (m1 m2 nb : Bool) : FnS Tryd.prog 54 [.one (.ptr 1000000000 0 0 0), .one (.r false (int n))] (rdH 1000000000 m1 m2 nb bs p) (.one (.r true (int (pickV bs p n)))) (rdH 1000000000 m1 true nb bs (p + 1)) := by
  unfold pickV
  rw [dif_pos ⟨hB, hl, hp0, hp⟩]
  exact (Classical.choose_spec (pick_ex bs p n hB hl hp0 hp)).2 m1 m2 nb
theorem pickV_in (bs : List Int) (p n : Int) : 0 ≤ pickV bs p n ∧ (pickV bs p n < n ∨ pickV bs p n = 0) := by
  unfold pickV
  split
  · rename_i h
    exact (Classical.choose_spec (pick_ex bs p n h.1 h.2.1 h.2.2.1 h.2.2.2)).1
  · exact ⟨Int.le_refl _, .inr rfl⟩
/-- What odd gives. -/
noncomputable def oddV (bs : List Int) (p n : Int) : Bool := pickV bs p n == n - 1
set_option maxRecDepth 100000 in
set_option maxHeartbeats 2000000 in
theorem f_odd {bs : List Int} (p n : Int) (hn : 0 < n) (hn2 : n ≤ 1000000) (hB : Byte bs) (hl : bs.length ≤ 2000) (hp0 : 0 ≤ p) (hp : p ≤ 1000000) (m1 m2 nb : Bool) : FnS Tryd.prog 53 [.one (.ptr 1000000000 0 0 0), .one (.r false (int n))] (rdH 1000000000 m1 m2 nb bs p) (.one (.r true (bool (oddV bs p n)))) (rdH 1000000000 m1 true nb bs (p + 1)) := by
  have K := f_pick p n hB hl hp0 hp m1 m2 nb
  have hw : IntKind.i64.wrap (n - 1) = n - 1 := IntWalk.i64_in _ (by omega)
  unfold rdH at *
  refine fnS_of (l := [.tmp 4]) Tryd.func53 (by kernel_rfl) rfl Tryd.ntmps53 rfl rfl ?_; simp only [dEnv, Nat.reduceAdd]
  repeat' (first | (with_reducible first | refine aw_seq ?_ | refine thn_normal ?_ | refine thn_ret ?_ | refine thn_exit ?_ | refine blk_normal ?_ | refine blk_ret ?_ | refine blk_hit ?_ | refine blk_miss rfl ?_ | refine aw_block ?_ | refine aw_ret ?_ | refine aw_skip ?_ | refine aw_exit ?_ | refine w_nil ?_ | refine x_nil (by kernel_rfl) ?_) | refine aw_region ?_ | refine aw_region_draw (by kernel_rfl) ?_ | refine aw_yes rfl ?_ | refine aw_no rfl ?_ | ((with_reducible refine w_seq ?_); first | refine r_q tbOk rfl rfl rfl rfl ?_ | refine r_e tbOk rfl rfl rfl rfl rfl ?_ | refine r_yes tbOk rfl rfl rfl rfl rfl rfl ?_ | refine w_no rfl rfl (lookO_spec rfl) rfl rfl rfl ?_ | refine w_un rfl rfl (lookO_spec rfl) rfl rfl ?_) | ((with_reducible refine w_drw ?_); first | refine rx_q tbOk rfl rfl rfl rfl ?_ | refine rx_e tbOk rfl rfl rfl rfl rfl ?_ | refine rx_yes tbOk rfl rfl rfl rfl rfl rfl ?_ | refine x_no rfl rfl (lookO_spec rfl) rfl rfl rfl ?_ | refine x_un rfl rfl (lookO_spec rfl) rfl rfl ?_) | ((first | refine' w_ey rfl rfl (lookO_spec rfl) ?xa ?xb ?xc ?xe ?_ | refine' v_ey rfl rfl (lookO_spec rfl) ?xa ?xb ?xc ?xe ?_); (case xa => exact e_callS [] K rfl ⟨asD_ren (evO_spec rfl), by rw [evO_spec rfl]; exact asD_r rfl, trivial⟩ (by (repeat' (first | exact trivial | refine subHR_cons rfl ?_ ?_ | rfl))) rfl); (case xb => rfl); (case xc => rfl); (case xe => rfl); try dsimp only [P0.d, Res.d, List.map_cons, List.map_nil, List.set_cons_zero, List.set_cons_succ, Nat.reduceAdd]) | ((first | refine aw_ways rfl ?_ ?_ | refine r_split rfl rfl rfl ?_ ?_) <;> intro hg_ <;> fail_if_success (exact Bool.noConfusion hg_)) <;> (try simp only [prn] at hg_) <;> (try first | contradiction | (exfalso; omega)))
  all_goals first
    | exact ret_D [] rfl (by (repeat' (first | exact trivial | refine subHR_cons rfl ?_ ?_ | rfl))) (retD_bool rfl rfl (by unfold oddV; rw [hw]))
    | trace_state
set_option maxRecDepth 100000 in
set_option maxHeartbeats 2000000 in
theorem f_open (nb : Bool) (bs : List Int) (hl : bs.length ≤ 1048576) : FnS Tryd.prog 42 [.one (.r false (row nb 1 (bys bs)))] [] (.one (.ptr 2000001 0 0 0)) (rdH 2000001 false true nb (bs.take 2000) 0) := by
  have hlb := bys_len bs
  have ht : bys (bs.take 2000) = (bys bs).take 2000 := by unfold bys; rw [List.map_take]
  unfold rdH
  rw [ht]
  refine fnS_of (l := [.tmp 2]) Tryd.func42 (by kernel_rfl) rfl Tryd.ntmps42 rfl rfl ?_; simp only [dEnv, Nat.reduceAdd]
  repeat' (first | (with_reducible first | refine aw_seq ?_ | refine thn_normal ?_ | refine thn_ret ?_ | refine thn_exit ?_ | refine blk_normal ?_ | refine blk_ret ?_ | refine blk_hit ?_ | refine blk_miss rfl ?_ | refine aw_block ?_ | refine aw_ret ?_ | refine aw_skip ?_ | refine aw_exit ?_ | refine w_nil ?_ | refine x_nil (by kernel_rfl) ?_) | refine aw_region ?_ | refine aw_region_draw (by kernel_rfl) ?_ | refine aw_yes rfl ?_ | refine aw_no rfl ?_ | ((with_reducible refine w_seq ?_); first | refine r_q tbOk rfl rfl rfl rfl ?_ | refine r_e tbOk rfl rfl rfl rfl rfl ?_ | refine r_yes tbOk rfl rfl rfl rfl rfl rfl ?_ | refine w_no rfl rfl (lookO_spec rfl) rfl rfl rfl ?_ | refine w_un rfl rfl (lookO_spec rfl) rfl rfl ?_) | ((with_reducible refine w_drw ?_); first | refine rx_q tbOk rfl rfl rfl rfl ?_ | refine rx_e tbOk rfl rfl rfl rfl rfl ?_ | refine rx_yes tbOk rfl rfl rfl rfl rfl rfl ?_ | refine x_no rfl rfl (lookO_spec rfl) rfl rfl rfl ?_ | refine x_un rfl rfl (lookO_spec rfl) rfl rfl ?_) | ((first | refine' w_q rfl rfl ?xa rfl ?_ | refine' v_q rfl rfl ?xa rfl ?_ | refine' w_yes rfl rfl (lookO_spec rfl) rfl ?xa rfl ?_ | refine' v_yes rfl rfl (lookO_spec rfl) rfl ?xa rfl ?_); case xa => exact k_slice (a := 0) (b := 2000) tbOk rfl rfl rfl rfl ⟨_, evO_spec rfl⟩ (by omega) (by omega)) | ((first | refine aw_ways rfl ?_ ?_ | refine r_split rfl rfl rfl ?_ ?_) <;> intro hg_ <;> fail_if_success (exact Bool.noConfusion hg_)) <;> (try simp only [prn] at hg_) <;> (try first | contradiction | (exfalso; omega)))
  · rw [Nat.sub_zero, List.drop_zero]
    exact ret_D [(2000001, 10)] rfl (by (repeat' (first | exact trivial | refine subHR_cons rfl ?_ ?_ | rfl))) (retD_tmp rfl (imp_refl rfl))
  · rw [List.take_of_length_le (by omega)]
    exact ret_D [(2000001, 10)] rfl (by (repeat' (first | exact trivial | refine subHR_cons rfl ?_ ?_ | rfl))) (retD_tmp rfl (imp_refl rfl))
end Go.Proofs.YtfdaoepbdolgiaaDoor.Abs
