/- Checkpoints by states: the program's reading of one checkpoint. No statement of the seat is proved here. -/
import Derived.Lib.Hide
import Derived.Test.YtmkecjamfippfaaRxTy
import Derived.Test.YtmkecjamfippfaaRxGCki
set_option linter.unusedSimpArgs false
set_option linter.unusedVariables false
namespace Go.Proofs.Ytmkecjamfippfaa.Abs
open Go.RowKit
open R (val row ref)
def rowC (e : Bool) (k n sz : Nat) : Cell := if e then Zc else .own k 0 n sz
def stT : Option Sta → D
  | none => .tups [(true, [.r true (int 0), Zc, Zc, Zc]), (false, [.r true (bool false)])]
  | some s => .tups [(true, [.r true (int s.r), rowC s.vs.isEmpty 2000001 s.vs.length 1, rowC s.vs.isEmpty 2000002 s.gs.length 1, rowC s.ms.isEmpty 2000003 s.ms.length 3]), (false, [.r true (bool true)])]
def stH : Option Sta → List (Nat × Ob)
  | none => []
  | some s => (if s.vs.isEmpty then [] else [(2000001, .sl 3 1 true (ints s.vs)), (2000002, .sl 4 1 true (bools s.gs))]) ++ (if s.ms.isEmpty then [] else [(2000003, .sl 95 3 true (edges s.ms))])
theorem nbForm1 (tag : Int) (k : Nat) (b : List Int) : (∃ nn ns, nbRes (nbF tag k b) = .tup [.one (row nn 1 (ints ns)), .one (bool false)] ∧ ∀ ms, nbF tag k b ≠ (some ms, true)) ∨ (∃ ns, nbF tag k b = (some ns, true) ∧ nbRes (nbF tag k b) = .tup [.one (row false 1 (ints ns)), .one (bool true)]) := by
  rcases h : nbF tag k b with ⟨o, q⟩
  cases o with
  | none => exact .inl ⟨true, [], rfl, fun ms e => by cases e⟩
  | some ns =>
    cases q
    · exact .inl ⟨false, ns, rfl, fun ms e => by cases e⟩
    · exact .inr ⟨ns, rfl, rfl⟩
theorem rowsI_part (D : List (List Int)) (a n : Nat) : ((rowsI D).drop a).take n = rowsI ((D.drop a).take n) := by unfold rowsI; rw [List.map_take, List.map_drop]
set_option maxRecDepth 100000 in
set_option maxHeartbeats 4000000 in
theorem f_ownValid (r : Int) (nv ng nm : Bool) (vs : List Int) (gs : List Bool) (ms : List E3) (hv : vs.length ≤ maxLen) (hg : gs.length ≤ maxLen) (hl : ms.length ≤ maxLen) : Fn Try.prog 68 [stateP r nv vs ng gs nm ms] (.v (.one (bool (stOk vs.length r vs gs.length ms)))) := by
  have hlenV := ints_len vs
  have K := f_implStateValid ((ints vs).length : Int) r nv ng nm vs gs ms hv hg hl
  have e : stOk ((ints vs).length : Int) r vs gs.length ms = stOk (vs.length : Int) r vs gs.length ms := by rw [hlenV]
  rw [e] at K
  clear e
  generalize stOk vs.length r vs gs.length ms = b at *
  refine fn_of (l := [.tmp 2]) Try.func68 (by kernel_rfl) rfl Try.ntmps68 rfl rfl ?_; simp only [argEnv, P0.d, Nat.reduceAdd, stateP, List.map_cons, List.map_nil]
  repeat' (first|(with_reducible first|refine aw_seq ?_|refine thn_normal ?_|refine thn_ret ?_|refine thn_exit ?_|refine blk_normal ?_|refine blk_ret ?_|refine blk_hit ?_|refine blk_miss rfl ?_|refine aw_block ?_|refine aw_ret ?_|refine aw_skip ?_|refine aw_exit ?_|refine w_nil ?_|refine x_nil (by kernel_rfl) ?_)|refine aw_region ?_|refine aw_region_draw (by kernel_rfl) ?_|refine aw_yes rfl ?_|refine aw_no rfl ?_|((with_reducible refine w_seq ?_);first|refine r_q tbOk rfl rfl rfl rfl ?_|refine r_e tbOk rfl rfl rfl rfl rfl ?_|refine r_yes tbOk rfl rfl rfl rfl rfl rfl ?_|refine w_no rfl rfl (lookO_spec rfl) rfl rfl rfl ?_|refine w_un rfl rfl (lookO_spec rfl) rfl rfl ?_)|((with_reducible refine w_drw ?_);first|refine rx_q tbOk rfl rfl rfl rfl ?_|refine rx_e tbOk rfl rfl rfl rfl rfl ?_|refine rx_yes tbOk rfl rfl rfl rfl rfl rfl ?_|refine x_no rfl rfl (lookO_spec rfl) rfl rfl rfl ?_|refine x_un rfl rfl (lookO_spec rfl) rfl rfl ?_)|((first|refine' w_q rfl rfl ?xa rfl ?_|refine' v_q rfl rfl ?xa rfl ?_|refine' w_yes rfl rfl (lookO_spec rfl) rfl ?xa rfl ?_|refine' v_yes rfl rfl (lookO_spec rfl) rfl ?xa rfl ?_);case xa => exact k_call K rfl ⟨asA_agg (evO_spec rfl) ⟨cAr_r, cAr_r, cAr_r, cAr_r, trivial⟩, asA_r (evO_spec rfl), trivial⟩)|((first|refine aw_ways rfl ?_ ?_|refine r_split rfl rfl rfl ?_ ?_) <;> intro hg_ <;> fail_if_success (exact Bool.noConfusion hg_)) <;> (try simp only [prn] at hg_) <;> (try first|contradiction|(exfalso;omega)))
  all_goals exact ret_tmp rfl (dres_bool rfl)
set_option maxRecDepth 100000 in
set_option maxHeartbeats 8000000 in
theorem f_ckAtHead (nil : Bool) (D : List (List Int)) (b : List Int) (hx : (rowsI D)[(0 : Int).toNat]? = some (rowP b)) (h0 : 0 < D.length) (h : ∀ ns, nbF 1 3 b ≠ (some ns, true)) :
    FnS Try.prog 40 [.one (.r false (row nil 1 (rowsI D)))] [] (stT none) (stH none) := by
  have hlen := rowsI_len D
  have KN := f_numbersBehind false b 1 3 (by omega)
  rcases nbForm1 1 3 b with ⟨nn, ns, e1, _⟩ | ⟨ns, e1, _⟩
  · rw [e1] at KN
    unfold stT stH
    clear e1 h
    refine fnS_of (l := [.cell 2 28, .tmp 3]) Try.func40 (by kernel_rfl) rfl Try.ntmps40 rfl rfl ?_; simp only [dEnv, Nat.reduceAdd]
    repeat' (first|(with_reducible first|refine aw_seq ?_|refine thn_normal ?_|refine thn_ret ?_|refine thn_exit ?_|refine blk_normal ?_|refine blk_ret ?_|refine blk_hit ?_|refine blk_miss rfl ?_|refine aw_block ?_|refine aw_ret ?_|refine aw_skip ?_|refine aw_exit ?_|refine w_nil ?_|refine x_nil (by kernel_rfl) ?_)|refine aw_region ?_|refine aw_region_draw (by kernel_rfl) ?_|refine aw_yes rfl ?_|refine aw_no rfl ?_|((with_reducible refine w_seq ?_);first|refine r_q tbOk rfl rfl rfl rfl ?_|refine r_e tbOk rfl rfl rfl rfl rfl ?_|refine r_yes tbOk rfl rfl rfl rfl rfl rfl ?_|refine w_no rfl rfl (lookO_spec rfl) rfl rfl rfl ?_|refine w_un rfl rfl (lookO_spec rfl) rfl rfl ?_)|((with_reducible refine w_drw ?_);first|refine rx_q tbOk rfl rfl rfl rfl ?_|refine rx_e tbOk rfl rfl rfl rfl rfl ?_|refine rx_yes tbOk rfl rfl rfl rfl rfl rfl ?_|refine x_no rfl rfl (lookO_spec rfl) rfl rfl rfl ?_|refine x_un rfl rfl (lookO_spec rfl) rfl rfl ?_)|((first|refine' w_q rfl rfl ?xa rfl ?_|refine' v_q rfl rfl ?xa rfl ?_|refine' w_yes rfl rfl (lookO_spec rfl) rfl ?xa rfl ?_|refine' v_yes rfl rfl (lookO_spec rfl) rfl ?xa rfl ?_);case xa => first|exact k_index tbOk rfl rfl rfl rfl (by omega) hx|exact k_call KN rfl ⟨asA_r (evO_spec rfl), asA_r (evO_spec rfl), asA_r (evO_spec rfl), trivial⟩)|((first|refine aw_ways rfl ?_ ?_|refine r_split rfl rfl rfl ?_ ?_) <;> intro hg_ <;> fail_if_success (exact Bool.noConfusion hg_)) <;> (try simp only [prn] at hg_) <;> (try first|contradiction|(exfalso;omega)))
    all_goals first
      | exact ret_D [] rfl (by (repeat' (first|exact trivial|refine subHR_cons rfl ?_ ?_|rfl))) (retD_two (x := (true, _)) (y := (false, [_])) (ret1_cell rfl rfl (by (with_reducible first|exact ty3|exact ty4|exact ty5|exact ty9|exact ty17|exact ty19|exact ty22|exact ty24|exact ty25|exact ty26|exact ty28|exact ty36|exact ty38|exact ty40|exact ty44|exact ty46|exact ty48|exact ty55|exact ty81|exact ty84|exact ty89|exact ty95|exact ty98|exact ty105|exact ty118|exact ty122|exact ty132|exact ty134|exact ty137|exact ty143|exact ty153|exact ty155|exact ty156|exact ty161)) rfl rfl rfl) rfl (ret1_tmp rfl) rfl (imp_refl (tups2 rfl rfl)))
      | trace_state
  · exact absurd e1 (h ns)
set_option maxRecDepth 100000 in
set_option maxHeartbeats 8000000 in
theorem f_ckAtSize (nil : Bool) (D : List (List Int)) (b : List Int) (r : Int) (m w : Nat) (hl : D.length ≤ 2000) (hm : m ≤ 1000000) (hw : w ≤ 1000000) (hx : (rowsI D)[(0 : Int).toNat]? = some (rowP b)) (h0 : 0 < D.length) (h : nbF 1 3 b = (some [r, (m : Int), (w : Int)], true)) (hs : D.length < m + w + 2) :
    FnS Try.prog 40 [.one (.r false (row nil 1 (rowsI D)))] [] (stT none) (stH none) := by
  have hlen := rowsI_len D
  have KN := f_numbersBehind false b 1 3 (by omega)
  rw [h] at KN
  unfold nbRes at KN
  dsimp only at KN
  have hx1 : (ints [r, (m : Int), (w : Int)])[(1 : Int).toNat]? = some (iP (m : Int)) := rfl
  have hx2 : (ints [r, (m : Int), (w : Int)])[(2 : Int).toNat]? = some (iP (w : Int)) := rfl
  have hli : (ints [r, (m : Int), (w : Int)]).length = 3 := rfl
  have hw1 : IntKind.i64.wrap (IntKind.i64.wrap ((m : Int) + (w : Int)) + 2) = (m : Int) + w + 2 := by rw [IntWalk.i64_in ((m : Int) + (w : Int)) (by omega), IntWalk.i64_in _ (by omega)]
  unfold stT stH
  refine fnS_of (l := [.cell 2 28, .tmp 3]) Try.func40 (by kernel_rfl) rfl Try.ntmps40 rfl rfl ?_; simp only [dEnv, Nat.reduceAdd]
  repeat' (first|(with_reducible first|refine aw_seq ?_|refine thn_normal ?_|refine thn_ret ?_|refine thn_exit ?_|refine blk_normal ?_|refine blk_ret ?_|refine blk_hit ?_|refine blk_miss rfl ?_|refine aw_block ?_|refine aw_ret ?_|refine aw_skip ?_|refine aw_exit ?_|refine w_nil ?_|refine x_nil (by kernel_rfl) ?_)|refine aw_region ?_|refine aw_region_draw (by kernel_rfl) ?_|refine aw_yes rfl ?_|refine aw_no rfl ?_|((with_reducible refine w_seq ?_);first|refine r_q tbOk rfl rfl rfl rfl ?_|refine r_e tbOk rfl rfl rfl rfl rfl ?_|refine r_yes tbOk rfl rfl rfl rfl rfl rfl ?_|refine w_no rfl rfl (lookO_spec rfl) rfl rfl rfl ?_|refine w_un rfl rfl (lookO_spec rfl) rfl rfl ?_)|((with_reducible refine w_drw ?_);first|refine rx_q tbOk rfl rfl rfl rfl ?_|refine rx_e tbOk rfl rfl rfl rfl rfl ?_|refine rx_yes tbOk rfl rfl rfl rfl rfl rfl ?_|refine x_no rfl rfl (lookO_spec rfl) rfl rfl rfl ?_|refine x_un rfl rfl (lookO_spec rfl) rfl rfl ?_)|((first|refine' w_q rfl rfl ?xa rfl ?_|refine' v_q rfl rfl ?xa rfl ?_|refine' w_yes rfl rfl (lookO_spec rfl) rfl ?xa rfl ?_|refine' v_yes rfl rfl (lookO_spec rfl) rfl ?xa rfl ?_);case xa => first|exact k_index tbOk rfl rfl rfl rfl (by omega) (by first|exact hx|exact hx1|exact hx2)|exact k_call KN rfl ⟨asA_r (evO_spec rfl), asA_r (evO_spec rfl), asA_r (evO_spec rfl), trivial⟩)|((first|refine aw_ways rfl ?_ ?_|refine r_split rfl rfl rfl ?_ ?_) <;> intro hg_ <;> fail_if_success (exact Bool.noConfusion hg_)) <;> (try simp only [prn] at hg_) <;> (try first|contradiction|(exfalso;omega)))
  all_goals first
    | exact ret_D [] rfl (by (repeat' (first|exact trivial|refine subHR_cons rfl ?_ ?_|rfl))) (retD_two (x := (true, _)) (y := (false, [_])) (ret1_cell rfl rfl (by (with_reducible first|exact ty3|exact ty4|exact ty5|exact ty9|exact ty17|exact ty19|exact ty22|exact ty24|exact ty25|exact ty26|exact ty28|exact ty36|exact ty38|exact ty40|exact ty44|exact ty46|exact ty48|exact ty55|exact ty81|exact ty84|exact ty89|exact ty95|exact ty98|exact ty105|exact ty118|exact ty122|exact ty132|exact ty134|exact ty137|exact ty143|exact ty153|exact ty155|exact ty156|exact ty161)) rfl rfl rfl) rfl (ret1_tmp rfl) rfl (imp_refl (tups2 rfl rfl)))
    | (exfalso; omega)
    | trace_state
set_option maxRecDepth 100000 in
set_option maxHeartbeats 8000000 in
theorem f_ckAtVals (nil : Bool) (D : List (List Int)) (b c : List Int) (r : Int) (m w : Nat) (hl : D.length ≤ 2000) (hx : (rowsI D)[(0 : Int).toNat]? = some (rowP b)) (h0 : 0 < D.length) (h : nbF 1 3 b = (some [r, (m : Int), (w : Int)], true)) (hs : m + w + 2 ≤ D.length) (hc : (rowsI D)[((1 + m + w : Nat) : Int).toNat]? = some (rowP c)) (hv : rdAll rdV1 ((D.drop 1).take m) = none) :
    FnS Try.prog 40 [.one (.r false (row nil 1 (rowsI D)))] [] (stT none) (stH none) := by
  have hlen := rowsI_len D
  have KN := f_numbersBehind false b 1 3 (by omega)
  rw [h] at KN
  unfold nbRes at KN
  dsimp only at KN
  have hx0 : (ints [r, (m : Int), (w : Int)])[(0 : Int).toNat]? = some (iP r) := rfl
  have hx1 : (ints [r, (m : Int), (w : Int)])[(1 : Int).toNat]? = some (iP (m : Int)) := rfl
  have hx2 : (ints [r, (m : Int), (w : Int)])[(2 : Int).toNat]? = some (iP (w : Int)) := rfl
  have hli : (ints [r, (m : Int), (w : Int)]).length = 3 := rfl
  have hw1 : IntKind.i64.wrap (IntKind.i64.wrap ((m : Int) + (w : Int)) + 2) = (m : Int) + w + 2 := by rw [IntWalk.i64_in ((m : Int) + (w : Int)) (by omega), IntWalk.i64_in _ (by omega)]
  have hq1 : IntKind.i64.wrap (1 + (m : Int)) = ((1 + m : Nat) : Int) := by rw [IntWalk.i64_in _ (by omega)]; omega
  have hq2 : IntKind.i64.wrap (IntKind.i64.wrap (1 + (m : Int)) + (w : Int)) = ((1 + m + w : Nat) : Int) := by rw [hq1, IntWalk.i64_in _ (by omega)]; omega
  have hd1 : Abs.D.one (Cell.r true (int (IntKind.i64.wrap (1 + (m : Int))))) = Abs.D.one (.r true (int ((1 + m : Nat) : Int))) := by rw [hq1]
  have hd2 : Abs.D.one (Cell.r true (int (IntKind.i64.wrap (IntKind.i64.wrap (1 + (m : Int)) + (w : Int))))) = Abs.D.one (.r true (int ((1 + m + w : Nat) : Int))) := by rw [hq2]
  have hpV : ((rowsI D).drop 1).take (1 + m - 1) = rowsI ((D.drop 1).take m) := by rw [rowsI_part, show 1 + m - 1 = m by omega]
  have hpM : ((rowsI D).drop (1 + m)).take (1 + m + w - (1 + m)) = rowsI ((D.drop (1 + m)).take w) := by rw [rowsI_part, show 1 + m + w - (1 + m) = w by omega]
  have hbl : ((D.drop 1).take m).length ≤ 2000 := by simp; omega
  have hbm : ((D.drop (1 + m)).take w).length ≤ 2000 := by simp; omega
  rw [← hq2] at hc
  have hc0 : 0 ≤ IntKind.i64.wrap (IntKind.i64.wrap (1 + (m : Int)) + (w : Int)) := by rw [hq2]; omega
  have KV := f_readValuesNo nil _ r hbl hv
  rw [← hpV] at KV
  unfold stT stH
  refine fnS_of (l := [.cell 2 28, .tmp 3]) Try.func40 (by kernel_rfl) rfl Try.ntmps40 rfl rfl ?_; simp only [dEnv, Nat.reduceAdd]
  repeat' (first|(with_reducible first|refine aw_seq ?_|refine thn_normal ?_|refine thn_ret ?_|refine thn_exit ?_|refine blk_normal ?_|refine blk_ret ?_|refine blk_hit ?_|refine blk_miss rfl ?_|refine aw_block ?_|refine aw_ret ?_|refine aw_skip ?_|refine aw_exit ?_|refine w_nil ?_|refine x_nil (by kernel_rfl) ?_)|refine aw_region ?_|refine aw_region_draw (by kernel_rfl) ?_|refine aw_yes rfl ?_|refine aw_no rfl ?_|((with_reducible refine w_seq ?_);first|refine r_q tbOk rfl rfl rfl rfl ?_|refine r_e tbOk rfl rfl rfl rfl rfl ?_|refine r_yes tbOk rfl rfl rfl rfl rfl rfl ?_|refine w_no rfl rfl (lookO_spec rfl) rfl rfl rfl ?_|refine w_un rfl rfl (lookO_spec rfl) rfl rfl ?_)|((with_reducible refine w_drw ?_);first|refine rx_q tbOk rfl rfl rfl rfl ?_|refine rx_e tbOk rfl rfl rfl rfl rfl ?_|refine rx_yes tbOk rfl rfl rfl rfl rfl rfl ?_|refine x_no rfl rfl (lookO_spec rfl) rfl rfl rfl ?_|refine x_un rfl rfl (lookO_spec rfl) rfl rfl ?_)|((first|refine' w_q rfl rfl ?xa rfl ?_|refine' v_q rfl rfl ?xa rfl ?_|refine' w_yes rfl rfl (lookO_spec rfl) rfl ?xa rfl ?_|refine' v_yes rfl rfl (lookO_spec rfl) rfl ?xa rfl ?_);case xa => first|exact k_index tbOk rfl rfl rfl rfl (by first|omega|exact hc0) (by first|exact hx|exact hx0|exact hx1|exact hx2|exact hc)|exact k_slice (a := 1) (b := 1 + m) tbOk rfl rfl rfl ⟨_, evO_spec rfl⟩ ⟨_, (evO_spec rfl).trans hd1⟩ (by omega) (by omega)|exact k_call KN rfl ⟨asA_r (evO_spec rfl), asA_r (evO_spec rfl), asA_r (evO_spec rfl), trivial⟩)|((first|refine' w_e rfl ?xa ?xb ?xc ?xe ?_|refine' v_e rfl ?xa ?xb ?xc ?xe ?_);(case xa => exact at_dst 43 rfl (e_callS [(1000000000, 8)] KV rfl ⟨asD_ren (evO_spec rfl), by rw [evO_spec rfl];exact asD_r rfl, trivial⟩ (by (repeat' (first|exact trivial|refine subHR_cons rfl ?_ ?_|rfl))) rfl));(case xb => rfl);(case xc => rfl);(case xe => rfl);try dsimp only [P0.d, Res.d, List.map_cons, List.map_nil, List.set_cons_zero, List.set_cons_succ, Nat.reduceAdd])|((first|refine' w_ey rfl rfl (lookO_spec rfl) ?xa ?xb ?xc ?xe ?_|refine' v_ey rfl rfl (lookO_spec rfl) ?xa ?xb ?xc ?xe ?_);(case xa => exact at_dst 43 rfl (e_callS [(1000000000, 8)] KV rfl ⟨asD_ren (evO_spec rfl), by rw [evO_spec rfl];exact asD_r rfl, trivial⟩ (by (repeat' (first|exact trivial|refine subHR_cons rfl ?_ ?_|rfl))) rfl));(case xb => rfl);(case xc => rfl);(case xe => rfl);try dsimp only [P0.d, Res.d, List.map_cons, List.map_nil, List.set_cons_zero, List.set_cons_succ, Nat.reduceAdd])|((first|refine aw_ways rfl ?_ ?_|refine r_split rfl rfl rfl ?_ ?_) <;> intro hg_ <;> fail_if_success (exact Bool.noConfusion hg_)) <;> (try simp only [prn] at hg_) <;> (try first|contradiction|(exfalso;omega)))
  all_goals first
    | exact ret_D [] rfl (by (repeat' (first|exact trivial|refine subHR_cons rfl ?_ ?_|rfl))) (retD_two (x := (true, _)) (y := (false, [_])) (ret1_cell rfl rfl (by (with_reducible first|exact ty3|exact ty4|exact ty5|exact ty9|exact ty17|exact ty19|exact ty22|exact ty24|exact ty25|exact ty26|exact ty28|exact ty36|exact ty38|exact ty40|exact ty44|exact ty46|exact ty48|exact ty55|exact ty81|exact ty84|exact ty89|exact ty95|exact ty98|exact ty105|exact ty118|exact ty122|exact ty132|exact ty134|exact ty137|exact ty143|exact ty153|exact ty155|exact ty156|exact ty161)) rfl rfl rfl) rfl (ret1_tmp rfl) rfl (imp_refl (tups2 rfl rfl)))
    | (exfalso; omega)
    | trace_state
set_option maxRecDepth 100000 in
set_option maxHeartbeats 8000000 in
theorem f_ckAtMsgsZ (nil : Bool) (D : List (List Int)) (b c : List Int) (r : Int) (m w : Nat) (hl : D.length ≤ 2000) (hx : (rowsI D)[(0 : Int).toNat]? = some (rowP b)) (h0 : 0 < D.length) (h : nbF 1 3 b = (some [r, (m : Int), (w : Int)], true)) (hs : m + w + 2 ≤ D.length) (hc : (rowsI D)[((1 + m + w : Nat) : Int).toNat]? = some (rowP c)) (hv : rdAll rdV1 ((D.drop 1).take m) = some []) (hm : rdAll rdM1 ((D.drop (1 + m)).take w) = none) :
    FnS Try.prog 40 [.one (.r false (row nil 1 (rowsI D)))] [] (stT none) (stH none) := by
  have hlen := rowsI_len D
  have KN := f_numbersBehind false b 1 3 (by omega)
  rw [h] at KN
  unfold nbRes at KN
  dsimp only at KN
  have hx0 : (ints [r, (m : Int), (w : Int)])[(0 : Int).toNat]? = some (iP r) := rfl
  have hx1 : (ints [r, (m : Int), (w : Int)])[(1 : Int).toNat]? = some (iP (m : Int)) := rfl
  have hx2 : (ints [r, (m : Int), (w : Int)])[(2 : Int).toNat]? = some (iP (w : Int)) := rfl
  have hli : (ints [r, (m : Int), (w : Int)]).length = 3 := rfl
  have hw1 : IntKind.i64.wrap (IntKind.i64.wrap ((m : Int) + (w : Int)) + 2) = (m : Int) + w + 2 := by rw [IntWalk.i64_in ((m : Int) + (w : Int)) (by omega), IntWalk.i64_in _ (by omega)]
  have hq1 : IntKind.i64.wrap (1 + (m : Int)) = ((1 + m : Nat) : Int) := by rw [IntWalk.i64_in _ (by omega)]; omega
  have hq2 : IntKind.i64.wrap (IntKind.i64.wrap (1 + (m : Int)) + (w : Int)) = ((1 + m + w : Nat) : Int) := by rw [hq1, IntWalk.i64_in _ (by omega)]; omega
  have hd1 : Abs.D.one (Cell.r true (int (IntKind.i64.wrap (1 + (m : Int))))) = Abs.D.one (.r true (int ((1 + m : Nat) : Int))) := by rw [hq1]
  have hd2 : Abs.D.one (Cell.r true (int (IntKind.i64.wrap (IntKind.i64.wrap (1 + (m : Int)) + (w : Int))))) = Abs.D.one (.r true (int ((1 + m + w : Nat) : Int))) := by rw [hq2]
  have hpV : ((rowsI D).drop 1).take (1 + m - 1) = rowsI ((D.drop 1).take m) := by rw [rowsI_part, show 1 + m - 1 = m by omega]
  have hpM : ((rowsI D).drop (1 + m)).take (1 + m + w - (1 + m)) = rowsI ((D.drop (1 + m)).take w) := by rw [rowsI_part, show 1 + m + w - (1 + m) = w by omega]
  have hbl : ((D.drop 1).take m).length ≤ 2000 := by simp; omega
  have hbm : ((D.drop (1 + m)).take w).length ≤ 2000 := by simp; omega
  rw [← hq2] at hc
  have hc0 : 0 ≤ IntKind.i64.wrap (IntKind.i64.wrap (1 + (m : Int)) + (w : Int)) := by rw [hq2]; omega
  have hnil : (D.drop 1).take m = [] := List.eq_nil_of_length_eq_zero (by rw [← rdAll_len hv]; rfl)
  have KV := f_readValuesNil nil r
  rw [← hnil, ← hpV] at KV
  have KM := f_readMsNoZ nil _ r hbm hm
  rw [← hpM] at KM
  unfold stT stH
  refine fnS_of (l := [.cell 2 28, .tmp 3]) Try.func40 (by kernel_rfl) rfl Try.ntmps40 rfl rfl ?_; simp only [dEnv, Nat.reduceAdd]
  repeat' (first|(with_reducible first|refine aw_seq ?_|refine thn_normal ?_|refine thn_ret ?_|refine thn_exit ?_|refine blk_normal ?_|refine blk_ret ?_|refine blk_hit ?_|refine blk_miss rfl ?_|refine aw_block ?_|refine aw_ret ?_|refine aw_skip ?_|refine aw_exit ?_|refine w_nil ?_|refine x_nil (by kernel_rfl) ?_)|refine aw_region ?_|refine aw_region_draw (by kernel_rfl) ?_|refine aw_yes rfl ?_|refine aw_no rfl ?_|((with_reducible refine w_seq ?_);first|refine r_q tbOk rfl rfl rfl rfl ?_|refine r_e tbOk rfl rfl rfl rfl rfl ?_|refine r_yes tbOk rfl rfl rfl rfl rfl rfl ?_|refine w_no rfl rfl (lookO_spec rfl) rfl rfl rfl ?_|refine w_un rfl rfl (lookO_spec rfl) rfl rfl ?_)|((with_reducible refine w_drw ?_);first|refine rx_q tbOk rfl rfl rfl rfl ?_|refine rx_e tbOk rfl rfl rfl rfl rfl ?_|refine rx_yes tbOk rfl rfl rfl rfl rfl rfl ?_|refine x_no rfl rfl (lookO_spec rfl) rfl rfl rfl ?_|refine x_un rfl rfl (lookO_spec rfl) rfl rfl ?_)|((first|refine' w_q rfl rfl ?xa rfl ?_|refine' v_q rfl rfl ?xa rfl ?_|refine' w_yes rfl rfl (lookO_spec rfl) rfl ?xa rfl ?_|refine' v_yes rfl rfl (lookO_spec rfl) rfl ?xa rfl ?_);case xa => first|exact k_index tbOk rfl rfl rfl rfl (by first|omega|exact hc0) (by first|exact hx|exact hx0|exact hx1|exact hx2|exact hc)|exact k_slice (a := 1) (b := 1 + m) tbOk rfl rfl rfl ⟨_, evO_spec rfl⟩ ⟨_, (evO_spec rfl).trans hd1⟩ (by omega) (by omega)|exact k_slice (a := 1 + m) (b := 1 + m + w) tbOk rfl rfl rfl ⟨_, (evO_spec rfl).trans hd1⟩ ⟨_, (evO_spec rfl).trans hd2⟩ (by omega) (by omega)|exact k_call KN rfl ⟨asA_r (evO_spec rfl), asA_r (evO_spec rfl), asA_r (evO_spec rfl), trivial⟩)|((first|refine' w_e rfl ?xa ?xb ?xc ?xe ?_|refine' v_e rfl ?xa ?xb ?xc ?xe ?_);(case xa => first|exact at_dst 43 rfl (e_callS [(1000000000, 8)] KV rfl ⟨asD_ren (evO_spec rfl), by rw [evO_spec rfl];exact asD_r rfl, trivial⟩ (by (repeat' (first|exact trivial|refine subHR_cons rfl ?_ ?_|rfl))) rfl)|exact at_dst 54 rfl (e_callS [(1000000000, 8), (2000001, 503)] KM rfl ⟨asD_ren (evO_spec rfl), by rw [evO_spec rfl];exact asD_r rfl, trivial⟩ (by (repeat' (first|exact trivial|refine subHR_cons rfl ?_ ?_|rfl))) rfl));(case xb => rfl);(case xc => rfl);(case xe => rfl);try dsimp only [P0.d, Res.d, List.map_cons, List.map_nil, List.set_cons_zero, List.set_cons_succ, Nat.reduceAdd])|((first|refine' w_ey rfl rfl (lookO_spec rfl) ?xa ?xb ?xc ?xe ?_|refine' v_ey rfl rfl (lookO_spec rfl) ?xa ?xb ?xc ?xe ?_);(case xa => first|exact at_dst 43 rfl (e_callS [(1000000000, 8)] KV rfl ⟨asD_ren (evO_spec rfl), by rw [evO_spec rfl];exact asD_r rfl, trivial⟩ (by (repeat' (first|exact trivial|refine subHR_cons rfl ?_ ?_|rfl))) rfl)|exact at_dst 54 rfl (e_callS [(1000000000, 8), (2000001, 503)] KM rfl ⟨asD_ren (evO_spec rfl), by rw [evO_spec rfl];exact asD_r rfl, trivial⟩ (by (repeat' (first|exact trivial|refine subHR_cons rfl ?_ ?_|rfl))) rfl));(case xb => rfl);(case xc => rfl);(case xe => rfl);try dsimp only [P0.d, Res.d, List.map_cons, List.map_nil, List.set_cons_zero, List.set_cons_succ, Nat.reduceAdd])|((first|refine aw_ways rfl ?_ ?_|refine r_split rfl rfl rfl ?_ ?_) <;> intro hg_ <;> fail_if_success (exact Bool.noConfusion hg_)) <;> (try simp only [prn] at hg_) <;> (try first|contradiction|(exfalso;omega)))
  all_goals first
    | exact ret_D [] rfl (by (repeat' (first|exact trivial|refine subHR_cons rfl ?_ ?_|rfl))) (retD_two (x := (true, _)) (y := (false, [_])) (ret1_cell rfl rfl (by (with_reducible first|exact ty3|exact ty4|exact ty5|exact ty9|exact ty17|exact ty19|exact ty22|exact ty24|exact ty25|exact ty26|exact ty28|exact ty36|exact ty38|exact ty40|exact ty44|exact ty46|exact ty48|exact ty55|exact ty81|exact ty84|exact ty89|exact ty95|exact ty98|exact ty105|exact ty118|exact ty122|exact ty132|exact ty134|exact ty137|exact ty143|exact ty153|exact ty155|exact ty156|exact ty161)) rfl rfl rfl) rfl (ret1_tmp rfl) rfl (imp_refl (tups2 rfl rfl)))
    | (exfalso; omega)
    | trace_state
set_option maxRecDepth 100000 in
set_option maxHeartbeats 8000000 in
theorem f_ckAtEndZZ (nil : Bool) (D : List (List Int)) (b c : List Int) (r : Int) (m w : Nat) (hl : D.length ≤ 2000) (hx : (rowsI D)[(0 : Int).toNat]? = some (rowP b)) (h0 : 0 < D.length) (h : nbF 1 3 b = (some [r, (m : Int), (w : Int)], true)) (hs : m + w + 2 ≤ D.length) (hc : (rowsI D)[((1 + m + w : Nat) : Int).toNat]? = some (rowP c)) (hv : rdAll rdV1 ((D.drop 1).take m) = some []) (hm : rdAll rdM1 ((D.drop (1 + m)).take w) = some []) (X : Option Sta) (hX0 : ((∀ ns, nbF 4 0 c ≠ (some ns, true)) ∨ Sta.ok ⟨r, [], [], []⟩ = false) → X = none) (hX1 : (∃ ns, nbF 4 0 c = (some ns, true)) → Sta.ok ⟨r, [], [], []⟩ = true → X = some ⟨r, [], [], []⟩) :
    FnS Try.prog 40 [.one (.r false (row nil 1 (rowsI D)))] [] (stT X) (stH X) := by
  have hlen := rowsI_len D
  have KN := f_numbersBehind false b 1 3 (by omega)
  rw [h] at KN
  unfold nbRes at KN
  dsimp only at KN
  have hx0 : (ints [r, (m : Int), (w : Int)])[(0 : Int).toNat]? = some (iP r) := rfl
  have hx1 : (ints [r, (m : Int), (w : Int)])[(1 : Int).toNat]? = some (iP (m : Int)) := rfl
  have hx2 : (ints [r, (m : Int), (w : Int)])[(2 : Int).toNat]? = some (iP (w : Int)) := rfl
  have hli : (ints [r, (m : Int), (w : Int)]).length = 3 := rfl
  have hw1 : IntKind.i64.wrap (IntKind.i64.wrap ((m : Int) + (w : Int)) + 2) = (m : Int) + w + 2 := by rw [IntWalk.i64_in ((m : Int) + (w : Int)) (by omega), IntWalk.i64_in _ (by omega)]
  have hq1 : IntKind.i64.wrap (1 + (m : Int)) = ((1 + m : Nat) : Int) := by rw [IntWalk.i64_in _ (by omega)]; omega
  have hq2 : IntKind.i64.wrap (IntKind.i64.wrap (1 + (m : Int)) + (w : Int)) = ((1 + m + w : Nat) : Int) := by rw [hq1, IntWalk.i64_in _ (by omega)]; omega
  have hd1 : Abs.D.one (Cell.r true (int (IntKind.i64.wrap (1 + (m : Int))))) = Abs.D.one (.r true (int ((1 + m : Nat) : Int))) := by rw [hq1]
  have hd2 : Abs.D.one (Cell.r true (int (IntKind.i64.wrap (IntKind.i64.wrap (1 + (m : Int)) + (w : Int))))) = Abs.D.one (.r true (int ((1 + m + w : Nat) : Int))) := by rw [hq2]
  have hpV : ((rowsI D).drop 1).take (1 + m - 1) = rowsI ((D.drop 1).take m) := by rw [rowsI_part, show 1 + m - 1 = m by omega]
  have hpM : ((rowsI D).drop (1 + m)).take (1 + m + w - (1 + m)) = rowsI ((D.drop (1 + m)).take w) := by rw [rowsI_part, show 1 + m + w - (1 + m) = w by omega]
  have hbl : ((D.drop 1).take m).length ≤ 2000 := by simp; omega
  have hbm : ((D.drop (1 + m)).take w).length ≤ 2000 := by simp; omega
  rw [← hq2] at hc
  have hc0 : 0 ≤ IntKind.i64.wrap (IntKind.i64.wrap (1 + (m : Int)) + (w : Int)) := by rw [hq2]; omega
  have hnil : (D.drop 1).take m = [] := List.eq_nil_of_length_eq_zero (by rw [← rdAll_len hv]; rfl)
  have KV := f_readValuesNil nil r
  rw [← hnil, ← hpV] at KV
  have hnilM : (D.drop (1 + m)).take w = [] := List.eq_nil_of_length_eq_zero (by rw [← rdAll_len hm]; rfl)
  have KM := f_readMsNilZ nil r
  rw [← hnilM, ← hpM] at KM
  have hMl : ([] : List E3).length ≤ 2000 := by simp
  have KE := f_numbersBehind false c 4 0 (by omega)
  have KO := f_ownValid r true true true (⟨r, [], [], []⟩ : Sta).vs (⟨r, [], [], []⟩ : Sta).gs (⟨r, [], [], []⟩ : Sta).ms (by simp only [maxLen, List.length_nil]; omega) (by simp only [maxLen, List.length_nil]; omega) (by simp only [maxLen]; omega)
  rw [show stOk (((⟨r, [], [], []⟩ : Sta).vs.length : Nat) : Int) r (⟨r, [], [], []⟩ : Sta).vs (⟨r, [], [], []⟩ : Sta).gs.length (⟨r, [], [], []⟩ : Sta).ms = Sta.ok ⟨r, [], [], []⟩ from rfl] at KO
  dsimp only at KO
  generalize hok : Sta.ok ⟨r, [], [], []⟩ = ok at *
  have hfall : (X = none) ∨ (X = some ⟨r, [], [], []⟩ ∧ (∃ ns, nbF 4 0 c = (some ns, true) ∧ nbRes (nbF 4 0 c) = .tup [.one (row false 1 (ints ns)), .one (bool true)]) ∧ ok = true) := by
    rcases nbForm1 4 0 c with ⟨nn, ns, e1, e2⟩ | ⟨ns, e1, e2⟩
    · exact .inl (hX0 (.inl e2))
    · cases ok
      · exact .inl (hX0 (.inr rfl))
      · exact .inr ⟨hX1 ⟨ns, e1⟩ rfl, ⟨ns, e1, e2⟩, rfl⟩
  rcases hfall with hX | ⟨hX, ⟨ns, e1, e2⟩, rfl⟩
  · have hno : X = none := hX
    rw [hno]
    unfold stT stH
    rcases nbForm1 4 0 c with ⟨nn, ns, e1, e2⟩ | ⟨ns, e1, e2⟩
    · rw [e1] at KE
      refine fnS_of (l := [.cell 2 28, .tmp 3]) Try.func40 (by kernel_rfl) rfl Try.ntmps40 rfl rfl ?_; simp only [dEnv, Nat.reduceAdd]
      repeat' (first|(with_reducible first|refine aw_seq ?_|refine thn_normal ?_|refine thn_ret ?_|refine thn_exit ?_|refine blk_normal ?_|refine blk_ret ?_|refine blk_hit ?_|refine blk_miss rfl ?_|refine aw_block ?_|refine aw_ret ?_|refine aw_skip ?_|refine aw_exit ?_|refine w_nil ?_|refine x_nil (by kernel_rfl) ?_)|refine aw_region ?_|refine aw_region_draw (by kernel_rfl) ?_|refine aw_yes rfl ?_|refine aw_no rfl ?_|((with_reducible refine w_seq ?_);first|refine r_q tbOk rfl rfl rfl rfl ?_|refine r_e tbOk rfl rfl rfl rfl rfl ?_|refine r_yes tbOk rfl rfl rfl rfl rfl rfl ?_|refine w_no rfl rfl (lookO_spec rfl) rfl rfl rfl ?_|refine w_un rfl rfl (lookO_spec rfl) rfl rfl ?_)|((with_reducible refine w_drw ?_);first|refine rx_q tbOk rfl rfl rfl rfl ?_|refine rx_e tbOk rfl rfl rfl rfl rfl ?_|refine rx_yes tbOk rfl rfl rfl rfl rfl rfl ?_|refine x_no rfl rfl (lookO_spec rfl) rfl rfl rfl ?_|refine x_un rfl rfl (lookO_spec rfl) rfl rfl ?_)|((first|refine' w_q rfl rfl ?xa rfl ?_|refine' v_q rfl rfl ?xa rfl ?_|refine' w_yes rfl rfl (lookO_spec rfl) rfl ?xa rfl ?_|refine' v_yes rfl rfl (lookO_spec rfl) rfl ?xa rfl ?_);case xa => first|exact k_index tbOk rfl rfl rfl rfl (by first|omega|exact hc0) (by first|exact hx|exact hx0|exact hx1|exact hx2|exact hc)|exact k_slice (a := 1) (b := 1 + m) tbOk rfl rfl rfl ⟨_, evO_spec rfl⟩ ⟨_, (evO_spec rfl).trans hd1⟩ (by omega) (by omega)|exact k_slice (a := 1 + m) (b := 1 + m + w) tbOk rfl rfl rfl ⟨_, (evO_spec rfl).trans hd1⟩ ⟨_, (evO_spec rfl).trans hd2⟩ (by omega) (by omega)|exact k_call KN rfl ⟨asA_r (evO_spec rfl), asA_r (evO_spec rfl), asA_r (evO_spec rfl), trivial⟩|exact k_call KE rfl ⟨asA_r (evO_spec rfl), asA_r (evO_spec rfl), asA_r (evO_spec rfl), trivial⟩|exact k_call KO rfl ⟨asA_agg (evO_spec rfl) ⟨cAr_r, cAr_nil, cAr_nil, cAr_nil, trivial⟩, trivial⟩)|((first|refine' w_e rfl ?xa ?xb ?xc ?xe ?_|refine' v_e rfl ?xa ?xb ?xc ?xe ?_);(case xa => first|exact at_dst 43 rfl (e_callS [(1000000000, 8)] KV rfl ⟨asD_ren (evO_spec rfl), by rw [evO_spec rfl];exact asD_r rfl, trivial⟩ (by (repeat' (first|exact trivial|refine subHR_cons rfl ?_ ?_|rfl))) rfl)|exact at_dst 54 rfl (e_callS [(1000000000, 8), (2000001, 503)] KM rfl ⟨asD_ren (evO_spec rfl), by rw [evO_spec rfl];exact asD_r rfl, trivial⟩ (by (repeat' (first|exact trivial|refine subHR_cons rfl ?_ ?_|rfl))) rfl));(case xb => rfl);(case xc => rfl);(case xe => rfl);try dsimp only [P0.d, Res.d, List.map_cons, List.map_nil, List.set_cons_zero, List.set_cons_succ, Nat.reduceAdd])|((first|refine' w_ey rfl rfl (lookO_spec rfl) ?xa ?xb ?xc ?xe ?_|refine' v_ey rfl rfl (lookO_spec rfl) ?xa ?xb ?xc ?xe ?_);(case xa => first|exact at_dst 43 rfl (e_callS [(1000000000, 8)] KV rfl ⟨asD_ren (evO_spec rfl), by rw [evO_spec rfl];exact asD_r rfl, trivial⟩ (by (repeat' (first|exact trivial|refine subHR_cons rfl ?_ ?_|rfl))) rfl)|exact at_dst 54 rfl (e_callS [(1000000000, 8), (2000001, 503)] KM rfl ⟨asD_ren (evO_spec rfl), by rw [evO_spec rfl];exact asD_r rfl, trivial⟩ (by (repeat' (first|exact trivial|refine subHR_cons rfl ?_ ?_|rfl))) rfl));(case xb => rfl);(case xc => rfl);(case xe => rfl);try dsimp only [P0.d, Res.d, List.map_cons, List.map_nil, List.set_cons_zero, List.set_cons_succ, Nat.reduceAdd])|((first|refine aw_ways rfl ?_ ?_|refine r_split rfl rfl rfl ?_ ?_) <;> intro hg_ <;> fail_if_success (exact Bool.noConfusion hg_)) <;> (try simp only [prn] at hg_) <;> (try first|contradiction|(exfalso;omega)))
      all_goals first
    | exact ret_D [] rfl (by (repeat' (first|exact trivial|refine subHR_cons rfl ?_ ?_|rfl))) (retD_two (x := (true, _)) (y := (false, [_])) (ret1_cell rfl rfl (by (with_reducible first|exact ty3|exact ty4|exact ty5|exact ty9|exact ty17|exact ty19|exact ty22|exact ty24|exact ty25|exact ty26|exact ty28|exact ty36|exact ty38|exact ty40|exact ty44|exact ty46|exact ty48|exact ty55|exact ty81|exact ty84|exact ty89|exact ty95|exact ty98|exact ty105|exact ty118|exact ty122|exact ty132|exact ty134|exact ty137|exact ty143|exact ty153|exact ty155|exact ty156|exact ty161)) rfl rfl rfl) rfl (ret1_tmp rfl) rfl (imp_refl (tups2 rfl rfl)))
    | (exfalso; omega)
    | trace_state
    · have hok0 : ok = false := by
        cases ok
        · rfl
        · have := hX1 ⟨ns, e1⟩ rfl
          rw [hno] at this; cases this
      subst hok0
      rw [e2] at KE
      refine fnS_of (l := [.cell 2 28, .tmp 3]) Try.func40 (by kernel_rfl) rfl Try.ntmps40 rfl rfl ?_; simp only [dEnv, Nat.reduceAdd]
      repeat' (first|(with_reducible first|refine aw_seq ?_|refine thn_normal ?_|refine thn_ret ?_|refine thn_exit ?_|refine blk_normal ?_|refine blk_ret ?_|refine blk_hit ?_|refine blk_miss rfl ?_|refine aw_block ?_|refine aw_ret ?_|refine aw_skip ?_|refine aw_exit ?_|refine w_nil ?_|refine x_nil (by kernel_rfl) ?_)|refine aw_region ?_|refine aw_region_draw (by kernel_rfl) ?_|refine aw_yes rfl ?_|refine aw_no rfl ?_|((with_reducible refine w_seq ?_);first|refine r_q tbOk rfl rfl rfl rfl ?_|refine r_e tbOk rfl rfl rfl rfl rfl ?_|refine r_yes tbOk rfl rfl rfl rfl rfl rfl ?_|refine w_no rfl rfl (lookO_spec rfl) rfl rfl rfl ?_|refine w_un rfl rfl (lookO_spec rfl) rfl rfl ?_)|((with_reducible refine w_drw ?_);first|refine rx_q tbOk rfl rfl rfl rfl ?_|refine rx_e tbOk rfl rfl rfl rfl rfl ?_|refine rx_yes tbOk rfl rfl rfl rfl rfl rfl ?_|refine x_no rfl rfl (lookO_spec rfl) rfl rfl rfl ?_|refine x_un rfl rfl (lookO_spec rfl) rfl rfl ?_)|((first|refine' w_q rfl rfl ?xa rfl ?_|refine' v_q rfl rfl ?xa rfl ?_|refine' w_yes rfl rfl (lookO_spec rfl) rfl ?xa rfl ?_|refine' v_yes rfl rfl (lookO_spec rfl) rfl ?xa rfl ?_);case xa => first|exact k_index tbOk rfl rfl rfl rfl (by first|omega|exact hc0) (by first|exact hx|exact hx0|exact hx1|exact hx2|exact hc)|exact k_slice (a := 1) (b := 1 + m) tbOk rfl rfl rfl ⟨_, evO_spec rfl⟩ ⟨_, (evO_spec rfl).trans hd1⟩ (by omega) (by omega)|exact k_slice (a := 1 + m) (b := 1 + m + w) tbOk rfl rfl rfl ⟨_, (evO_spec rfl).trans hd1⟩ ⟨_, (evO_spec rfl).trans hd2⟩ (by omega) (by omega)|exact k_call KN rfl ⟨asA_r (evO_spec rfl), asA_r (evO_spec rfl), asA_r (evO_spec rfl), trivial⟩|exact k_call KE rfl ⟨asA_r (evO_spec rfl), asA_r (evO_spec rfl), asA_r (evO_spec rfl), trivial⟩|exact k_call KO rfl ⟨asA_agg (evO_spec rfl) ⟨cAr_r, cAr_nil, cAr_nil, cAr_nil, trivial⟩, trivial⟩)|((first|refine' w_e rfl ?xa ?xb ?xc ?xe ?_|refine' v_e rfl ?xa ?xb ?xc ?xe ?_);(case xa => first|exact at_dst 43 rfl (e_callS [(1000000000, 8)] KV rfl ⟨asD_ren (evO_spec rfl), by rw [evO_spec rfl];exact asD_r rfl, trivial⟩ (by (repeat' (first|exact trivial|refine subHR_cons rfl ?_ ?_|rfl))) rfl)|exact at_dst 54 rfl (e_callS [(1000000000, 8), (2000001, 503)] KM rfl ⟨asD_ren (evO_spec rfl), by rw [evO_spec rfl];exact asD_r rfl, trivial⟩ (by (repeat' (first|exact trivial|refine subHR_cons rfl ?_ ?_|rfl))) rfl));(case xb => rfl);(case xc => rfl);(case xe => rfl);try dsimp only [P0.d, Res.d, List.map_cons, List.map_nil, List.set_cons_zero, List.set_cons_succ, Nat.reduceAdd])|((first|refine' w_ey rfl rfl (lookO_spec rfl) ?xa ?xb ?xc ?xe ?_|refine' v_ey rfl rfl (lookO_spec rfl) ?xa ?xb ?xc ?xe ?_);(case xa => first|exact at_dst 43 rfl (e_callS [(1000000000, 8)] KV rfl ⟨asD_ren (evO_spec rfl), by rw [evO_spec rfl];exact asD_r rfl, trivial⟩ (by (repeat' (first|exact trivial|refine subHR_cons rfl ?_ ?_|rfl))) rfl)|exact at_dst 54 rfl (e_callS [(1000000000, 8), (2000001, 503)] KM rfl ⟨asD_ren (evO_spec rfl), by rw [evO_spec rfl];exact asD_r rfl, trivial⟩ (by (repeat' (first|exact trivial|refine subHR_cons rfl ?_ ?_|rfl))) rfl));(case xb => rfl);(case xc => rfl);(case xe => rfl);try dsimp only [P0.d, Res.d, List.map_cons, List.map_nil, List.set_cons_zero, List.set_cons_succ, Nat.reduceAdd])|((first|refine aw_ways rfl ?_ ?_|refine r_split rfl rfl rfl ?_ ?_) <;> intro hg_ <;> fail_if_success (exact Bool.noConfusion hg_)) <;> (try simp only [prn] at hg_) <;> (try first|contradiction|(exfalso;omega)))
      all_goals first
    | exact ret_D [] rfl (by (repeat' (first|exact trivial|refine subHR_cons rfl ?_ ?_|rfl))) (retD_two (x := (true, _)) (y := (false, [_])) (ret1_cell rfl rfl (by (with_reducible first|exact ty3|exact ty4|exact ty5|exact ty9|exact ty17|exact ty19|exact ty22|exact ty24|exact ty25|exact ty26|exact ty28|exact ty36|exact ty38|exact ty40|exact ty44|exact ty46|exact ty48|exact ty55|exact ty81|exact ty84|exact ty89|exact ty95|exact ty98|exact ty105|exact ty118|exact ty122|exact ty132|exact ty134|exact ty137|exact ty143|exact ty153|exact ty155|exact ty156|exact ty161)) rfl rfl rfl) rfl (ret1_tmp rfl) rfl (imp_refl (tups2 rfl rfl)))
    | (exfalso; omega)
    | trace_state
  · rw [e2] at KE
    have hT : stT X = .tups [(true, [.r true (int r), Zc, Zc, Zc]), (false, [.r true (bool true)])] := by rw [hX]; rfl
    have hH : stH X = [] := by rw [hX]; rfl
    rw [hT, hH]
    refine fnS_of (l := [.cell 2 28, .tmp 3]) Try.func40 (by kernel_rfl) rfl Try.ntmps40 rfl rfl ?_; simp only [dEnv, Nat.reduceAdd]
    repeat' (first|(with_reducible first|refine aw_seq ?_|refine thn_normal ?_|refine thn_ret ?_|refine thn_exit ?_|refine blk_normal ?_|refine blk_ret ?_|refine blk_hit ?_|refine blk_miss rfl ?_|refine aw_block ?_|refine aw_ret ?_|refine aw_skip ?_|refine aw_exit ?_|refine w_nil ?_|refine x_nil (by kernel_rfl) ?_)|refine aw_region ?_|refine aw_region_draw (by kernel_rfl) ?_|refine aw_yes rfl ?_|refine aw_no rfl ?_|((with_reducible refine w_seq ?_);first|refine r_q tbOk rfl rfl rfl rfl ?_|refine r_e tbOk rfl rfl rfl rfl rfl ?_|refine r_yes tbOk rfl rfl rfl rfl rfl rfl ?_|refine w_no rfl rfl (lookO_spec rfl) rfl rfl rfl ?_|refine w_un rfl rfl (lookO_spec rfl) rfl rfl ?_)|((with_reducible refine w_drw ?_);first|refine rx_q tbOk rfl rfl rfl rfl ?_|refine rx_e tbOk rfl rfl rfl rfl rfl ?_|refine rx_yes tbOk rfl rfl rfl rfl rfl rfl ?_|refine x_no rfl rfl (lookO_spec rfl) rfl rfl rfl ?_|refine x_un rfl rfl (lookO_spec rfl) rfl rfl ?_)|((first|refine' w_q rfl rfl ?xa rfl ?_|refine' v_q rfl rfl ?xa rfl ?_|refine' w_yes rfl rfl (lookO_spec rfl) rfl ?xa rfl ?_|refine' v_yes rfl rfl (lookO_spec rfl) rfl ?xa rfl ?_);case xa => first|exact k_index tbOk rfl rfl rfl rfl (by first|omega|exact hc0) (by first|exact hx|exact hx0|exact hx1|exact hx2|exact hc)|exact k_slice (a := 1) (b := 1 + m) tbOk rfl rfl rfl ⟨_, evO_spec rfl⟩ ⟨_, (evO_spec rfl).trans hd1⟩ (by omega) (by omega)|exact k_slice (a := 1 + m) (b := 1 + m + w) tbOk rfl rfl rfl ⟨_, (evO_spec rfl).trans hd1⟩ ⟨_, (evO_spec rfl).trans hd2⟩ (by omega) (by omega)|exact k_call KN rfl ⟨asA_r (evO_spec rfl), asA_r (evO_spec rfl), asA_r (evO_spec rfl), trivial⟩|exact k_call KE rfl ⟨asA_r (evO_spec rfl), asA_r (evO_spec rfl), asA_r (evO_spec rfl), trivial⟩|exact k_call KO rfl ⟨asA_agg (evO_spec rfl) ⟨cAr_r, cAr_nil, cAr_nil, cAr_nil, trivial⟩, trivial⟩)|((first|refine' w_e rfl ?xa ?xb ?xc ?xe ?_|refine' v_e rfl ?xa ?xb ?xc ?xe ?_);(case xa => first|exact at_dst 43 rfl (e_callS [(1000000000, 8)] KV rfl ⟨asD_ren (evO_spec rfl), by rw [evO_spec rfl];exact asD_r rfl, trivial⟩ (by (repeat' (first|exact trivial|refine subHR_cons rfl ?_ ?_|rfl))) rfl)|exact at_dst 54 rfl (e_callS [(1000000000, 8), (2000001, 503)] KM rfl ⟨asD_ren (evO_spec rfl), by rw [evO_spec rfl];exact asD_r rfl, trivial⟩ (by (repeat' (first|exact trivial|refine subHR_cons rfl ?_ ?_|rfl))) rfl));(case xb => rfl);(case xc => rfl);(case xe => rfl);try dsimp only [P0.d, Res.d, List.map_cons, List.map_nil, List.set_cons_zero, List.set_cons_succ, Nat.reduceAdd])|((first|refine' w_ey rfl rfl (lookO_spec rfl) ?xa ?xb ?xc ?xe ?_|refine' v_ey rfl rfl (lookO_spec rfl) ?xa ?xb ?xc ?xe ?_);(case xa => first|exact at_dst 43 rfl (e_callS [(1000000000, 8)] KV rfl ⟨asD_ren (evO_spec rfl), by rw [evO_spec rfl];exact asD_r rfl, trivial⟩ (by (repeat' (first|exact trivial|refine subHR_cons rfl ?_ ?_|rfl))) rfl)|exact at_dst 54 rfl (e_callS [(1000000000, 8), (2000001, 503)] KM rfl ⟨asD_ren (evO_spec rfl), by rw [evO_spec rfl];exact asD_r rfl, trivial⟩ (by (repeat' (first|exact trivial|refine subHR_cons rfl ?_ ?_|rfl))) rfl));(case xb => rfl);(case xc => rfl);(case xe => rfl);try dsimp only [P0.d, Res.d, List.map_cons, List.map_nil, List.set_cons_zero, List.set_cons_succ, Nat.reduceAdd])|((first|refine aw_ways rfl ?_ ?_|refine r_split rfl rfl rfl ?_ ?_) <;> intro hg_ <;> fail_if_success (exact Bool.noConfusion hg_)) <;> (try simp only [prn] at hg_) <;> (try first|contradiction|(exfalso;omega)))
    all_goals first
    | exact ret_D [(2000001, 501), (2000002, 502), (2000003, 503)] rfl (by (repeat' (first|exact trivial|refine subHR_cons rfl ?_ ?_|rfl))) (retD_two (x := (true, _)) (y := (false, [_])) (ret1_cell rfl rfl (by (with_reducible first|exact ty3|exact ty4|exact ty5|exact ty9|exact ty17|exact ty19|exact ty22|exact ty24|exact ty25|exact ty26|exact ty28|exact ty36|exact ty38|exact ty40|exact ty44|exact ty46|exact ty48|exact ty55|exact ty81|exact ty84|exact ty89|exact ty95|exact ty98|exact ty105|exact ty118|exact ty122|exact ty132|exact ty134|exact ty137|exact ty143|exact ty153|exact ty155|exact ty156|exact ty161)) rfl rfl rfl) rfl (ret1_tmp rfl) rfl (imp_refl (tups2 rfl rfl)))
    | (exfalso; omega)
    | trace_state
set_option maxRecDepth 100000 in
set_option maxHeartbeats 8000000 in
theorem f_ckAtEndZO (nil : Bool) (D : List (List Int)) (b c : List Int) (r : Int) (m w : Nat) (hl : D.length ≤ 2000) (hx : (rowsI D)[(0 : Int).toNat]? = some (rowP b)) (h0 : 0 < D.length) (h : nbF 1 3 b = (some [r, (m : Int), (w : Int)], true)) (hs : m + w + 2 ≤ D.length) (hc : (rowsI D)[((1 + m + w : Nat) : Int).toNat]? = some (rowP c)) (hv : rdAll rdV1 ((D.drop 1).take m) = some []) (M : List E3) (hm : rdAll rdM1 ((D.drop (1 + m)).take w) = some M) (hMn : M ≠ []) (X : Option Sta) (hX0 : ((∀ ns, nbF 4 0 c ≠ (some ns, true)) ∨ Sta.ok ⟨r, [], [], M⟩ = false) → X = none) (hX1 : (∃ ns, nbF 4 0 c = (some ns, true)) → Sta.ok ⟨r, [], [], M⟩ = true → X = some ⟨r, [], [], M⟩) :
    FnS Try.prog 40 [.one (.r false (row nil 1 (rowsI D)))] [] (stT X) (stH X) := by
  have hlen := rowsI_len D
  have KN := f_numbersBehind false b 1 3 (by omega)
  rw [h] at KN
  unfold nbRes at KN
  dsimp only at KN
  have hx0 : (ints [r, (m : Int), (w : Int)])[(0 : Int).toNat]? = some (iP r) := rfl
  have hx1 : (ints [r, (m : Int), (w : Int)])[(1 : Int).toNat]? = some (iP (m : Int)) := rfl
  have hx2 : (ints [r, (m : Int), (w : Int)])[(2 : Int).toNat]? = some (iP (w : Int)) := rfl
  have hli : (ints [r, (m : Int), (w : Int)]).length = 3 := rfl
  have hw1 : IntKind.i64.wrap (IntKind.i64.wrap ((m : Int) + (w : Int)) + 2) = (m : Int) + w + 2 := by rw [IntWalk.i64_in ((m : Int) + (w : Int)) (by omega), IntWalk.i64_in _ (by omega)]
  have hq1 : IntKind.i64.wrap (1 + (m : Int)) = ((1 + m : Nat) : Int) := by rw [IntWalk.i64_in _ (by omega)]; omega
  have hq2 : IntKind.i64.wrap (IntKind.i64.wrap (1 + (m : Int)) + (w : Int)) = ((1 + m + w : Nat) : Int) := by rw [hq1, IntWalk.i64_in _ (by omega)]; omega
  have hd1 : Abs.D.one (Cell.r true (int (IntKind.i64.wrap (1 + (m : Int))))) = Abs.D.one (.r true (int ((1 + m : Nat) : Int))) := by rw [hq1]
  have hd2 : Abs.D.one (Cell.r true (int (IntKind.i64.wrap (IntKind.i64.wrap (1 + (m : Int)) + (w : Int))))) = Abs.D.one (.r true (int ((1 + m + w : Nat) : Int))) := by rw [hq2]
  have hpV : ((rowsI D).drop 1).take (1 + m - 1) = rowsI ((D.drop 1).take m) := by rw [rowsI_part, show 1 + m - 1 = m by omega]
  have hpM : ((rowsI D).drop (1 + m)).take (1 + m + w - (1 + m)) = rowsI ((D.drop (1 + m)).take w) := by rw [rowsI_part, show 1 + m + w - (1 + m) = w by omega]
  have hbl : ((D.drop 1).take m).length ≤ 2000 := by simp; omega
  have hbm : ((D.drop (1 + m)).take w).length ≤ 2000 := by simp; omega
  rw [← hq2] at hc
  have hc0 : 0 ≤ IntKind.i64.wrap (IntKind.i64.wrap (1 + (m : Int)) + (w : Int)) := by rw [hq2]; omega
  have hnil : (D.drop 1).take m = [] := List.eq_nil_of_length_eq_zero (by rw [← rdAll_len hv]; rfl)
  have KV := f_readValuesNil nil r
  rw [← hnil, ← hpV] at KV
  have KM := f_readMsYesZ nil _ r hbm M hm hMn
  rw [← hpM] at KM
  have hMe : M.isEmpty = false := by cases M with | nil => exact absurd rfl hMn | cons x y => rfl
  have hMl : M.length ≤ 2000 := by rw [rdAll_len hm]; exact hbm
  have hmi := (edges_len M).symm
  have KE := f_numbersBehind false c 4 0 (by omega)
  have KO := f_ownValid r true true false (⟨r, [], [], M⟩ : Sta).vs (⟨r, [], [], M⟩ : Sta).gs (⟨r, [], [], M⟩ : Sta).ms (by simp only [maxLen, List.length_nil]; omega) (by simp only [maxLen, List.length_nil]; omega) (by simp only [maxLen]; omega)
  rw [show stOk (((⟨r, [], [], M⟩ : Sta).vs.length : Nat) : Int) r (⟨r, [], [], M⟩ : Sta).vs (⟨r, [], [], M⟩ : Sta).gs.length (⟨r, [], [], M⟩ : Sta).ms = Sta.ok ⟨r, [], [], M⟩ from rfl] at KO
  dsimp only at KO
  generalize hok : Sta.ok ⟨r, [], [], M⟩ = ok at *
  have hfall : (X = none) ∨ (X = some ⟨r, [], [], M⟩ ∧ (∃ ns, nbF 4 0 c = (some ns, true) ∧ nbRes (nbF 4 0 c) = .tup [.one (row false 1 (ints ns)), .one (bool true)]) ∧ ok = true) := by
    rcases nbForm1 4 0 c with ⟨nn, ns, e1, e2⟩ | ⟨ns, e1, e2⟩
    · exact .inl (hX0 (.inl e2))
    · cases ok
      · exact .inl (hX0 (.inr rfl))
      · exact .inr ⟨hX1 ⟨ns, e1⟩ rfl, ⟨ns, e1, e2⟩, rfl⟩
  rcases hfall with hX | ⟨hX, ⟨ns, e1, e2⟩, rfl⟩
  · have hno : X = none := hX
    rw [hno]
    unfold stT stH
    rcases nbForm1 4 0 c with ⟨nn, ns, e1, e2⟩ | ⟨ns, e1, e2⟩
    · rw [e1] at KE
      refine fnS_of (l := [.cell 2 28, .tmp 3]) Try.func40 (by kernel_rfl) rfl Try.ntmps40 rfl rfl ?_; simp only [dEnv, Nat.reduceAdd]
      repeat' (first|(with_reducible first|refine aw_seq ?_|refine thn_normal ?_|refine thn_ret ?_|refine thn_exit ?_|refine blk_normal ?_|refine blk_ret ?_|refine blk_hit ?_|refine blk_miss rfl ?_|refine aw_block ?_|refine aw_ret ?_|refine aw_skip ?_|refine aw_exit ?_|refine w_nil ?_|refine x_nil (by kernel_rfl) ?_)|refine aw_region ?_|refine aw_region_draw (by kernel_rfl) ?_|refine aw_yes rfl ?_|refine aw_no rfl ?_|((with_reducible refine w_seq ?_);first|refine r_q tbOk rfl rfl rfl rfl ?_|refine r_e tbOk rfl rfl rfl rfl rfl ?_|refine r_yes tbOk rfl rfl rfl rfl rfl rfl ?_|refine w_no rfl rfl (lookO_spec rfl) rfl rfl rfl ?_|refine w_un rfl rfl (lookO_spec rfl) rfl rfl ?_)|((with_reducible refine w_drw ?_);first|refine rx_q tbOk rfl rfl rfl rfl ?_|refine rx_e tbOk rfl rfl rfl rfl rfl ?_|refine rx_yes tbOk rfl rfl rfl rfl rfl rfl ?_|refine x_no rfl rfl (lookO_spec rfl) rfl rfl rfl ?_|refine x_un rfl rfl (lookO_spec rfl) rfl rfl ?_)|((first|refine' w_q rfl rfl ?xa rfl ?_|refine' v_q rfl rfl ?xa rfl ?_|refine' w_yes rfl rfl (lookO_spec rfl) rfl ?xa rfl ?_|refine' v_yes rfl rfl (lookO_spec rfl) rfl ?xa rfl ?_);case xa => first|exact k_index tbOk rfl rfl rfl rfl (by first|omega|exact hc0) (by first|exact hx|exact hx0|exact hx1|exact hx2|exact hc)|exact k_slice (a := 1) (b := 1 + m) tbOk rfl rfl rfl ⟨_, evO_spec rfl⟩ ⟨_, (evO_spec rfl).trans hd1⟩ (by omega) (by omega)|exact k_slice (a := 1 + m) (b := 1 + m + w) tbOk rfl rfl rfl ⟨_, (evO_spec rfl).trans hd1⟩ ⟨_, (evO_spec rfl).trans hd2⟩ (by omega) (by omega)|exact k_call KN rfl ⟨asA_r (evO_spec rfl), asA_r (evO_spec rfl), asA_r (evO_spec rfl), trivial⟩|exact k_call KE rfl ⟨asA_r (evO_spec rfl), asA_r (evO_spec rfl), asA_r (evO_spec rfl), trivial⟩|exact k_call KO rfl ⟨asA_agg (evO_spec rfl) ⟨cAr_r, cAr_nil, cAr_nil, cAr_own0 (lookHO_spec rfl) hmi, trivial⟩, trivial⟩)|((first|refine' w_e rfl ?xa ?xb ?xc ?xe ?_|refine' v_e rfl ?xa ?xb ?xc ?xe ?_);(case xa => first|exact at_dst 43 rfl (e_callS [(1000000000, 8)] KV rfl ⟨asD_ren (evO_spec rfl), by rw [evO_spec rfl];exact asD_r rfl, trivial⟩ (by (repeat' (first|exact trivial|refine subHR_cons rfl ?_ ?_|rfl))) rfl)|exact at_dst 54 rfl (e_callS [(1000000000, 8), (2000001, 503)] KM rfl ⟨asD_ren (evO_spec rfl), by rw [evO_spec rfl];exact asD_r rfl, trivial⟩ (by (repeat' (first|exact trivial|refine subHR_cons rfl ?_ ?_|rfl))) rfl));(case xb => rfl);(case xc => rfl);(case xe => rfl);try dsimp only [P0.d, Res.d, List.map_cons, List.map_nil, List.set_cons_zero, List.set_cons_succ, Nat.reduceAdd])|((first|refine' w_ey rfl rfl (lookO_spec rfl) ?xa ?xb ?xc ?xe ?_|refine' v_ey rfl rfl (lookO_spec rfl) ?xa ?xb ?xc ?xe ?_);(case xa => first|exact at_dst 43 rfl (e_callS [(1000000000, 8)] KV rfl ⟨asD_ren (evO_spec rfl), by rw [evO_spec rfl];exact asD_r rfl, trivial⟩ (by (repeat' (first|exact trivial|refine subHR_cons rfl ?_ ?_|rfl))) rfl)|exact at_dst 54 rfl (e_callS [(1000000000, 8), (2000001, 503)] KM rfl ⟨asD_ren (evO_spec rfl), by rw [evO_spec rfl];exact asD_r rfl, trivial⟩ (by (repeat' (first|exact trivial|refine subHR_cons rfl ?_ ?_|rfl))) rfl));(case xb => rfl);(case xc => rfl);(case xe => rfl);try dsimp only [P0.d, Res.d, List.map_cons, List.map_nil, List.set_cons_zero, List.set_cons_succ, Nat.reduceAdd])|((first|refine aw_ways rfl ?_ ?_|refine r_split rfl rfl rfl ?_ ?_) <;> intro hg_ <;> fail_if_success (exact Bool.noConfusion hg_)) <;> (try simp only [prn] at hg_) <;> (try first|contradiction|(exfalso;omega)))
      all_goals first
    | exact ret_D [] rfl (by (repeat' (first|exact trivial|refine subHR_cons rfl ?_ ?_|rfl))) (retD_two (x := (true, _)) (y := (false, [_])) (ret1_cell rfl rfl (by (with_reducible first|exact ty3|exact ty4|exact ty5|exact ty9|exact ty17|exact ty19|exact ty22|exact ty24|exact ty25|exact ty26|exact ty28|exact ty36|exact ty38|exact ty40|exact ty44|exact ty46|exact ty48|exact ty55|exact ty81|exact ty84|exact ty89|exact ty95|exact ty98|exact ty105|exact ty118|exact ty122|exact ty132|exact ty134|exact ty137|exact ty143|exact ty153|exact ty155|exact ty156|exact ty161)) rfl rfl rfl) rfl (ret1_tmp rfl) rfl (imp_refl (tups2 rfl rfl)))
    | (exfalso; omega)
    | trace_state
    · have hok0 : ok = false := by
        cases ok
        · rfl
        · have := hX1 ⟨ns, e1⟩ rfl
          rw [hno] at this; cases this
      subst hok0
      rw [e2] at KE
      refine fnS_of (l := [.cell 2 28, .tmp 3]) Try.func40 (by kernel_rfl) rfl Try.ntmps40 rfl rfl ?_; simp only [dEnv, Nat.reduceAdd]
      repeat' (first|(with_reducible first|refine aw_seq ?_|refine thn_normal ?_|refine thn_ret ?_|refine thn_exit ?_|refine blk_normal ?_|refine blk_ret ?_|refine blk_hit ?_|refine blk_miss rfl ?_|refine aw_block ?_|refine aw_ret ?_|refine aw_skip ?_|refine aw_exit ?_|refine w_nil ?_|refine x_nil (by kernel_rfl) ?_)|refine aw_region ?_|refine aw_region_draw (by kernel_rfl) ?_|refine aw_yes rfl ?_|refine aw_no rfl ?_|((with_reducible refine w_seq ?_);first|refine r_q tbOk rfl rfl rfl rfl ?_|refine r_e tbOk rfl rfl rfl rfl rfl ?_|refine r_yes tbOk rfl rfl rfl rfl rfl rfl ?_|refine w_no rfl rfl (lookO_spec rfl) rfl rfl rfl ?_|refine w_un rfl rfl (lookO_spec rfl) rfl rfl ?_)|((with_reducible refine w_drw ?_);first|refine rx_q tbOk rfl rfl rfl rfl ?_|refine rx_e tbOk rfl rfl rfl rfl rfl ?_|refine rx_yes tbOk rfl rfl rfl rfl rfl rfl ?_|refine x_no rfl rfl (lookO_spec rfl) rfl rfl rfl ?_|refine x_un rfl rfl (lookO_spec rfl) rfl rfl ?_)|((first|refine' w_q rfl rfl ?xa rfl ?_|refine' v_q rfl rfl ?xa rfl ?_|refine' w_yes rfl rfl (lookO_spec rfl) rfl ?xa rfl ?_|refine' v_yes rfl rfl (lookO_spec rfl) rfl ?xa rfl ?_);case xa => first|exact k_index tbOk rfl rfl rfl rfl (by first|omega|exact hc0) (by first|exact hx|exact hx0|exact hx1|exact hx2|exact hc)|exact k_slice (a := 1) (b := 1 + m) tbOk rfl rfl rfl ⟨_, evO_spec rfl⟩ ⟨_, (evO_spec rfl).trans hd1⟩ (by omega) (by omega)|exact k_slice (a := 1 + m) (b := 1 + m + w) tbOk rfl rfl rfl ⟨_, (evO_spec rfl).trans hd1⟩ ⟨_, (evO_spec rfl).trans hd2⟩ (by omega) (by omega)|exact k_call KN rfl ⟨asA_r (evO_spec rfl), asA_r (evO_spec rfl), asA_r (evO_spec rfl), trivial⟩|exact k_call KE rfl ⟨asA_r (evO_spec rfl), asA_r (evO_spec rfl), asA_r (evO_spec rfl), trivial⟩|exact k_call KO rfl ⟨asA_agg (evO_spec rfl) ⟨cAr_r, cAr_nil, cAr_nil, cAr_own0 (lookHO_spec rfl) hmi, trivial⟩, trivial⟩)|((first|refine' w_e rfl ?xa ?xb ?xc ?xe ?_|refine' v_e rfl ?xa ?xb ?xc ?xe ?_);(case xa => first|exact at_dst 43 rfl (e_callS [(1000000000, 8)] KV rfl ⟨asD_ren (evO_spec rfl), by rw [evO_spec rfl];exact asD_r rfl, trivial⟩ (by (repeat' (first|exact trivial|refine subHR_cons rfl ?_ ?_|rfl))) rfl)|exact at_dst 54 rfl (e_callS [(1000000000, 8), (2000001, 503)] KM rfl ⟨asD_ren (evO_spec rfl), by rw [evO_spec rfl];exact asD_r rfl, trivial⟩ (by (repeat' (first|exact trivial|refine subHR_cons rfl ?_ ?_|rfl))) rfl));(case xb => rfl);(case xc => rfl);(case xe => rfl);try dsimp only [P0.d, Res.d, List.map_cons, List.map_nil, List.set_cons_zero, List.set_cons_succ, Nat.reduceAdd])|((first|refine' w_ey rfl rfl (lookO_spec rfl) ?xa ?xb ?xc ?xe ?_|refine' v_ey rfl rfl (lookO_spec rfl) ?xa ?xb ?xc ?xe ?_);(case xa => first|exact at_dst 43 rfl (e_callS [(1000000000, 8)] KV rfl ⟨asD_ren (evO_spec rfl), by rw [evO_spec rfl];exact asD_r rfl, trivial⟩ (by (repeat' (first|exact trivial|refine subHR_cons rfl ?_ ?_|rfl))) rfl)|exact at_dst 54 rfl (e_callS [(1000000000, 8), (2000001, 503)] KM rfl ⟨asD_ren (evO_spec rfl), by rw [evO_spec rfl];exact asD_r rfl, trivial⟩ (by (repeat' (first|exact trivial|refine subHR_cons rfl ?_ ?_|rfl))) rfl));(case xb => rfl);(case xc => rfl);(case xe => rfl);try dsimp only [P0.d, Res.d, List.map_cons, List.map_nil, List.set_cons_zero, List.set_cons_succ, Nat.reduceAdd])|((first|refine aw_ways rfl ?_ ?_|refine r_split rfl rfl rfl ?_ ?_) <;> intro hg_ <;> fail_if_success (exact Bool.noConfusion hg_)) <;> (try simp only [prn] at hg_) <;> (try first|contradiction|(exfalso;omega)))
      all_goals first
    | exact ret_D [] rfl (by (repeat' (first|exact trivial|refine subHR_cons rfl ?_ ?_|rfl))) (retD_two (x := (true, _)) (y := (false, [_])) (ret1_cell rfl rfl (by (with_reducible first|exact ty3|exact ty4|exact ty5|exact ty9|exact ty17|exact ty19|exact ty22|exact ty24|exact ty25|exact ty26|exact ty28|exact ty36|exact ty38|exact ty40|exact ty44|exact ty46|exact ty48|exact ty55|exact ty81|exact ty84|exact ty89|exact ty95|exact ty98|exact ty105|exact ty118|exact ty122|exact ty132|exact ty134|exact ty137|exact ty143|exact ty153|exact ty155|exact ty156|exact ty161)) rfl rfl rfl) rfl (ret1_tmp rfl) rfl (imp_refl (tups2 rfl rfl)))
    | (exfalso; omega)
    | trace_state
  · rw [e2] at KE
    have hT : stT X = .tups [(true, [.r true (int r), Zc, Zc, .own 2000003 0 M.length 3]), (false, [.r true (bool true)])] := by rw [hX]; simp only [stT, rowC, hMe]; rfl
    have hH : stH X = [(2000003, .sl 95 3 true (edges M))] := by rw [hX]; simp only [stH, hMe]; rfl
    rw [hT, hH]
    refine fnS_of (l := [.cell 2 28, .tmp 3]) Try.func40 (by kernel_rfl) rfl Try.ntmps40 rfl rfl ?_; simp only [dEnv, Nat.reduceAdd]
    repeat' (first|(with_reducible first|refine aw_seq ?_|refine thn_normal ?_|refine thn_ret ?_|refine thn_exit ?_|refine blk_normal ?_|refine blk_ret ?_|refine blk_hit ?_|refine blk_miss rfl ?_|refine aw_block ?_|refine aw_ret ?_|refine aw_skip ?_|refine aw_exit ?_|refine w_nil ?_|refine x_nil (by kernel_rfl) ?_)|refine aw_region ?_|refine aw_region_draw (by kernel_rfl) ?_|refine aw_yes rfl ?_|refine aw_no rfl ?_|((with_reducible refine w_seq ?_);first|refine r_q tbOk rfl rfl rfl rfl ?_|refine r_e tbOk rfl rfl rfl rfl rfl ?_|refine r_yes tbOk rfl rfl rfl rfl rfl rfl ?_|refine w_no rfl rfl (lookO_spec rfl) rfl rfl rfl ?_|refine w_un rfl rfl (lookO_spec rfl) rfl rfl ?_)|((with_reducible refine w_drw ?_);first|refine rx_q tbOk rfl rfl rfl rfl ?_|refine rx_e tbOk rfl rfl rfl rfl rfl ?_|refine rx_yes tbOk rfl rfl rfl rfl rfl rfl ?_|refine x_no rfl rfl (lookO_spec rfl) rfl rfl rfl ?_|refine x_un rfl rfl (lookO_spec rfl) rfl rfl ?_)|((first|refine' w_q rfl rfl ?xa rfl ?_|refine' v_q rfl rfl ?xa rfl ?_|refine' w_yes rfl rfl (lookO_spec rfl) rfl ?xa rfl ?_|refine' v_yes rfl rfl (lookO_spec rfl) rfl ?xa rfl ?_);case xa => first|exact k_index tbOk rfl rfl rfl rfl (by first|omega|exact hc0) (by first|exact hx|exact hx0|exact hx1|exact hx2|exact hc)|exact k_slice (a := 1) (b := 1 + m) tbOk rfl rfl rfl ⟨_, evO_spec rfl⟩ ⟨_, (evO_spec rfl).trans hd1⟩ (by omega) (by omega)|exact k_slice (a := 1 + m) (b := 1 + m + w) tbOk rfl rfl rfl ⟨_, (evO_spec rfl).trans hd1⟩ ⟨_, (evO_spec rfl).trans hd2⟩ (by omega) (by omega)|exact k_call KN rfl ⟨asA_r (evO_spec rfl), asA_r (evO_spec rfl), asA_r (evO_spec rfl), trivial⟩|exact k_call KE rfl ⟨asA_r (evO_spec rfl), asA_r (evO_spec rfl), asA_r (evO_spec rfl), trivial⟩|exact k_call KO rfl ⟨asA_agg (evO_spec rfl) ⟨cAr_r, cAr_nil, cAr_nil, cAr_own0 (lookHO_spec rfl) hmi, trivial⟩, trivial⟩)|((first|refine' w_e rfl ?xa ?xb ?xc ?xe ?_|refine' v_e rfl ?xa ?xb ?xc ?xe ?_);(case xa => first|exact at_dst 43 rfl (e_callS [(1000000000, 8)] KV rfl ⟨asD_ren (evO_spec rfl), by rw [evO_spec rfl];exact asD_r rfl, trivial⟩ (by (repeat' (first|exact trivial|refine subHR_cons rfl ?_ ?_|rfl))) rfl)|exact at_dst 54 rfl (e_callS [(1000000000, 8), (2000001, 503)] KM rfl ⟨asD_ren (evO_spec rfl), by rw [evO_spec rfl];exact asD_r rfl, trivial⟩ (by (repeat' (first|exact trivial|refine subHR_cons rfl ?_ ?_|rfl))) rfl));(case xb => rfl);(case xc => rfl);(case xe => rfl);try dsimp only [P0.d, Res.d, List.map_cons, List.map_nil, List.set_cons_zero, List.set_cons_succ, Nat.reduceAdd])|((first|refine' w_ey rfl rfl (lookO_spec rfl) ?xa ?xb ?xc ?xe ?_|refine' v_ey rfl rfl (lookO_spec rfl) ?xa ?xb ?xc ?xe ?_);(case xa => first|exact at_dst 43 rfl (e_callS [(1000000000, 8)] KV rfl ⟨asD_ren (evO_spec rfl), by rw [evO_spec rfl];exact asD_r rfl, trivial⟩ (by (repeat' (first|exact trivial|refine subHR_cons rfl ?_ ?_|rfl))) rfl)|exact at_dst 54 rfl (e_callS [(1000000000, 8), (2000001, 503)] KM rfl ⟨asD_ren (evO_spec rfl), by rw [evO_spec rfl];exact asD_r rfl, trivial⟩ (by (repeat' (first|exact trivial|refine subHR_cons rfl ?_ ?_|rfl))) rfl));(case xb => rfl);(case xc => rfl);(case xe => rfl);try dsimp only [P0.d, Res.d, List.map_cons, List.map_nil, List.set_cons_zero, List.set_cons_succ, Nat.reduceAdd])|((first|refine aw_ways rfl ?_ ?_|refine r_split rfl rfl rfl ?_ ?_) <;> intro hg_ <;> fail_if_success (exact Bool.noConfusion hg_)) <;> (try simp only [prn] at hg_) <;> (try first|contradiction|(exfalso;omega)))
    all_goals first
    | exact ret_D [(2000001, 501), (2000002, 502), (2000003, 503)] rfl (by (repeat' (first|exact trivial|refine subHR_cons rfl ?_ ?_|rfl))) (retD_two (x := (true, _)) (y := (false, [_])) (ret1_cell rfl rfl (by (with_reducible first|exact ty3|exact ty4|exact ty5|exact ty9|exact ty17|exact ty19|exact ty22|exact ty24|exact ty25|exact ty26|exact ty28|exact ty36|exact ty38|exact ty40|exact ty44|exact ty46|exact ty48|exact ty55|exact ty81|exact ty84|exact ty89|exact ty95|exact ty98|exact ty105|exact ty118|exact ty122|exact ty132|exact ty134|exact ty137|exact ty143|exact ty153|exact ty155|exact ty156|exact ty161)) rfl rfl rfl) rfl (ret1_tmp rfl) rfl (imp_refl (tups2 rfl rfl)))
    | (exfalso; omega)
    | trace_state
set_option maxRecDepth 100000 in
set_option maxHeartbeats 8000000 in
theorem f_ckAtMsgsO (nil : Bool) (D : List (List Int)) (b c : List Int) (r : Int) (m w : Nat) (hl : D.length ≤ 2000) (hx : (rowsI D)[(0 : Int).toNat]? = some (rowP b)) (h0 : 0 < D.length) (h : nbF 1 3 b = (some [r, (m : Int), (w : Int)], true)) (hs : m + w + 2 ≤ D.length) (hc : (rowsI D)[((1 + m + w : Nat) : Int).toNat]? = some (rowP c)) (L : List (Int × Bool)) (hv : rdAll rdV1 ((D.drop 1).take m) = some L) (hLn : L ≠ []) (hm : rdAll rdM1 ((D.drop (1 + m)).take w) = none) :
    FnS Try.prog 40 [.one (.r false (row nil 1 (rowsI D)))] [] (stT none) (stH none) := by
  have hlen := rowsI_len D
  have KN := f_numbersBehind false b 1 3 (by omega)
  rw [h] at KN
  unfold nbRes at KN
  dsimp only at KN
  have hx0 : (ints [r, (m : Int), (w : Int)])[(0 : Int).toNat]? = some (iP r) := rfl
  have hx1 : (ints [r, (m : Int), (w : Int)])[(1 : Int).toNat]? = some (iP (m : Int)) := rfl
  have hx2 : (ints [r, (m : Int), (w : Int)])[(2 : Int).toNat]? = some (iP (w : Int)) := rfl
  have hli : (ints [r, (m : Int), (w : Int)]).length = 3 := rfl
  have hw1 : IntKind.i64.wrap (IntKind.i64.wrap ((m : Int) + (w : Int)) + 2) = (m : Int) + w + 2 := by rw [IntWalk.i64_in ((m : Int) + (w : Int)) (by omega), IntWalk.i64_in _ (by omega)]
  have hq1 : IntKind.i64.wrap (1 + (m : Int)) = ((1 + m : Nat) : Int) := by rw [IntWalk.i64_in _ (by omega)]; omega
  have hq2 : IntKind.i64.wrap (IntKind.i64.wrap (1 + (m : Int)) + (w : Int)) = ((1 + m + w : Nat) : Int) := by rw [hq1, IntWalk.i64_in _ (by omega)]; omega
  have hd1 : Abs.D.one (Cell.r true (int (IntKind.i64.wrap (1 + (m : Int))))) = Abs.D.one (.r true (int ((1 + m : Nat) : Int))) := by rw [hq1]
  have hd2 : Abs.D.one (Cell.r true (int (IntKind.i64.wrap (IntKind.i64.wrap (1 + (m : Int)) + (w : Int))))) = Abs.D.one (.r true (int ((1 + m + w : Nat) : Int))) := by rw [hq2]
  have hpV : ((rowsI D).drop 1).take (1 + m - 1) = rowsI ((D.drop 1).take m) := by rw [rowsI_part, show 1 + m - 1 = m by omega]
  have hpM : ((rowsI D).drop (1 + m)).take (1 + m + w - (1 + m)) = rowsI ((D.drop (1 + m)).take w) := by rw [rowsI_part, show 1 + m + w - (1 + m) = w by omega]
  have hbl : ((D.drop 1).take m).length ≤ 2000 := by simp; omega
  have hbm : ((D.drop (1 + m)).take w).length ≤ 2000 := by simp; omega
  rw [← hq2] at hc
  have hc0 : 0 ≤ IntKind.i64.wrap (IntKind.i64.wrap (1 + (m : Int)) + (w : Int)) := by rw [hq2]; omega
  have KV := f_readValuesYes nil _ r hbl L hv hLn
  rw [← hpV] at KV
  have KM := f_readMsNoO nil _ r (vsOf L) (gsOf L) hbm hm
  rw [← hpM, vsOf_len, gsOf_len] at KM
  unfold stT stH
  refine fnS_of (l := [.cell 2 28, .tmp 3]) Try.func40 (by kernel_rfl) rfl Try.ntmps40 rfl rfl ?_; simp only [dEnv, Nat.reduceAdd]
  repeat' (first|(with_reducible first|refine aw_seq ?_|refine thn_normal ?_|refine thn_ret ?_|refine thn_exit ?_|refine blk_normal ?_|refine blk_ret ?_|refine blk_hit ?_|refine blk_miss rfl ?_|refine aw_block ?_|refine aw_ret ?_|refine aw_skip ?_|refine aw_exit ?_|refine w_nil ?_|refine x_nil (by kernel_rfl) ?_)|refine aw_region ?_|refine aw_region_draw (by kernel_rfl) ?_|refine aw_yes rfl ?_|refine aw_no rfl ?_|((with_reducible refine w_seq ?_);first|refine r_q tbOk rfl rfl rfl rfl ?_|refine r_e tbOk rfl rfl rfl rfl rfl ?_|refine r_yes tbOk rfl rfl rfl rfl rfl rfl ?_|refine w_no rfl rfl (lookO_spec rfl) rfl rfl rfl ?_|refine w_un rfl rfl (lookO_spec rfl) rfl rfl ?_)|((with_reducible refine w_drw ?_);first|refine rx_q tbOk rfl rfl rfl rfl ?_|refine rx_e tbOk rfl rfl rfl rfl rfl ?_|refine rx_yes tbOk rfl rfl rfl rfl rfl rfl ?_|refine x_no rfl rfl (lookO_spec rfl) rfl rfl rfl ?_|refine x_un rfl rfl (lookO_spec rfl) rfl rfl ?_)|((first|refine' w_q rfl rfl ?xa rfl ?_|refine' v_q rfl rfl ?xa rfl ?_|refine' w_yes rfl rfl (lookO_spec rfl) rfl ?xa rfl ?_|refine' v_yes rfl rfl (lookO_spec rfl) rfl ?xa rfl ?_);case xa => first|exact k_index tbOk rfl rfl rfl rfl (by first|omega|exact hc0) (by first|exact hx|exact hx0|exact hx1|exact hx2|exact hc)|exact k_slice (a := 1) (b := 1 + m) tbOk rfl rfl rfl ⟨_, evO_spec rfl⟩ ⟨_, (evO_spec rfl).trans hd1⟩ (by omega) (by omega)|exact k_slice (a := 1 + m) (b := 1 + m + w) tbOk rfl rfl rfl ⟨_, (evO_spec rfl).trans hd1⟩ ⟨_, (evO_spec rfl).trans hd2⟩ (by omega) (by omega)|exact k_call KN rfl ⟨asA_r (evO_spec rfl), asA_r (evO_spec rfl), asA_r (evO_spec rfl), trivial⟩)|((first|refine' w_e rfl ?xa ?xb ?xc ?xe ?_|refine' v_e rfl ?xa ?xb ?xc ?xe ?_);(case xa => first|exact at_dst 43 rfl (e_callS [(1000000000, 8), (2000001, 501), (2000002, 502)] KV rfl ⟨asD_ren (evO_spec rfl), by rw [evO_spec rfl];exact asD_r rfl, trivial⟩ (by (repeat' (first|exact trivial|refine subHR_cons rfl ?_ ?_|rfl))) rfl)|exact at_dst 54 rfl (e_callS [(1000000000, 8), (1000000001, 501), (1000000002, 502), (2000001, 503)] KM rfl ⟨asD_ren (evO_spec rfl), by rw [evO_spec rfl];exact asD_r rfl, trivial⟩ (by (repeat' (first|exact trivial|refine subHR_cons rfl ?_ ?_|rfl))) rfl));(case xb => rfl);(case xc => rfl);(case xe => rfl);try dsimp only [P0.d, Res.d, List.map_cons, List.map_nil, List.set_cons_zero, List.set_cons_succ, Nat.reduceAdd])|((first|refine' w_ey rfl rfl (lookO_spec rfl) ?xa ?xb ?xc ?xe ?_|refine' v_ey rfl rfl (lookO_spec rfl) ?xa ?xb ?xc ?xe ?_);(case xa => first|exact at_dst 43 rfl (e_callS [(1000000000, 8), (2000001, 501), (2000002, 502)] KV rfl ⟨asD_ren (evO_spec rfl), by rw [evO_spec rfl];exact asD_r rfl, trivial⟩ (by (repeat' (first|exact trivial|refine subHR_cons rfl ?_ ?_|rfl))) rfl)|exact at_dst 54 rfl (e_callS [(1000000000, 8), (1000000001, 501), (1000000002, 502), (2000001, 503)] KM rfl ⟨asD_ren (evO_spec rfl), by rw [evO_spec rfl];exact asD_r rfl, trivial⟩ (by (repeat' (first|exact trivial|refine subHR_cons rfl ?_ ?_|rfl))) rfl));(case xb => rfl);(case xc => rfl);(case xe => rfl);try dsimp only [P0.d, Res.d, List.map_cons, List.map_nil, List.set_cons_zero, List.set_cons_succ, Nat.reduceAdd])|((first|refine aw_ways rfl ?_ ?_|refine r_split rfl rfl rfl ?_ ?_) <;> intro hg_ <;> fail_if_success (exact Bool.noConfusion hg_)) <;> (try simp only [prn] at hg_) <;> (try first|contradiction|(exfalso;omega)))
  all_goals first
    | exact ret_D [] rfl (by (repeat' (first|exact trivial|refine subHR_cons rfl ?_ ?_|rfl))) (retD_two (x := (true, _)) (y := (false, [_])) (ret1_cell rfl rfl (by (with_reducible first|exact ty3|exact ty4|exact ty5|exact ty9|exact ty17|exact ty19|exact ty22|exact ty24|exact ty25|exact ty26|exact ty28|exact ty36|exact ty38|exact ty40|exact ty44|exact ty46|exact ty48|exact ty55|exact ty81|exact ty84|exact ty89|exact ty95|exact ty98|exact ty105|exact ty118|exact ty122|exact ty132|exact ty134|exact ty137|exact ty143|exact ty153|exact ty155|exact ty156|exact ty161)) rfl rfl rfl) rfl (ret1_tmp rfl) rfl (imp_refl (tups2 rfl rfl)))
    | (exfalso; omega)
    | trace_state
set_option maxRecDepth 100000 in
set_option maxHeartbeats 8000000 in
theorem f_ckAtEndOZ (nil : Bool) (D : List (List Int)) (b c : List Int) (r : Int) (m w : Nat) (hl : D.length ≤ 2000) (hx : (rowsI D)[(0 : Int).toNat]? = some (rowP b)) (h0 : 0 < D.length) (h : nbF 1 3 b = (some [r, (m : Int), (w : Int)], true)) (hs : m + w + 2 ≤ D.length) (hc : (rowsI D)[((1 + m + w : Nat) : Int).toNat]? = some (rowP c)) (L : List (Int × Bool)) (hv : rdAll rdV1 ((D.drop 1).take m) = some L) (hLn : L ≠ []) (hm : rdAll rdM1 ((D.drop (1 + m)).take w) = some []) (X : Option Sta) (hX0 : ((∀ ns, nbF 4 0 c ≠ (some ns, true)) ∨ Sta.ok ⟨r, vsOf L, gsOf L, []⟩ = false) → X = none) (hX1 : (∃ ns, nbF 4 0 c = (some ns, true)) → Sta.ok ⟨r, vsOf L, gsOf L, []⟩ = true → X = some ⟨r, vsOf L, gsOf L, []⟩) :
    FnS Try.prog 40 [.one (.r false (row nil 1 (rowsI D)))] [] (stT X) (stH X) := by
  have hlen := rowsI_len D
  have KN := f_numbersBehind false b 1 3 (by omega)
  rw [h] at KN
  unfold nbRes at KN
  dsimp only at KN
  have hx0 : (ints [r, (m : Int), (w : Int)])[(0 : Int).toNat]? = some (iP r) := rfl
  have hx1 : (ints [r, (m : Int), (w : Int)])[(1 : Int).toNat]? = some (iP (m : Int)) := rfl
  have hx2 : (ints [r, (m : Int), (w : Int)])[(2 : Int).toNat]? = some (iP (w : Int)) := rfl
  have hli : (ints [r, (m : Int), (w : Int)]).length = 3 := rfl
  have hw1 : IntKind.i64.wrap (IntKind.i64.wrap ((m : Int) + (w : Int)) + 2) = (m : Int) + w + 2 := by rw [IntWalk.i64_in ((m : Int) + (w : Int)) (by omega), IntWalk.i64_in _ (by omega)]
  have hq1 : IntKind.i64.wrap (1 + (m : Int)) = ((1 + m : Nat) : Int) := by rw [IntWalk.i64_in _ (by omega)]; omega
  have hq2 : IntKind.i64.wrap (IntKind.i64.wrap (1 + (m : Int)) + (w : Int)) = ((1 + m + w : Nat) : Int) := by rw [hq1, IntWalk.i64_in _ (by omega)]; omega
  have hd1 : Abs.D.one (Cell.r true (int (IntKind.i64.wrap (1 + (m : Int))))) = Abs.D.one (.r true (int ((1 + m : Nat) : Int))) := by rw [hq1]
  have hd2 : Abs.D.one (Cell.r true (int (IntKind.i64.wrap (IntKind.i64.wrap (1 + (m : Int)) + (w : Int))))) = Abs.D.one (.r true (int ((1 + m + w : Nat) : Int))) := by rw [hq2]
  have hpV : ((rowsI D).drop 1).take (1 + m - 1) = rowsI ((D.drop 1).take m) := by rw [rowsI_part, show 1 + m - 1 = m by omega]
  have hpM : ((rowsI D).drop (1 + m)).take (1 + m + w - (1 + m)) = rowsI ((D.drop (1 + m)).take w) := by rw [rowsI_part, show 1 + m + w - (1 + m) = w by omega]
  have hbl : ((D.drop 1).take m).length ≤ 2000 := by simp; omega
  have hbm : ((D.drop (1 + m)).take w).length ≤ 2000 := by simp; omega
  rw [← hq2] at hc
  have hc0 : 0 ≤ IntKind.i64.wrap (IntKind.i64.wrap (1 + (m : Int)) + (w : Int)) := by rw [hq2]; omega
  have KV := f_readValuesYes nil _ r hbl L hv hLn
  rw [← hpV] at KV
  have hnilM : (D.drop (1 + m)).take w = [] := List.eq_nil_of_length_eq_zero (by rw [← rdAll_len hm]; rfl)
  have KM := f_readMsNilO nil r (vsOf L) (gsOf L)
  rw [← hnilM, ← hpM, vsOf_len, gsOf_len] at KM
  have hLe : (vsOf L).isEmpty = false := by cases L with | nil => exact absurd rfl hLn | cons x y => rfl
  have hLl : L.length ≤ 2000 := by rw [rdAll_len hv]; exact hbl
  have hvi : L.length = (ints (vsOf L)).length := by rw [ints_len, vsOf_len]
  have hgi : L.length = (bools (gsOf L)).length := by rw [bools_len, gsOf_len]
  have hMl : ([] : List E3).length ≤ 2000 := by simp
  have KE := f_numbersBehind false c 4 0 (by omega)
  have KO := f_ownValid r false false true (⟨r, vsOf L, gsOf L, []⟩ : Sta).vs (⟨r, vsOf L, gsOf L, []⟩ : Sta).gs (⟨r, vsOf L, gsOf L, []⟩ : Sta).ms (by simp only [maxLen, vsOf_len]; omega) (by simp only [maxLen, gsOf_len]; omega) (by simp only [maxLen]; omega)
  rw [show stOk (((⟨r, vsOf L, gsOf L, []⟩ : Sta).vs.length : Nat) : Int) r (⟨r, vsOf L, gsOf L, []⟩ : Sta).vs (⟨r, vsOf L, gsOf L, []⟩ : Sta).gs.length (⟨r, vsOf L, gsOf L, []⟩ : Sta).ms = Sta.ok ⟨r, vsOf L, gsOf L, []⟩ from rfl] at KO
  dsimp only at KO
  generalize hok : Sta.ok ⟨r, vsOf L, gsOf L, []⟩ = ok at *
  have hfall : (X = none) ∨ (X = some ⟨r, vsOf L, gsOf L, []⟩ ∧ (∃ ns, nbF 4 0 c = (some ns, true) ∧ nbRes (nbF 4 0 c) = .tup [.one (row false 1 (ints ns)), .one (bool true)]) ∧ ok = true) := by
    rcases nbForm1 4 0 c with ⟨nn, ns, e1, e2⟩ | ⟨ns, e1, e2⟩
    · exact .inl (hX0 (.inl e2))
    · cases ok
      · exact .inl (hX0 (.inr rfl))
      · exact .inr ⟨hX1 ⟨ns, e1⟩ rfl, ⟨ns, e1, e2⟩, rfl⟩
  rcases hfall with hX | ⟨hX, ⟨ns, e1, e2⟩, rfl⟩
  · have hno : X = none := hX
    rw [hno]
    unfold stT stH
    rcases nbForm1 4 0 c with ⟨nn, ns, e1, e2⟩ | ⟨ns, e1, e2⟩
    · rw [e1] at KE
      refine fnS_of (l := [.cell 2 28, .tmp 3]) Try.func40 (by kernel_rfl) rfl Try.ntmps40 rfl rfl ?_; simp only [dEnv, Nat.reduceAdd]
      repeat' (first|(with_reducible first|refine aw_seq ?_|refine thn_normal ?_|refine thn_ret ?_|refine thn_exit ?_|refine blk_normal ?_|refine blk_ret ?_|refine blk_hit ?_|refine blk_miss rfl ?_|refine aw_block ?_|refine aw_ret ?_|refine aw_skip ?_|refine aw_exit ?_|refine w_nil ?_|refine x_nil (by kernel_rfl) ?_)|refine aw_region ?_|refine aw_region_draw (by kernel_rfl) ?_|refine aw_yes rfl ?_|refine aw_no rfl ?_|((with_reducible refine w_seq ?_);first|refine r_q tbOk rfl rfl rfl rfl ?_|refine r_e tbOk rfl rfl rfl rfl rfl ?_|refine r_yes tbOk rfl rfl rfl rfl rfl rfl ?_|refine w_no rfl rfl (lookO_spec rfl) rfl rfl rfl ?_|refine w_un rfl rfl (lookO_spec rfl) rfl rfl ?_)|((with_reducible refine w_drw ?_);first|refine rx_q tbOk rfl rfl rfl rfl ?_|refine rx_e tbOk rfl rfl rfl rfl rfl ?_|refine rx_yes tbOk rfl rfl rfl rfl rfl rfl ?_|refine x_no rfl rfl (lookO_spec rfl) rfl rfl rfl ?_|refine x_un rfl rfl (lookO_spec rfl) rfl rfl ?_)|((first|refine' w_q rfl rfl ?xa rfl ?_|refine' v_q rfl rfl ?xa rfl ?_|refine' w_yes rfl rfl (lookO_spec rfl) rfl ?xa rfl ?_|refine' v_yes rfl rfl (lookO_spec rfl) rfl ?xa rfl ?_);case xa => first|exact k_index tbOk rfl rfl rfl rfl (by first|omega|exact hc0) (by first|exact hx|exact hx0|exact hx1|exact hx2|exact hc)|exact k_slice (a := 1) (b := 1 + m) tbOk rfl rfl rfl ⟨_, evO_spec rfl⟩ ⟨_, (evO_spec rfl).trans hd1⟩ (by omega) (by omega)|exact k_slice (a := 1 + m) (b := 1 + m + w) tbOk rfl rfl rfl ⟨_, (evO_spec rfl).trans hd1⟩ ⟨_, (evO_spec rfl).trans hd2⟩ (by omega) (by omega)|exact k_call KN rfl ⟨asA_r (evO_spec rfl), asA_r (evO_spec rfl), asA_r (evO_spec rfl), trivial⟩|exact k_call KE rfl ⟨asA_r (evO_spec rfl), asA_r (evO_spec rfl), asA_r (evO_spec rfl), trivial⟩|exact k_call KO rfl ⟨asA_agg (evO_spec rfl) ⟨cAr_r, cAr_own0 (lookHO_spec rfl) hvi, cAr_own0 (lookHO_spec rfl) hgi, cAr_nil, trivial⟩, trivial⟩)|((first|refine' w_e rfl ?xa ?xb ?xc ?xe ?_|refine' v_e rfl ?xa ?xb ?xc ?xe ?_);(case xa => first|exact at_dst 43 rfl (e_callS [(1000000000, 8), (2000001, 501), (2000002, 502)] KV rfl ⟨asD_ren (evO_spec rfl), by rw [evO_spec rfl];exact asD_r rfl, trivial⟩ (by (repeat' (first|exact trivial|refine subHR_cons rfl ?_ ?_|rfl))) rfl)|exact at_dst 54 rfl (e_callS [(1000000000, 8), (1000000001, 501), (1000000002, 502), (2000001, 503)] KM rfl ⟨asD_ren (evO_spec rfl), by rw [evO_spec rfl];exact asD_r rfl, trivial⟩ (by (repeat' (first|exact trivial|refine subHR_cons rfl ?_ ?_|rfl))) rfl));(case xb => rfl);(case xc => rfl);(case xe => rfl);try dsimp only [P0.d, Res.d, List.map_cons, List.map_nil, List.set_cons_zero, List.set_cons_succ, Nat.reduceAdd])|((first|refine' w_ey rfl rfl (lookO_spec rfl) ?xa ?xb ?xc ?xe ?_|refine' v_ey rfl rfl (lookO_spec rfl) ?xa ?xb ?xc ?xe ?_);(case xa => first|exact at_dst 43 rfl (e_callS [(1000000000, 8), (2000001, 501), (2000002, 502)] KV rfl ⟨asD_ren (evO_spec rfl), by rw [evO_spec rfl];exact asD_r rfl, trivial⟩ (by (repeat' (first|exact trivial|refine subHR_cons rfl ?_ ?_|rfl))) rfl)|exact at_dst 54 rfl (e_callS [(1000000000, 8), (1000000001, 501), (1000000002, 502), (2000001, 503)] KM rfl ⟨asD_ren (evO_spec rfl), by rw [evO_spec rfl];exact asD_r rfl, trivial⟩ (by (repeat' (first|exact trivial|refine subHR_cons rfl ?_ ?_|rfl))) rfl));(case xb => rfl);(case xc => rfl);(case xe => rfl);try dsimp only [P0.d, Res.d, List.map_cons, List.map_nil, List.set_cons_zero, List.set_cons_succ, Nat.reduceAdd])|((first|refine aw_ways rfl ?_ ?_|refine r_split rfl rfl rfl ?_ ?_) <;> intro hg_ <;> fail_if_success (exact Bool.noConfusion hg_)) <;> (try simp only [prn] at hg_) <;> (try first|contradiction|(exfalso;omega)))
      all_goals first
    | exact ret_D [] rfl (by (repeat' (first|exact trivial|refine subHR_cons rfl ?_ ?_|rfl))) (retD_two (x := (true, _)) (y := (false, [_])) (ret1_cell rfl rfl (by (with_reducible first|exact ty3|exact ty4|exact ty5|exact ty9|exact ty17|exact ty19|exact ty22|exact ty24|exact ty25|exact ty26|exact ty28|exact ty36|exact ty38|exact ty40|exact ty44|exact ty46|exact ty48|exact ty55|exact ty81|exact ty84|exact ty89|exact ty95|exact ty98|exact ty105|exact ty118|exact ty122|exact ty132|exact ty134|exact ty137|exact ty143|exact ty153|exact ty155|exact ty156|exact ty161)) rfl rfl rfl) rfl (ret1_tmp rfl) rfl (imp_refl (tups2 rfl rfl)))
    | (exfalso; omega)
    | trace_state
    · have hok0 : ok = false := by
        cases ok
        · rfl
        · have := hX1 ⟨ns, e1⟩ rfl
          rw [hno] at this; cases this
      subst hok0
      rw [e2] at KE
      refine fnS_of (l := [.cell 2 28, .tmp 3]) Try.func40 (by kernel_rfl) rfl Try.ntmps40 rfl rfl ?_; simp only [dEnv, Nat.reduceAdd]
      repeat' (first|(with_reducible first|refine aw_seq ?_|refine thn_normal ?_|refine thn_ret ?_|refine thn_exit ?_|refine blk_normal ?_|refine blk_ret ?_|refine blk_hit ?_|refine blk_miss rfl ?_|refine aw_block ?_|refine aw_ret ?_|refine aw_skip ?_|refine aw_exit ?_|refine w_nil ?_|refine x_nil (by kernel_rfl) ?_)|refine aw_region ?_|refine aw_region_draw (by kernel_rfl) ?_|refine aw_yes rfl ?_|refine aw_no rfl ?_|((with_reducible refine w_seq ?_);first|refine r_q tbOk rfl rfl rfl rfl ?_|refine r_e tbOk rfl rfl rfl rfl rfl ?_|refine r_yes tbOk rfl rfl rfl rfl rfl rfl ?_|refine w_no rfl rfl (lookO_spec rfl) rfl rfl rfl ?_|refine w_un rfl rfl (lookO_spec rfl) rfl rfl ?_)|((with_reducible refine w_drw ?_);first|refine rx_q tbOk rfl rfl rfl rfl ?_|refine rx_e tbOk rfl rfl rfl rfl rfl ?_|refine rx_yes tbOk rfl rfl rfl rfl rfl rfl ?_|refine x_no rfl rfl (lookO_spec rfl) rfl rfl rfl ?_|refine x_un rfl rfl (lookO_spec rfl) rfl rfl ?_)|((first|refine' w_q rfl rfl ?xa rfl ?_|refine' v_q rfl rfl ?xa rfl ?_|refine' w_yes rfl rfl (lookO_spec rfl) rfl ?xa rfl ?_|refine' v_yes rfl rfl (lookO_spec rfl) rfl ?xa rfl ?_);case xa => first|exact k_index tbOk rfl rfl rfl rfl (by first|omega|exact hc0) (by first|exact hx|exact hx0|exact hx1|exact hx2|exact hc)|exact k_slice (a := 1) (b := 1 + m) tbOk rfl rfl rfl ⟨_, evO_spec rfl⟩ ⟨_, (evO_spec rfl).trans hd1⟩ (by omega) (by omega)|exact k_slice (a := 1 + m) (b := 1 + m + w) tbOk rfl rfl rfl ⟨_, (evO_spec rfl).trans hd1⟩ ⟨_, (evO_spec rfl).trans hd2⟩ (by omega) (by omega)|exact k_call KN rfl ⟨asA_r (evO_spec rfl), asA_r (evO_spec rfl), asA_r (evO_spec rfl), trivial⟩|exact k_call KE rfl ⟨asA_r (evO_spec rfl), asA_r (evO_spec rfl), asA_r (evO_spec rfl), trivial⟩|exact k_call KO rfl ⟨asA_agg (evO_spec rfl) ⟨cAr_r, cAr_own0 (lookHO_spec rfl) hvi, cAr_own0 (lookHO_spec rfl) hgi, cAr_nil, trivial⟩, trivial⟩)|((first|refine' w_e rfl ?xa ?xb ?xc ?xe ?_|refine' v_e rfl ?xa ?xb ?xc ?xe ?_);(case xa => first|exact at_dst 43 rfl (e_callS [(1000000000, 8), (2000001, 501), (2000002, 502)] KV rfl ⟨asD_ren (evO_spec rfl), by rw [evO_spec rfl];exact asD_r rfl, trivial⟩ (by (repeat' (first|exact trivial|refine subHR_cons rfl ?_ ?_|rfl))) rfl)|exact at_dst 54 rfl (e_callS [(1000000000, 8), (1000000001, 501), (1000000002, 502), (2000001, 503)] KM rfl ⟨asD_ren (evO_spec rfl), by rw [evO_spec rfl];exact asD_r rfl, trivial⟩ (by (repeat' (first|exact trivial|refine subHR_cons rfl ?_ ?_|rfl))) rfl));(case xb => rfl);(case xc => rfl);(case xe => rfl);try dsimp only [P0.d, Res.d, List.map_cons, List.map_nil, List.set_cons_zero, List.set_cons_succ, Nat.reduceAdd])|((first|refine' w_ey rfl rfl (lookO_spec rfl) ?xa ?xb ?xc ?xe ?_|refine' v_ey rfl rfl (lookO_spec rfl) ?xa ?xb ?xc ?xe ?_);(case xa => first|exact at_dst 43 rfl (e_callS [(1000000000, 8), (2000001, 501), (2000002, 502)] KV rfl ⟨asD_ren (evO_spec rfl), by rw [evO_spec rfl];exact asD_r rfl, trivial⟩ (by (repeat' (first|exact trivial|refine subHR_cons rfl ?_ ?_|rfl))) rfl)|exact at_dst 54 rfl (e_callS [(1000000000, 8), (1000000001, 501), (1000000002, 502), (2000001, 503)] KM rfl ⟨asD_ren (evO_spec rfl), by rw [evO_spec rfl];exact asD_r rfl, trivial⟩ (by (repeat' (first|exact trivial|refine subHR_cons rfl ?_ ?_|rfl))) rfl));(case xb => rfl);(case xc => rfl);(case xe => rfl);try dsimp only [P0.d, Res.d, List.map_cons, List.map_nil, List.set_cons_zero, List.set_cons_succ, Nat.reduceAdd])|((first|refine aw_ways rfl ?_ ?_|refine r_split rfl rfl rfl ?_ ?_) <;> intro hg_ <;> fail_if_success (exact Bool.noConfusion hg_)) <;> (try simp only [prn] at hg_) <;> (try first|contradiction|(exfalso;omega)))
      all_goals first
    | exact ret_D [] rfl (by (repeat' (first|exact trivial|refine subHR_cons rfl ?_ ?_|rfl))) (retD_two (x := (true, _)) (y := (false, [_])) (ret1_cell rfl rfl (by (with_reducible first|exact ty3|exact ty4|exact ty5|exact ty9|exact ty17|exact ty19|exact ty22|exact ty24|exact ty25|exact ty26|exact ty28|exact ty36|exact ty38|exact ty40|exact ty44|exact ty46|exact ty48|exact ty55|exact ty81|exact ty84|exact ty89|exact ty95|exact ty98|exact ty105|exact ty118|exact ty122|exact ty132|exact ty134|exact ty137|exact ty143|exact ty153|exact ty155|exact ty156|exact ty161)) rfl rfl rfl) rfl (ret1_tmp rfl) rfl (imp_refl (tups2 rfl rfl)))
    | (exfalso; omega)
    | trace_state
  · rw [e2] at KE
    have hT : stT X = .tups [(true, [.r true (int r), .own 2000001 0 L.length 1, .own 2000002 0 L.length 1, Zc]), (false, [.r true (bool true)])] := by rw [hX]; simp only [stT, rowC, hLe, vsOf_len, gsOf_len]; rfl
    have hH : stH X = [(2000001, .sl 3 1 true (ints (vsOf L))), (2000002, .sl 4 1 true (bools (gsOf L)))] := by rw [hX]; simp only [stH, hLe, vsOf_len, gsOf_len]; rfl
    rw [hT, hH]
    refine fnS_of (l := [.cell 2 28, .tmp 3]) Try.func40 (by kernel_rfl) rfl Try.ntmps40 rfl rfl ?_; simp only [dEnv, Nat.reduceAdd]
    repeat' (first|(with_reducible first|refine aw_seq ?_|refine thn_normal ?_|refine thn_ret ?_|refine thn_exit ?_|refine blk_normal ?_|refine blk_ret ?_|refine blk_hit ?_|refine blk_miss rfl ?_|refine aw_block ?_|refine aw_ret ?_|refine aw_skip ?_|refine aw_exit ?_|refine w_nil ?_|refine x_nil (by kernel_rfl) ?_)|refine aw_region ?_|refine aw_region_draw (by kernel_rfl) ?_|refine aw_yes rfl ?_|refine aw_no rfl ?_|((with_reducible refine w_seq ?_);first|refine r_q tbOk rfl rfl rfl rfl ?_|refine r_e tbOk rfl rfl rfl rfl rfl ?_|refine r_yes tbOk rfl rfl rfl rfl rfl rfl ?_|refine w_no rfl rfl (lookO_spec rfl) rfl rfl rfl ?_|refine w_un rfl rfl (lookO_spec rfl) rfl rfl ?_)|((with_reducible refine w_drw ?_);first|refine rx_q tbOk rfl rfl rfl rfl ?_|refine rx_e tbOk rfl rfl rfl rfl rfl ?_|refine rx_yes tbOk rfl rfl rfl rfl rfl rfl ?_|refine x_no rfl rfl (lookO_spec rfl) rfl rfl rfl ?_|refine x_un rfl rfl (lookO_spec rfl) rfl rfl ?_)|((first|refine' w_q rfl rfl ?xa rfl ?_|refine' v_q rfl rfl ?xa rfl ?_|refine' w_yes rfl rfl (lookO_spec rfl) rfl ?xa rfl ?_|refine' v_yes rfl rfl (lookO_spec rfl) rfl ?xa rfl ?_);case xa => first|exact k_index tbOk rfl rfl rfl rfl (by first|omega|exact hc0) (by first|exact hx|exact hx0|exact hx1|exact hx2|exact hc)|exact k_slice (a := 1) (b := 1 + m) tbOk rfl rfl rfl ⟨_, evO_spec rfl⟩ ⟨_, (evO_spec rfl).trans hd1⟩ (by omega) (by omega)|exact k_slice (a := 1 + m) (b := 1 + m + w) tbOk rfl rfl rfl ⟨_, (evO_spec rfl).trans hd1⟩ ⟨_, (evO_spec rfl).trans hd2⟩ (by omega) (by omega)|exact k_call KN rfl ⟨asA_r (evO_spec rfl), asA_r (evO_spec rfl), asA_r (evO_spec rfl), trivial⟩|exact k_call KE rfl ⟨asA_r (evO_spec rfl), asA_r (evO_spec rfl), asA_r (evO_spec rfl), trivial⟩|exact k_call KO rfl ⟨asA_agg (evO_spec rfl) ⟨cAr_r, cAr_own0 (lookHO_spec rfl) hvi, cAr_own0 (lookHO_spec rfl) hgi, cAr_nil, trivial⟩, trivial⟩)|((first|refine' w_e rfl ?xa ?xb ?xc ?xe ?_|refine' v_e rfl ?xa ?xb ?xc ?xe ?_);(case xa => first|exact at_dst 43 rfl (e_callS [(1000000000, 8), (2000001, 501), (2000002, 502)] KV rfl ⟨asD_ren (evO_spec rfl), by rw [evO_spec rfl];exact asD_r rfl, trivial⟩ (by (repeat' (first|exact trivial|refine subHR_cons rfl ?_ ?_|rfl))) rfl)|exact at_dst 54 rfl (e_callS [(1000000000, 8), (1000000001, 501), (1000000002, 502), (2000001, 503)] KM rfl ⟨asD_ren (evO_spec rfl), by rw [evO_spec rfl];exact asD_r rfl, trivial⟩ (by (repeat' (first|exact trivial|refine subHR_cons rfl ?_ ?_|rfl))) rfl));(case xb => rfl);(case xc => rfl);(case xe => rfl);try dsimp only [P0.d, Res.d, List.map_cons, List.map_nil, List.set_cons_zero, List.set_cons_succ, Nat.reduceAdd])|((first|refine' w_ey rfl rfl (lookO_spec rfl) ?xa ?xb ?xc ?xe ?_|refine' v_ey rfl rfl (lookO_spec rfl) ?xa ?xb ?xc ?xe ?_);(case xa => first|exact at_dst 43 rfl (e_callS [(1000000000, 8), (2000001, 501), (2000002, 502)] KV rfl ⟨asD_ren (evO_spec rfl), by rw [evO_spec rfl];exact asD_r rfl, trivial⟩ (by (repeat' (first|exact trivial|refine subHR_cons rfl ?_ ?_|rfl))) rfl)|exact at_dst 54 rfl (e_callS [(1000000000, 8), (1000000001, 501), (1000000002, 502), (2000001, 503)] KM rfl ⟨asD_ren (evO_spec rfl), by rw [evO_spec rfl];exact asD_r rfl, trivial⟩ (by (repeat' (first|exact trivial|refine subHR_cons rfl ?_ ?_|rfl))) rfl));(case xb => rfl);(case xc => rfl);(case xe => rfl);try dsimp only [P0.d, Res.d, List.map_cons, List.map_nil, List.set_cons_zero, List.set_cons_succ, Nat.reduceAdd])|((first|refine aw_ways rfl ?_ ?_|refine r_split rfl rfl rfl ?_ ?_) <;> intro hg_ <;> fail_if_success (exact Bool.noConfusion hg_)) <;> (try simp only [prn] at hg_) <;> (try first|contradiction|(exfalso;omega)))
    all_goals first
    | exact ret_D [(2000001, 501), (2000002, 502), (2000003, 503)] rfl (by (repeat' (first|exact trivial|refine subHR_cons rfl ?_ ?_|rfl))) (retD_two (x := (true, _)) (y := (false, [_])) (ret1_cell rfl rfl (by (with_reducible first|exact ty3|exact ty4|exact ty5|exact ty9|exact ty17|exact ty19|exact ty22|exact ty24|exact ty25|exact ty26|exact ty28|exact ty36|exact ty38|exact ty40|exact ty44|exact ty46|exact ty48|exact ty55|exact ty81|exact ty84|exact ty89|exact ty95|exact ty98|exact ty105|exact ty118|exact ty122|exact ty132|exact ty134|exact ty137|exact ty143|exact ty153|exact ty155|exact ty156|exact ty161)) rfl rfl rfl) rfl (ret1_tmp rfl) rfl (imp_refl (tups2 rfl rfl)))
    | (exfalso; omega)
    | trace_state
set_option maxRecDepth 100000 in
set_option maxHeartbeats 8000000 in
theorem f_ckAtEndOO (nil : Bool) (D : List (List Int)) (b c : List Int) (r : Int) (m w : Nat) (hl : D.length ≤ 2000) (hx : (rowsI D)[(0 : Int).toNat]? = some (rowP b)) (h0 : 0 < D.length) (h : nbF 1 3 b = (some [r, (m : Int), (w : Int)], true)) (hs : m + w + 2 ≤ D.length) (hc : (rowsI D)[((1 + m + w : Nat) : Int).toNat]? = some (rowP c)) (L : List (Int × Bool)) (hv : rdAll rdV1 ((D.drop 1).take m) = some L) (hLn : L ≠ []) (M : List E3) (hm : rdAll rdM1 ((D.drop (1 + m)).take w) = some M) (hMn : M ≠ []) (X : Option Sta) (hX0 : ((∀ ns, nbF 4 0 c ≠ (some ns, true)) ∨ Sta.ok ⟨r, vsOf L, gsOf L, M⟩ = false) → X = none) (hX1 : (∃ ns, nbF 4 0 c = (some ns, true)) → Sta.ok ⟨r, vsOf L, gsOf L, M⟩ = true → X = some ⟨r, vsOf L, gsOf L, M⟩) :
    FnS Try.prog 40 [.one (.r false (row nil 1 (rowsI D)))] [] (stT X) (stH X) := by
  have hlen := rowsI_len D
  have KN := f_numbersBehind false b 1 3 (by omega)
  rw [h] at KN
  unfold nbRes at KN
  dsimp only at KN
  have hx0 : (ints [r, (m : Int), (w : Int)])[(0 : Int).toNat]? = some (iP r) := rfl
  have hx1 : (ints [r, (m : Int), (w : Int)])[(1 : Int).toNat]? = some (iP (m : Int)) := rfl
  have hx2 : (ints [r, (m : Int), (w : Int)])[(2 : Int).toNat]? = some (iP (w : Int)) := rfl
  have hli : (ints [r, (m : Int), (w : Int)]).length = 3 := rfl
  have hw1 : IntKind.i64.wrap (IntKind.i64.wrap ((m : Int) + (w : Int)) + 2) = (m : Int) + w + 2 := by rw [IntWalk.i64_in ((m : Int) + (w : Int)) (by omega), IntWalk.i64_in _ (by omega)]
  have hq1 : IntKind.i64.wrap (1 + (m : Int)) = ((1 + m : Nat) : Int) := by rw [IntWalk.i64_in _ (by omega)]; omega
  have hq2 : IntKind.i64.wrap (IntKind.i64.wrap (1 + (m : Int)) + (w : Int)) = ((1 + m + w : Nat) : Int) := by rw [hq1, IntWalk.i64_in _ (by omega)]; omega
  have hd1 : Abs.D.one (Cell.r true (int (IntKind.i64.wrap (1 + (m : Int))))) = Abs.D.one (.r true (int ((1 + m : Nat) : Int))) := by rw [hq1]
  have hd2 : Abs.D.one (Cell.r true (int (IntKind.i64.wrap (IntKind.i64.wrap (1 + (m : Int)) + (w : Int))))) = Abs.D.one (.r true (int ((1 + m + w : Nat) : Int))) := by rw [hq2]
  have hpV : ((rowsI D).drop 1).take (1 + m - 1) = rowsI ((D.drop 1).take m) := by rw [rowsI_part, show 1 + m - 1 = m by omega]
  have hpM : ((rowsI D).drop (1 + m)).take (1 + m + w - (1 + m)) = rowsI ((D.drop (1 + m)).take w) := by rw [rowsI_part, show 1 + m + w - (1 + m) = w by omega]
  have hbl : ((D.drop 1).take m).length ≤ 2000 := by simp; omega
  have hbm : ((D.drop (1 + m)).take w).length ≤ 2000 := by simp; omega
  rw [← hq2] at hc
  have hc0 : 0 ≤ IntKind.i64.wrap (IntKind.i64.wrap (1 + (m : Int)) + (w : Int)) := by rw [hq2]; omega
  have KV := f_readValuesYes nil _ r hbl L hv hLn
  rw [← hpV] at KV
  have KM := f_readMsYesO nil _ r (vsOf L) (gsOf L) hbm M hm hMn
  rw [← hpM, vsOf_len, gsOf_len] at KM
  have hLe : (vsOf L).isEmpty = false := by cases L with | nil => exact absurd rfl hLn | cons x y => rfl
  have hMe : M.isEmpty = false := by cases M with | nil => exact absurd rfl hMn | cons x y => rfl
  have hLl : L.length ≤ 2000 := by rw [rdAll_len hv]; exact hbl
  have hvi : L.length = (ints (vsOf L)).length := by rw [ints_len, vsOf_len]
  have hgi : L.length = (bools (gsOf L)).length := by rw [bools_len, gsOf_len]
  have hMl : M.length ≤ 2000 := by rw [rdAll_len hm]; exact hbm
  have hmi := (edges_len M).symm
  have KE := f_numbersBehind false c 4 0 (by omega)
  have KO := f_ownValid r false false false (⟨r, vsOf L, gsOf L, M⟩ : Sta).vs (⟨r, vsOf L, gsOf L, M⟩ : Sta).gs (⟨r, vsOf L, gsOf L, M⟩ : Sta).ms (by simp only [maxLen, vsOf_len]; omega) (by simp only [maxLen, gsOf_len]; omega) (by simp only [maxLen]; omega)
  rw [show stOk (((⟨r, vsOf L, gsOf L, M⟩ : Sta).vs.length : Nat) : Int) r (⟨r, vsOf L, gsOf L, M⟩ : Sta).vs (⟨r, vsOf L, gsOf L, M⟩ : Sta).gs.length (⟨r, vsOf L, gsOf L, M⟩ : Sta).ms = Sta.ok ⟨r, vsOf L, gsOf L, M⟩ from rfl] at KO
  dsimp only at KO
  generalize hok : Sta.ok ⟨r, vsOf L, gsOf L, M⟩ = ok at *
  have hfall : (X = none) ∨ (X = some ⟨r, vsOf L, gsOf L, M⟩ ∧ (∃ ns, nbF 4 0 c = (some ns, true) ∧ nbRes (nbF 4 0 c) = .tup [.one (row false 1 (ints ns)), .one (bool true)]) ∧ ok = true) := by
    rcases nbForm1 4 0 c with ⟨nn, ns, e1, e2⟩ | ⟨ns, e1, e2⟩
    · exact .inl (hX0 (.inl e2))
    · cases ok
      · exact .inl (hX0 (.inr rfl))
      · exact .inr ⟨hX1 ⟨ns, e1⟩ rfl, ⟨ns, e1, e2⟩, rfl⟩
  rcases hfall with hX | ⟨hX, ⟨ns, e1, e2⟩, rfl⟩
  · have hno : X = none := hX
    rw [hno]
    unfold stT stH
    rcases nbForm1 4 0 c with ⟨nn, ns, e1, e2⟩ | ⟨ns, e1, e2⟩
    · rw [e1] at KE
      refine fnS_of (l := [.cell 2 28, .tmp 3]) Try.func40 (by kernel_rfl) rfl Try.ntmps40 rfl rfl ?_; simp only [dEnv, Nat.reduceAdd]
      repeat' (first|(with_reducible first|refine aw_seq ?_|refine thn_normal ?_|refine thn_ret ?_|refine thn_exit ?_|refine blk_normal ?_|refine blk_ret ?_|refine blk_hit ?_|refine blk_miss rfl ?_|refine aw_block ?_|refine aw_ret ?_|refine aw_skip ?_|refine aw_exit ?_|refine w_nil ?_|refine x_nil (by kernel_rfl) ?_)|refine aw_region ?_|refine aw_region_draw (by kernel_rfl) ?_|refine aw_yes rfl ?_|refine aw_no rfl ?_|((with_reducible refine w_seq ?_);first|refine r_q tbOk rfl rfl rfl rfl ?_|refine r_e tbOk rfl rfl rfl rfl rfl ?_|refine r_yes tbOk rfl rfl rfl rfl rfl rfl ?_|refine w_no rfl rfl (lookO_spec rfl) rfl rfl rfl ?_|refine w_un rfl rfl (lookO_spec rfl) rfl rfl ?_)|((with_reducible refine w_drw ?_);first|refine rx_q tbOk rfl rfl rfl rfl ?_|refine rx_e tbOk rfl rfl rfl rfl rfl ?_|refine rx_yes tbOk rfl rfl rfl rfl rfl rfl ?_|refine x_no rfl rfl (lookO_spec rfl) rfl rfl rfl ?_|refine x_un rfl rfl (lookO_spec rfl) rfl rfl ?_)|((first|refine' w_q rfl rfl ?xa rfl ?_|refine' v_q rfl rfl ?xa rfl ?_|refine' w_yes rfl rfl (lookO_spec rfl) rfl ?xa rfl ?_|refine' v_yes rfl rfl (lookO_spec rfl) rfl ?xa rfl ?_);case xa => first|exact k_index tbOk rfl rfl rfl rfl (by first|omega|exact hc0) (by first|exact hx|exact hx0|exact hx1|exact hx2|exact hc)|exact k_slice (a := 1) (b := 1 + m) tbOk rfl rfl rfl ⟨_, evO_spec rfl⟩ ⟨_, (evO_spec rfl).trans hd1⟩ (by omega) (by omega)|exact k_slice (a := 1 + m) (b := 1 + m + w) tbOk rfl rfl rfl ⟨_, (evO_spec rfl).trans hd1⟩ ⟨_, (evO_spec rfl).trans hd2⟩ (by omega) (by omega)|exact k_call KN rfl ⟨asA_r (evO_spec rfl), asA_r (evO_spec rfl), asA_r (evO_spec rfl), trivial⟩|exact k_call KE rfl ⟨asA_r (evO_spec rfl), asA_r (evO_spec rfl), asA_r (evO_spec rfl), trivial⟩|exact k_call KO rfl ⟨asA_agg (evO_spec rfl) ⟨cAr_r, cAr_own0 (lookHO_spec rfl) hvi, cAr_own0 (lookHO_spec rfl) hgi, cAr_own0 (lookHO_spec rfl) hmi, trivial⟩, trivial⟩)|((first|refine' w_e rfl ?xa ?xb ?xc ?xe ?_|refine' v_e rfl ?xa ?xb ?xc ?xe ?_);(case xa => first|exact at_dst 43 rfl (e_callS [(1000000000, 8), (2000001, 501), (2000002, 502)] KV rfl ⟨asD_ren (evO_spec rfl), by rw [evO_spec rfl];exact asD_r rfl, trivial⟩ (by (repeat' (first|exact trivial|refine subHR_cons rfl ?_ ?_|rfl))) rfl)|exact at_dst 54 rfl (e_callS [(1000000000, 8), (1000000001, 501), (1000000002, 502), (2000001, 503)] KM rfl ⟨asD_ren (evO_spec rfl), by rw [evO_spec rfl];exact asD_r rfl, trivial⟩ (by (repeat' (first|exact trivial|refine subHR_cons rfl ?_ ?_|rfl))) rfl));(case xb => rfl);(case xc => rfl);(case xe => rfl);try dsimp only [P0.d, Res.d, List.map_cons, List.map_nil, List.set_cons_zero, List.set_cons_succ, Nat.reduceAdd])|((first|refine' w_ey rfl rfl (lookO_spec rfl) ?xa ?xb ?xc ?xe ?_|refine' v_ey rfl rfl (lookO_spec rfl) ?xa ?xb ?xc ?xe ?_);(case xa => first|exact at_dst 43 rfl (e_callS [(1000000000, 8), (2000001, 501), (2000002, 502)] KV rfl ⟨asD_ren (evO_spec rfl), by rw [evO_spec rfl];exact asD_r rfl, trivial⟩ (by (repeat' (first|exact trivial|refine subHR_cons rfl ?_ ?_|rfl))) rfl)|exact at_dst 54 rfl (e_callS [(1000000000, 8), (1000000001, 501), (1000000002, 502), (2000001, 503)] KM rfl ⟨asD_ren (evO_spec rfl), by rw [evO_spec rfl];exact asD_r rfl, trivial⟩ (by (repeat' (first|exact trivial|refine subHR_cons rfl ?_ ?_|rfl))) rfl));(case xb => rfl);(case xc => rfl);(case xe => rfl);try dsimp only [P0.d, Res.d, List.map_cons, List.map_nil, List.set_cons_zero, List.set_cons_succ, Nat.reduceAdd])|((first|refine aw_ways rfl ?_ ?_|refine r_split rfl rfl rfl ?_ ?_) <;> intro hg_ <;> fail_if_success (exact Bool.noConfusion hg_)) <;> (try simp only [prn] at hg_) <;> (try first|contradiction|(exfalso;omega)))
      all_goals first
    | exact ret_D [] rfl (by (repeat' (first|exact trivial|refine subHR_cons rfl ?_ ?_|rfl))) (retD_two (x := (true, _)) (y := (false, [_])) (ret1_cell rfl rfl (by (with_reducible first|exact ty3|exact ty4|exact ty5|exact ty9|exact ty17|exact ty19|exact ty22|exact ty24|exact ty25|exact ty26|exact ty28|exact ty36|exact ty38|exact ty40|exact ty44|exact ty46|exact ty48|exact ty55|exact ty81|exact ty84|exact ty89|exact ty95|exact ty98|exact ty105|exact ty118|exact ty122|exact ty132|exact ty134|exact ty137|exact ty143|exact ty153|exact ty155|exact ty156|exact ty161)) rfl rfl rfl) rfl (ret1_tmp rfl) rfl (imp_refl (tups2 rfl rfl)))
    | (exfalso; omega)
    | trace_state
    · have hok0 : ok = false := by
        cases ok
        · rfl
        · have := hX1 ⟨ns, e1⟩ rfl
          rw [hno] at this; cases this
      subst hok0
      rw [e2] at KE
      refine fnS_of (l := [.cell 2 28, .tmp 3]) Try.func40 (by kernel_rfl) rfl Try.ntmps40 rfl rfl ?_; simp only [dEnv, Nat.reduceAdd]
      repeat' (first|(with_reducible first|refine aw_seq ?_|refine thn_normal ?_|refine thn_ret ?_|refine thn_exit ?_|refine blk_normal ?_|refine blk_ret ?_|refine blk_hit ?_|refine blk_miss rfl ?_|refine aw_block ?_|refine aw_ret ?_|refine aw_skip ?_|refine aw_exit ?_|refine w_nil ?_|refine x_nil (by kernel_rfl) ?_)|refine aw_region ?_|refine aw_region_draw (by kernel_rfl) ?_|refine aw_yes rfl ?_|refine aw_no rfl ?_|((with_reducible refine w_seq ?_);first|refine r_q tbOk rfl rfl rfl rfl ?_|refine r_e tbOk rfl rfl rfl rfl rfl ?_|refine r_yes tbOk rfl rfl rfl rfl rfl rfl ?_|refine w_no rfl rfl (lookO_spec rfl) rfl rfl rfl ?_|refine w_un rfl rfl (lookO_spec rfl) rfl rfl ?_)|((with_reducible refine w_drw ?_);first|refine rx_q tbOk rfl rfl rfl rfl ?_|refine rx_e tbOk rfl rfl rfl rfl rfl ?_|refine rx_yes tbOk rfl rfl rfl rfl rfl rfl ?_|refine x_no rfl rfl (lookO_spec rfl) rfl rfl rfl ?_|refine x_un rfl rfl (lookO_spec rfl) rfl rfl ?_)|((first|refine' w_q rfl rfl ?xa rfl ?_|refine' v_q rfl rfl ?xa rfl ?_|refine' w_yes rfl rfl (lookO_spec rfl) rfl ?xa rfl ?_|refine' v_yes rfl rfl (lookO_spec rfl) rfl ?xa rfl ?_);case xa => first|exact k_index tbOk rfl rfl rfl rfl (by first|omega|exact hc0) (by first|exact hx|exact hx0|exact hx1|exact hx2|exact hc)|exact k_slice (a := 1) (b := 1 + m) tbOk rfl rfl rfl ⟨_, evO_spec rfl⟩ ⟨_, (evO_spec rfl).trans hd1⟩ (by omega) (by omega)|exact k_slice (a := 1 + m) (b := 1 + m + w) tbOk rfl rfl rfl ⟨_, (evO_spec rfl).trans hd1⟩ ⟨_, (evO_spec rfl).trans hd2⟩ (by omega) (by omega)|exact k_call KN rfl ⟨asA_r (evO_spec rfl), asA_r (evO_spec rfl), asA_r (evO_spec rfl), trivial⟩|exact k_call KE rfl ⟨asA_r (evO_spec rfl), asA_r (evO_spec rfl), asA_r (evO_spec rfl), trivial⟩|exact k_call KO rfl ⟨asA_agg (evO_spec rfl) ⟨cAr_r, cAr_own0 (lookHO_spec rfl) hvi, cAr_own0 (lookHO_spec rfl) hgi, cAr_own0 (lookHO_spec rfl) hmi, trivial⟩, trivial⟩)|((first|refine' w_e rfl ?xa ?xb ?xc ?xe ?_|refine' v_e rfl ?xa ?xb ?xc ?xe ?_);(case xa => first|exact at_dst 43 rfl (e_callS [(1000000000, 8), (2000001, 501), (2000002, 502)] KV rfl ⟨asD_ren (evO_spec rfl), by rw [evO_spec rfl];exact asD_r rfl, trivial⟩ (by (repeat' (first|exact trivial|refine subHR_cons rfl ?_ ?_|rfl))) rfl)|exact at_dst 54 rfl (e_callS [(1000000000, 8), (1000000001, 501), (1000000002, 502), (2000001, 503)] KM rfl ⟨asD_ren (evO_spec rfl), by rw [evO_spec rfl];exact asD_r rfl, trivial⟩ (by (repeat' (first|exact trivial|refine subHR_cons rfl ?_ ?_|rfl))) rfl));(case xb => rfl);(case xc => rfl);(case xe => rfl);try dsimp only [P0.d, Res.d, List.map_cons, List.map_nil, List.set_cons_zero, List.set_cons_succ, Nat.reduceAdd])|((first|refine' w_ey rfl rfl (lookO_spec rfl) ?xa ?xb ?xc ?xe ?_|refine' v_ey rfl rfl (lookO_spec rfl) ?xa ?xb ?xc ?xe ?_);(case xa => first|exact at_dst 43 rfl (e_callS [(1000000000, 8), (2000001, 501), (2000002, 502)] KV rfl ⟨asD_ren (evO_spec rfl), by rw [evO_spec rfl];exact asD_r rfl, trivial⟩ (by (repeat' (first|exact trivial|refine subHR_cons rfl ?_ ?_|rfl))) rfl)|exact at_dst 54 rfl (e_callS [(1000000000, 8), (1000000001, 501), (1000000002, 502), (2000001, 503)] KM rfl ⟨asD_ren (evO_spec rfl), by rw [evO_spec rfl];exact asD_r rfl, trivial⟩ (by (repeat' (first|exact trivial|refine subHR_cons rfl ?_ ?_|rfl))) rfl));(case xb => rfl);(case xc => rfl);(case xe => rfl);try dsimp only [P0.d, Res.d, List.map_cons, List.map_nil, List.set_cons_zero, List.set_cons_succ, Nat.reduceAdd])|((first|refine aw_ways rfl ?_ ?_|refine r_split rfl rfl rfl ?_ ?_) <;> intro hg_ <;> fail_if_success (exact Bool.noConfusion hg_)) <;> (try simp only [prn] at hg_) <;> (try first|contradiction|(exfalso;omega)))
      all_goals first
    | exact ret_D [] rfl (by (repeat' (first|exact trivial|refine subHR_cons rfl ?_ ?_|rfl))) (retD_two (x := (true, _)) (y := (false, [_])) (ret1_cell rfl rfl (by (with_reducible first|exact ty3|exact ty4|exact ty5|exact ty9|exact ty17|exact ty19|exact ty22|exact ty24|exact ty25|exact ty26|exact ty28|exact ty36|exact ty38|exact ty40|exact ty44|exact ty46|exact ty48|exact ty55|exact ty81|exact ty84|exact ty89|exact ty95|exact ty98|exact ty105|exact ty118|exact ty122|exact ty132|exact ty134|exact ty137|exact ty143|exact ty153|exact ty155|exact ty156|exact ty161)) rfl rfl rfl) rfl (ret1_tmp rfl) rfl (imp_refl (tups2 rfl rfl)))
    | (exfalso; omega)
    | trace_state
  · rw [e2] at KE
    have hT : stT X = .tups [(true, [.r true (int r), .own 2000001 0 L.length 1, .own 2000002 0 L.length 1, .own 2000003 0 M.length 3]), (false, [.r true (bool true)])] := by rw [hX]; simp only [stT, rowC, hLe, vsOf_len, gsOf_len, hMe]; rfl
    have hH : stH X = [(2000001, .sl 3 1 true (ints (vsOf L))), (2000002, .sl 4 1 true (bools (gsOf L))), (2000003, .sl 95 3 true (edges M))] := by rw [hX]; simp only [stH, hLe, vsOf_len, gsOf_len, hMe]; rfl
    rw [hT, hH]
    refine fnS_of (l := [.cell 2 28, .tmp 3]) Try.func40 (by kernel_rfl) rfl Try.ntmps40 rfl rfl ?_; simp only [dEnv, Nat.reduceAdd]
    repeat' (first|(with_reducible first|refine aw_seq ?_|refine thn_normal ?_|refine thn_ret ?_|refine thn_exit ?_|refine blk_normal ?_|refine blk_ret ?_|refine blk_hit ?_|refine blk_miss rfl ?_|refine aw_block ?_|refine aw_ret ?_|refine aw_skip ?_|refine aw_exit ?_|refine w_nil ?_|refine x_nil (by kernel_rfl) ?_)|refine aw_region ?_|refine aw_region_draw (by kernel_rfl) ?_|refine aw_yes rfl ?_|refine aw_no rfl ?_|((with_reducible refine w_seq ?_);first|refine r_q tbOk rfl rfl rfl rfl ?_|refine r_e tbOk rfl rfl rfl rfl rfl ?_|refine r_yes tbOk rfl rfl rfl rfl rfl rfl ?_|refine w_no rfl rfl (lookO_spec rfl) rfl rfl rfl ?_|refine w_un rfl rfl (lookO_spec rfl) rfl rfl ?_)|((with_reducible refine w_drw ?_);first|refine rx_q tbOk rfl rfl rfl rfl ?_|refine rx_e tbOk rfl rfl rfl rfl rfl ?_|refine rx_yes tbOk rfl rfl rfl rfl rfl rfl ?_|refine x_no rfl rfl (lookO_spec rfl) rfl rfl rfl ?_|refine x_un rfl rfl (lookO_spec rfl) rfl rfl ?_)|((first|refine' w_q rfl rfl ?xa rfl ?_|refine' v_q rfl rfl ?xa rfl ?_|refine' w_yes rfl rfl (lookO_spec rfl) rfl ?xa rfl ?_|refine' v_yes rfl rfl (lookO_spec rfl) rfl ?xa rfl ?_);case xa => first|exact k_index tbOk rfl rfl rfl rfl (by first|omega|exact hc0) (by first|exact hx|exact hx0|exact hx1|exact hx2|exact hc)|exact k_slice (a := 1) (b := 1 + m) tbOk rfl rfl rfl ⟨_, evO_spec rfl⟩ ⟨_, (evO_spec rfl).trans hd1⟩ (by omega) (by omega)|exact k_slice (a := 1 + m) (b := 1 + m + w) tbOk rfl rfl rfl ⟨_, (evO_spec rfl).trans hd1⟩ ⟨_, (evO_spec rfl).trans hd2⟩ (by omega) (by omega)|exact k_call KN rfl ⟨asA_r (evO_spec rfl), asA_r (evO_spec rfl), asA_r (evO_spec rfl), trivial⟩|exact k_call KE rfl ⟨asA_r (evO_spec rfl), asA_r (evO_spec rfl), asA_r (evO_spec rfl), trivial⟩|exact k_call KO rfl ⟨asA_agg (evO_spec rfl) ⟨cAr_r, cAr_own0 (lookHO_spec rfl) hvi, cAr_own0 (lookHO_spec rfl) hgi, cAr_own0 (lookHO_spec rfl) hmi, trivial⟩, trivial⟩)|((first|refine' w_e rfl ?xa ?xb ?xc ?xe ?_|refine' v_e rfl ?xa ?xb ?xc ?xe ?_);(case xa => first|exact at_dst 43 rfl (e_callS [(1000000000, 8), (2000001, 501), (2000002, 502)] KV rfl ⟨asD_ren (evO_spec rfl), by rw [evO_spec rfl];exact asD_r rfl, trivial⟩ (by (repeat' (first|exact trivial|refine subHR_cons rfl ?_ ?_|rfl))) rfl)|exact at_dst 54 rfl (e_callS [(1000000000, 8), (1000000001, 501), (1000000002, 502), (2000001, 503)] KM rfl ⟨asD_ren (evO_spec rfl), by rw [evO_spec rfl];exact asD_r rfl, trivial⟩ (by (repeat' (first|exact trivial|refine subHR_cons rfl ?_ ?_|rfl))) rfl));(case xb => rfl);(case xc => rfl);(case xe => rfl);try dsimp only [P0.d, Res.d, List.map_cons, List.map_nil, List.set_cons_zero, List.set_cons_succ, Nat.reduceAdd])|((first|refine' w_ey rfl rfl (lookO_spec rfl) ?xa ?xb ?xc ?xe ?_|refine' v_ey rfl rfl (lookO_spec rfl) ?xa ?xb ?xc ?xe ?_);(case xa => first|exact at_dst 43 rfl (e_callS [(1000000000, 8), (2000001, 501), (2000002, 502)] KV rfl ⟨asD_ren (evO_spec rfl), by rw [evO_spec rfl];exact asD_r rfl, trivial⟩ (by (repeat' (first|exact trivial|refine subHR_cons rfl ?_ ?_|rfl))) rfl)|exact at_dst 54 rfl (e_callS [(1000000000, 8), (1000000001, 501), (1000000002, 502), (2000001, 503)] KM rfl ⟨asD_ren (evO_spec rfl), by rw [evO_spec rfl];exact asD_r rfl, trivial⟩ (by (repeat' (first|exact trivial|refine subHR_cons rfl ?_ ?_|rfl))) rfl));(case xb => rfl);(case xc => rfl);(case xe => rfl);try dsimp only [P0.d, Res.d, List.map_cons, List.map_nil, List.set_cons_zero, List.set_cons_succ, Nat.reduceAdd])|((first|refine aw_ways rfl ?_ ?_|refine r_split rfl rfl rfl ?_ ?_) <;> intro hg_ <;> fail_if_success (exact Bool.noConfusion hg_)) <;> (try simp only [prn] at hg_) <;> (try first|contradiction|(exfalso;omega)))
    all_goals first
    | exact ret_D [(2000001, 501), (2000002, 502), (2000003, 503)] rfl (by (repeat' (first|exact trivial|refine subHR_cons rfl ?_ ?_|rfl))) (retD_two (x := (true, _)) (y := (false, [_])) (ret1_cell rfl rfl (by (with_reducible first|exact ty3|exact ty4|exact ty5|exact ty9|exact ty17|exact ty19|exact ty22|exact ty24|exact ty25|exact ty26|exact ty28|exact ty36|exact ty38|exact ty40|exact ty44|exact ty46|exact ty48|exact ty55|exact ty81|exact ty84|exact ty89|exact ty95|exact ty98|exact ty105|exact ty118|exact ty122|exact ty132|exact ty134|exact ty137|exact ty143|exact ty153|exact ty155|exact ty156|exact ty161)) rfl rfl rfl) rfl (ret1_tmp rfl) rfl (imp_refl (tups2 rfl rfl)))
    | (exfalso; omega)
    | trace_state
theorem zip_of {vs : List Int} {gs : List Bool} (h : gs.length = vs.length) : vsOf (vs.zip gs) = vs ∧ gsOf (vs.zip gs) = gs := by
  unfold vsOf gsOf
  exact ⟨List.map_fst_zip (by omega), List.map_snd_zip (by omega)⟩
theorem f_ckAtI (nil : Bool) (D : List (List Int)) (hl : D.length ≤ 2000) (h0 : 0 < D.length) :
    FnS Try.prog 40 [.one (.r false (row nil 1 (rowsI D)))] [] (stT (ckAt D)) (stH (ckAt D)) := by
  have hx : (rowsI D)[(0 : Int).toNat]? = some (rowP D[0]) := rowsI_get h0
  have hD0 : D[0]? = some D[0] := List.getElem?_eq_getElem h0
  generalize D[0] = b at *
  by_cases hh : ∃ ns, nbF 1 3 b = (some ns, true)
  · obtain ⟨ns, hns⟩ := hh
    obtain ⟨hb1, hb2, hb3⟩ := nbF_yes hns
    match ns, hb2 with
    | [r, m', w'], _ =>
      have q1 := hb3 m' (by simp)
      have q2 := hb3 w' (by simp)
      obtain ⟨m, rfl⟩ := Int.eq_ofNat_of_zero_le q1.1
      obtain ⟨w, rfl⟩ := Int.eq_ofNat_of_zero_le q2.1
      have key : ∀ s, Ck D s → s.r = r ∧ s.vs.length = m ∧ s.ms.length = w := fun s hs => by
        obtain ⟨b', e1, e2⟩ := hs.ckI.head
        rw [hD0] at e1
        injection e1 with e1
        subst e1
        rw [hns] at e2
        simp only [Prod.mk.injEq, Option.some.injEq, List.cons.injEq, and_true] at e2
        omega
      by_cases hs : m + w + 2 ≤ D.length
      · have hlt : 1 + m + w < D.length := by omega
        have hc : (rowsI D)[((1 + m + w : Nat) : Int).toNat]? = some (rowP D[1 + m + w]) := rowsI_at hlt
        have hDc : D[1 + m + w]? = some D[1 + m + w] := List.getElem?_eq_getElem hlt
        generalize D[1 + m + w] = c at *
        cases hv : rdAll rdV1 ((D.drop 1).take m) with
        | none =>
          have hX : ckAt D = none := ckAt_none fun s hs' => by
            obtain ⟨k1, k2, k3⟩ := key s hs'
            have := hs'.ckI.vals
            rw [k2, hv] at this; cases this
          rw [hX]
          exact f_ckAtVals nil D b c r m w hl hx h0 hns hs hc hv
        | some L =>
          cases hm : rdAll rdM1 ((D.drop (1 + m)).take w) with
          | none =>
            have hX : ckAt D = none := ckAt_none fun s hs' => by
              obtain ⟨k1, k2, k3⟩ := key s hs'
              have := hs'.ckI.msgs
              rw [k2, k3, hm] at this; cases this
            rw [hX]
            by_cases hLn : L = []
            · subst hLn
              exact f_ckAtMsgsZ nil D b c r m w hl hx h0 hns hs hc hv hm
            · exact f_ckAtMsgsO nil D b c r m w hl hx h0 hns hs hc L hv hLn hm
          | some M =>
            have hX1 : (∃ ns, nbF 4 0 c = (some ns, true)) → Sta.ok ⟨r, vsOf L, gsOf L, M⟩ = true → ckAt D = some ⟨r, vsOf L, gsOf L, M⟩ := fun ⟨ns, he⟩ hok => by
              have hz : ns = [] := List.eq_nil_of_length_eq_zero (nbF_len he)
              rw [hz] at he
              exact ckAt_some (CkI.ck (D := D) (m := m) (w := w) ⟨⟨b, hD0, hns⟩, hs, hv, hm, ⟨c, hDc, he⟩⟩ hok)
            have hX0 : ((∀ ns, nbF 4 0 c ≠ (some ns, true)) ∨ Sta.ok ⟨r, vsOf L, gsOf L, M⟩ = false) → ckAt D = none := fun hf => ckAt_none fun s hs' => by
              obtain ⟨k1, k2, k3⟩ := key s hs'
              have hI := hs'.ckI
              rcases hf with hf | hf
              · obtain ⟨c', e1, e2⟩ := hI.fin
                rw [k2, k3, hDc] at e1
                injection e1 with e1
                rw [← e1] at e2
                exact hf _ e2
              · have e1 := hI.vals
                have e2 := hI.msgs
                rw [k2, hv] at e1
                rw [k2, k3, hm] at e2
                injection e1 with e1
                injection e2 with e2
                obtain ⟨z1, z2⟩ := zip_of (Sta.okF hs'.1).gl
                rw [e1, z1, z2, e2, ← k1] at hf
                have := hs'.1
                rw [show s = ⟨s.r, s.vs, s.gs, s.ms⟩ from rfl, hf] at this
                cases this
            by_cases hLn : L = []
            · subst hLn
              by_cases hMn : M = []
              · subst hMn
                exact f_ckAtEndZZ nil D b c r m w hl hx h0 hns hs hc hv hm _ hX0 hX1
              · exact f_ckAtEndZO nil D b c r m w hl hx h0 hns hs hc hv M hm hMn _ hX0 hX1
            · by_cases hMn : M = []
              · subst hMn
                exact f_ckAtEndOZ nil D b c r m w hl hx h0 hns hs hc L hv hLn hm _ hX0 hX1
              · exact f_ckAtEndOO nil D b c r m w hl hx h0 hns hs hc L hv hLn M hm hMn _ hX0 hX1
      · have hX : ckAt D = none := ckAt_none fun s hs' => by
          obtain ⟨k1, k2, k3⟩ := key s hs'
          have := hs'.ckI.len
          omega
        rw [hX]
        exact f_ckAtSize nil D b r m w hl (by omega) (by omega) hx h0 hns (by omega)
  · have hX : ckAt D = none := ckAt_none fun s hs => by
      obtain ⟨b', e1, e2⟩ := hs.ckI.head
      rw [hD0] at e1
      injection e1 with e1
      rw [← e1] at e2
      exact hh ⟨_, e2⟩
    rw [hX]
    exact f_ckAtHead nil D b hx h0 fun ns e => hh ⟨ns, e⟩
set_option maxRecDepth 100000 in
set_option maxHeartbeats 8000000 in
theorem f_implLast (nil : Bool) (L : List (List Int)) (hl : L.length ≤ 1048576) :
    FnS Try.prog 10 [.one (.r false (row nil 1 (rowsI L)))] [] (stT (lastCk L)) (stH (lastCk L)) := by
  have hlenL := rowsI_len L
  obtain ⟨X, hX⟩ : ∃ X, X = lastCk L := ⟨_, rfl⟩
  rw [← hX]
  by_cases hbig : L.length ≤ 2000
  · have hX0 : X = lastFrom L L.length := by rw [hX]; unfold lastCk; rw [if_pos hbig]
    clear hX
    refine fnS_of (l := [.cell 2 28, .tmp 3]) Try.func10 (by kernel_rfl) rfl Try.ntmps10 rfl rfl ?_; simp only [dEnv, Nat.reduceAdd]
    repeat' (first|(with_reducible first|refine aw_seq ?_|refine thn_normal ?_|refine thn_ret ?_|refine thn_exit ?_|refine blk_normal ?_|refine blk_ret ?_|refine blk_hit ?_|refine blk_miss rfl ?_|refine aw_block ?_|refine aw_ret ?_|refine aw_skip ?_|refine aw_exit ?_|refine w_nil ?_|refine x_nil (by kernel_rfl) ?_)|refine aw_region ?_|refine aw_region_draw (by kernel_rfl) ?_|refine aw_yes rfl ?_|refine aw_no rfl ?_|((with_reducible refine w_seq ?_);first|refine r_q tbOk rfl rfl rfl rfl ?_|refine r_e tbOk rfl rfl rfl rfl rfl ?_|refine r_yes tbOk rfl rfl rfl rfl rfl rfl ?_|refine w_no rfl rfl (lookO_spec rfl) rfl rfl rfl ?_|refine w_un rfl rfl (lookO_spec rfl) rfl rfl ?_)|((with_reducible refine w_drw ?_);first|refine rx_q tbOk rfl rfl rfl rfl ?_|refine rx_e tbOk rfl rfl rfl rfl rfl ?_|refine rx_yes tbOk rfl rfl rfl rfl rfl rfl ?_|refine x_no rfl rfl (lookO_spec rfl) rfl rfl rfl ?_|refine x_un rfl rfl (lookO_spec rfl) rfl rfl ?_)|((first|refine aw_ways rfl ?_ ?_|refine r_split rfl rfl rfl ?_ ?_) <;> intro hg_ <;> fail_if_success (exact Bool.noConfusion hg_)) <;> (try simp only [prn] at hg_) <;> (try first|contradiction|(exfalso;omega)))
    have hw0 : IntKind.i64.wrap (((rowsI L).length : Int) - 1) = (L.length : Int) - 1 := by rw [hlenL]; exact IntWalk.i64_in _ (by omega)
    obtain ⟨F, hFs⟩ : ∃ F : Nat → St, ∀ k, F k = mkS 28 [(4, .one (.r true (int ((k : Int) - 1)))), (2, .one (.ptr 2 0 0 0)), (0, .one (.r false (row nil 1 (rowsI L))))] [(2, .var 28 [.r true (int 0), Zc, Zc, Zc])] := ⟨_, fun _ => rfl⟩
    refine aw_loopI (fun k : Nat => k ≤ L.length ∧ X = lastFrom L k) F (fun k => k) L.length ⟨Nat.le_refl _, hX0⟩ (by rw [hFs];(refine weak_ren [] rfl ?_ ?_ <;> repeat' (first|exact trivial|refine subR_cons rfl ?_ ?_|refine subHR_cons rfl ?_ ?_|rfl|(refine d_int ?_;(first|rfl|omega|(rw [IntWalk.i64_in _ (by omega)] <;> omega)|(simp;done)|(simp;omega)))|(refine d_bool ?_;(first|(simp_all;done)|(rw [Bool.eq_iff_iff];simp_all;done)|(rw [Bool.eq_iff_iff];simp_all;omega)|(rw [Bool.eq_iff_iff];simp;omega)))|exact d_int hw0))) ?_
    rintro k ⟨hk, HX⟩
    clear hX0
    cases k with
    | zero =>
      have hXz : X = none := HX
      rw [hXz, hFs]
      unfold stT stH
      clear HX hFs hXz
      repeat' (first|(with_reducible first|refine aw_seq ?_|refine thn_normal ?_|refine thn_ret ?_|refine thn_exit ?_|refine blk_normal ?_|refine blk_ret ?_|refine blk_hit ?_|refine blk_miss rfl ?_|refine aw_block ?_|refine aw_ret ?_|refine aw_skip ?_|refine aw_exit ?_|refine w_nil ?_|refine x_nil (by kernel_rfl) ?_)|refine aw_region ?_|refine aw_region_draw (by kernel_rfl) ?_|refine aw_yes rfl ?_|refine aw_no rfl ?_|((with_reducible refine w_seq ?_);first|refine r_q tbOk rfl rfl rfl rfl ?_|refine r_e tbOk rfl rfl rfl rfl rfl ?_|refine r_yes tbOk rfl rfl rfl rfl rfl rfl ?_|refine w_no rfl rfl (lookO_spec rfl) rfl rfl rfl ?_|refine w_un rfl rfl (lookO_spec rfl) rfl rfl ?_)|((with_reducible refine w_drw ?_);first|refine rx_q tbOk rfl rfl rfl rfl ?_|refine rx_e tbOk rfl rfl rfl rfl rfl ?_|refine rx_yes tbOk rfl rfl rfl rfl rfl rfl ?_|refine x_no rfl rfl (lookO_spec rfl) rfl rfl rfl ?_|refine x_un rfl rfl (lookO_spec rfl) rfl rfl ?_)|((first|refine aw_ways rfl ?_ ?_|refine r_split rfl rfl rfl ?_ ?_) <;> intro hg_ <;> fail_if_success (exact Bool.noConfusion hg_)) <;> (try simp only [prn] at hg_) <;> (try first|contradiction|(exfalso;omega)))
      all_goals first
        | exact ret_D [] rfl (by (repeat' (first|exact trivial|refine subHR_cons rfl ?_ ?_|rfl))) (retD_two (x := (true, _)) (y := (false, [_])) (ret1_cell rfl rfl (by (with_reducible first|exact ty3|exact ty4|exact ty5|exact ty9|exact ty17|exact ty19|exact ty22|exact ty24|exact ty25|exact ty26|exact ty28|exact ty36|exact ty38|exact ty40|exact ty44|exact ty46|exact ty48|exact ty55|exact ty81|exact ty84|exact ty89|exact ty95|exact ty98|exact ty105|exact ty118|exact ty122|exact ty132|exact ty134|exact ty137|exact ty143|exact ty153|exact ty155|exact ty156|exact ty161)) rfl rfl rfl) rfl (ret1_tmp rfl) rfl (imp_refl (tups2 rfl rfl)))
        | (exfalso; omega)
        | trace_state
    | succ m =>
      have KC := f_ckAtI nil (L.drop m) (by simp; omega) (by simp; omega)
      have hsl : ((rowsI L).drop m).take ((rowsI L).length - m) = rowsI (L.drop m) := by
        rw [rowsI_part, hlenL, List.take_of_length_le (by simp)]
      have e1 : (((m + 1 : Nat) : Int) - 1) = (m : Int) := by omega
      have hw1 : IntKind.i64.wrap ((m : Int) - 1) = (m : Int) - 1 := IntWalk.i64_in _ (by omega)
      cases hc : ckAt (L.drop m) with
      | none =>
        have HX2 : X = lastFrom L m := by rw [HX, lastFrom, hc]
        have hfin : ∀ s' : St, Weak s' (F m) → ∃ x' : Nat, (x' ≤ L.length ∧ X = lastFrom L x') ∧ Weak s' (F x') ∧ x' < m + 1 := fun s' h => ⟨m, ⟨by omega, HX2⟩, h, by omega⟩
        rw [hFs] at hfin ⊢
        rw [e1]
        rw [hc, ← hsl] at KC
        unfold stT stH at KC
        clear hFs HX HX2 hsl
        repeat' (first|(with_reducible first|refine aw_seq ?_|refine thn_normal ?_|refine thn_ret ?_|refine thn_exit ?_|refine blk_normal ?_|refine blk_ret ?_|refine blk_hit ?_|refine blk_miss rfl ?_|refine aw_block ?_|refine aw_ret ?_|refine aw_skip ?_|refine aw_exit ?_|refine w_nil ?_|refine x_nil (by kernel_rfl) ?_)|refine aw_region ?_|refine aw_region_draw (by kernel_rfl) ?_|refine aw_yes rfl ?_|refine aw_no rfl ?_|((with_reducible refine w_seq ?_);first|refine r_q tbOk rfl rfl rfl rfl ?_|refine r_e tbOk rfl rfl rfl rfl rfl ?_|refine r_yes tbOk rfl rfl rfl rfl rfl rfl ?_|refine w_no rfl rfl (lookO_spec rfl) rfl rfl rfl ?_|refine w_un rfl rfl (lookO_spec rfl) rfl rfl ?_)|((with_reducible refine w_drw ?_);first|refine rx_q tbOk rfl rfl rfl rfl ?_|refine rx_e tbOk rfl rfl rfl rfl rfl ?_|refine rx_yes tbOk rfl rfl rfl rfl rfl rfl ?_|refine x_no rfl rfl (lookO_spec rfl) rfl rfl rfl ?_|refine x_un rfl rfl (lookO_spec rfl) rfl rfl ?_)|((first|refine' w_q rfl rfl ?xa rfl ?_|refine' v_q rfl rfl ?xa rfl ?_|refine' w_yes rfl rfl (lookO_spec rfl) rfl ?xa rfl ?_|refine' v_yes rfl rfl (lookO_spec rfl) rfl ?xa rfl ?_);case xa => exact k_slice (a := m) (b := (rowsI L).length) tbOk rfl rfl rfl ⟨_, evO_spec rfl⟩ rfl (by omega) (Nat.le_refl _))|((first|refine' w_e rfl ?xa ?xb ?xc ?xe ?_|refine' v_e rfl ?xa ?xb ?xc ?xe ?_);(case xa => exact at_dst 22 rfl (e_callS0 (ys := [.one (row nil 1 (((rowsI L).drop m).take ((rowsI L).length - m)))]) [] KC rfl rfl ⟨asA_r (evO_spec rfl), trivial⟩ rfl rfl));(case xb => rfl);(case xc => rfl);(case xe => rfl);try dsimp only [P0.d, Res.d, List.map_cons, List.map_nil, List.set_cons_zero, List.set_cons_succ, Nat.reduceAdd])|((first|refine aw_ways rfl ?_ ?_|refine r_split rfl rfl rfl ?_ ?_) <;> intro hg_ <;> fail_if_success (exact Bool.noConfusion hg_)) <;> (try simp only [prn] at hg_) <;> (try first|contradiction|(exfalso;omega)))
        all_goals first
          | (refine hfin _ ?_
             (refine weak_ren [] rfl ?_ ?_ <;> repeat' (first|exact trivial|refine subR_cons rfl ?_ ?_|refine subHR_cons rfl ?_ ?_|rfl|(refine d_int ?_;(first|rfl|omega|(rw [IntWalk.i64_in _ (by omega)] <;> omega)|(simp;done)|(simp;omega)))|(refine d_bool ?_;(first|(simp_all;done)|(rw [Bool.eq_iff_iff];simp_all;done)|(rw [Bool.eq_iff_iff];simp_all;omega)|(rw [Bool.eq_iff_iff];simp;omega)))|exact d_int hw1)))
          | (exfalso; omega)
          | trace_state
      | some s =>
        have HX2 : X = some s := by rw [HX, lastFrom, hc]
        rw [HX2, hFs, e1]
        rw [hc, ← hsl] at KC
        clear hFs HX HX2 hc hsl
        obtain ⟨r, vs, gs, ms⟩ := s
        by_cases hvs : vs = []
        · subst hvs
          by_cases hms : ms = []
          · subst hms
            have hT : stT (some ⟨r, [], gs, []⟩) = .tups [(true, [.r true (int r), Zc, Zc, Zc]), (false, [.r true (bool true)])] := rfl
            have hH : stH (some ⟨r, [], gs, []⟩) = [] := rfl
            rw [hT, hH] at KC
            rw [hT, hH]
            clear hT hH
            repeat' (first|(with_reducible first|refine aw_seq ?_|refine thn_normal ?_|refine thn_ret ?_|refine thn_exit ?_|refine blk_normal ?_|refine blk_ret ?_|refine blk_hit ?_|refine blk_miss rfl ?_|refine aw_block ?_|refine aw_ret ?_|refine aw_skip ?_|refine aw_exit ?_|refine w_nil ?_|refine x_nil (by kernel_rfl) ?_)|refine aw_region ?_|refine aw_region_draw (by kernel_rfl) ?_|refine aw_yes rfl ?_|refine aw_no rfl ?_|((with_reducible refine w_seq ?_);first|refine r_q tbOk rfl rfl rfl rfl ?_|refine r_e tbOk rfl rfl rfl rfl rfl ?_|refine r_yes tbOk rfl rfl rfl rfl rfl rfl ?_|refine w_no rfl rfl (lookO_spec rfl) rfl rfl rfl ?_|refine w_un rfl rfl (lookO_spec rfl) rfl rfl ?_)|((with_reducible refine w_drw ?_);first|refine rx_q tbOk rfl rfl rfl rfl ?_|refine rx_e tbOk rfl rfl rfl rfl rfl ?_|refine rx_yes tbOk rfl rfl rfl rfl rfl rfl ?_|refine x_no rfl rfl (lookO_spec rfl) rfl rfl rfl ?_|refine x_un rfl rfl (lookO_spec rfl) rfl rfl ?_)|((first|refine' w_q rfl rfl ?xa rfl ?_|refine' v_q rfl rfl ?xa rfl ?_|refine' w_yes rfl rfl (lookO_spec rfl) rfl ?xa rfl ?_|refine' v_yes rfl rfl (lookO_spec rfl) rfl ?xa rfl ?_);case xa => exact k_slice (a := m) (b := (rowsI L).length) tbOk rfl rfl rfl ⟨_, evO_spec rfl⟩ rfl (by omega) (Nat.le_refl _))|((first|refine' w_e rfl ?xa ?xb ?xc ?xe ?_|refine' v_e rfl ?xa ?xb ?xc ?xe ?_);(case xa => exact at_dst 22 rfl (e_callS0 (ys := [.one (row nil 1 (((rowsI L).drop m).take ((rowsI L).length - m)))]) [(2000001, 501), (2000002, 502), (2000003, 503)] KC rfl rfl ⟨asA_r (evO_spec rfl), trivial⟩ rfl rfl));(case xb => rfl);(case xc => rfl);(case xe => rfl);try dsimp only [P0.d, Res.d, List.map_cons, List.map_nil, List.set_cons_zero, List.set_cons_succ, Nat.reduceAdd])|((first|refine aw_ways rfl ?_ ?_|refine r_split rfl rfl rfl ?_ ?_) <;> intro hg_ <;> fail_if_success (exact Bool.noConfusion hg_)) <;> (try simp only [prn] at hg_) <;> (try first|contradiction|(exfalso;omega)))
            all_goals first
              | exact ret_D [(2000001, 501), (2000002, 502), (2000003, 503)] rfl (by (repeat' (first|exact trivial|refine subHR_cons rfl ?_ ?_|rfl))) (retD_two (x := (true, _)) (y := (false, [_])) (ret1_cell rfl rfl (by (with_reducible first|exact ty3|exact ty4|exact ty5|exact ty9|exact ty17|exact ty19|exact ty22|exact ty24|exact ty25|exact ty26|exact ty28|exact ty36|exact ty38|exact ty40|exact ty44|exact ty46|exact ty48|exact ty55|exact ty81|exact ty84|exact ty89|exact ty95|exact ty98|exact ty105|exact ty118|exact ty122|exact ty132|exact ty134|exact ty137|exact ty143|exact ty153|exact ty155|exact ty156|exact ty161)) rfl rfl rfl) rfl (ret1_tmp rfl) rfl (imp_refl (tups2 rfl rfl)))
              | (exfalso; omega)
              | trace_state
          · have hme : ms.isEmpty = false := by cases ms with
              | nil => exact absurd rfl hms
              | cons x y => rfl
            have hT : stT (some ⟨r, [], gs, ms⟩) = .tups [(true, [.r true (int r), Zc, Zc, .own 2000003 0 ms.length 3]), (false, [.r true (bool true)])] := by simp only [stT, rowC, hme]; rfl
            have hH : stH (some ⟨r, [], gs, ms⟩) = [(2000003, .sl 95 3 true (edges ms))] := by simp only [stH, hme]; rfl
            rw [hT, hH] at KC
            rw [hT, hH]
            clear hT hH
            repeat' (first|(with_reducible first|refine aw_seq ?_|refine thn_normal ?_|refine thn_ret ?_|refine thn_exit ?_|refine blk_normal ?_|refine blk_ret ?_|refine blk_hit ?_|refine blk_miss rfl ?_|refine aw_block ?_|refine aw_ret ?_|refine aw_skip ?_|refine aw_exit ?_|refine w_nil ?_|refine x_nil (by kernel_rfl) ?_)|refine aw_region ?_|refine aw_region_draw (by kernel_rfl) ?_|refine aw_yes rfl ?_|refine aw_no rfl ?_|((with_reducible refine w_seq ?_);first|refine r_q tbOk rfl rfl rfl rfl ?_|refine r_e tbOk rfl rfl rfl rfl rfl ?_|refine r_yes tbOk rfl rfl rfl rfl rfl rfl ?_|refine w_no rfl rfl (lookO_spec rfl) rfl rfl rfl ?_|refine w_un rfl rfl (lookO_spec rfl) rfl rfl ?_)|((with_reducible refine w_drw ?_);first|refine rx_q tbOk rfl rfl rfl rfl ?_|refine rx_e tbOk rfl rfl rfl rfl rfl ?_|refine rx_yes tbOk rfl rfl rfl rfl rfl rfl ?_|refine x_no rfl rfl (lookO_spec rfl) rfl rfl rfl ?_|refine x_un rfl rfl (lookO_spec rfl) rfl rfl ?_)|((first|refine' w_q rfl rfl ?xa rfl ?_|refine' v_q rfl rfl ?xa rfl ?_|refine' w_yes rfl rfl (lookO_spec rfl) rfl ?xa rfl ?_|refine' v_yes rfl rfl (lookO_spec rfl) rfl ?xa rfl ?_);case xa => exact k_slice (a := m) (b := (rowsI L).length) tbOk rfl rfl rfl ⟨_, evO_spec rfl⟩ rfl (by omega) (Nat.le_refl _))|((first|refine' w_e rfl ?xa ?xb ?xc ?xe ?_|refine' v_e rfl ?xa ?xb ?xc ?xe ?_);(case xa => exact at_dst 22 rfl (e_callS0 (ys := [.one (row nil 1 (((rowsI L).drop m).take ((rowsI L).length - m)))]) [(2000001, 501), (2000002, 502), (2000003, 503)] KC rfl rfl ⟨asA_r (evO_spec rfl), trivial⟩ rfl rfl));(case xb => rfl);(case xc => rfl);(case xe => rfl);try dsimp only [P0.d, Res.d, List.map_cons, List.map_nil, List.set_cons_zero, List.set_cons_succ, Nat.reduceAdd])|((first|refine aw_ways rfl ?_ ?_|refine r_split rfl rfl rfl ?_ ?_) <;> intro hg_ <;> fail_if_success (exact Bool.noConfusion hg_)) <;> (try simp only [prn] at hg_) <;> (try first|contradiction|(exfalso;omega)))
            all_goals first
              | exact ret_D [(2000001, 501), (2000002, 502), (2000003, 503)] rfl (by (repeat' (first|exact trivial|refine subHR_cons rfl ?_ ?_|rfl))) (retD_two (x := (true, _)) (y := (false, [_])) (ret1_cell rfl rfl (by (with_reducible first|exact ty3|exact ty4|exact ty5|exact ty9|exact ty17|exact ty19|exact ty22|exact ty24|exact ty25|exact ty26|exact ty28|exact ty36|exact ty38|exact ty40|exact ty44|exact ty46|exact ty48|exact ty55|exact ty81|exact ty84|exact ty89|exact ty95|exact ty98|exact ty105|exact ty118|exact ty122|exact ty132|exact ty134|exact ty137|exact ty143|exact ty153|exact ty155|exact ty156|exact ty161)) rfl rfl rfl) rfl (ret1_tmp rfl) rfl (imp_refl (tups2 rfl rfl)))
              | (exfalso; omega)
              | trace_state
        · have hve : vs.isEmpty = false := by cases vs with
            | nil => exact absurd rfl hvs
            | cons x y => rfl
          by_cases hms : ms = []
          · subst hms
            have hT : stT (some ⟨r, vs, gs, []⟩) = .tups [(true, [.r true (int r), .own 2000001 0 vs.length 1, .own 2000002 0 gs.length 1, Zc]), (false, [.r true (bool true)])] := by simp only [stT, rowC, hve]; rfl
            have hH : stH (some ⟨r, vs, gs, []⟩) = [(2000001, .sl 3 1 true (ints vs)), (2000002, .sl 4 1 true (bools gs))] := by simp only [stH, hve]; rfl
            rw [hT, hH] at KC
            rw [hT, hH]
            clear hT hH
            repeat' (first|(with_reducible first|refine aw_seq ?_|refine thn_normal ?_|refine thn_ret ?_|refine thn_exit ?_|refine blk_normal ?_|refine blk_ret ?_|refine blk_hit ?_|refine blk_miss rfl ?_|refine aw_block ?_|refine aw_ret ?_|refine aw_skip ?_|refine aw_exit ?_|refine w_nil ?_|refine x_nil (by kernel_rfl) ?_)|refine aw_region ?_|refine aw_region_draw (by kernel_rfl) ?_|refine aw_yes rfl ?_|refine aw_no rfl ?_|((with_reducible refine w_seq ?_);first|refine r_q tbOk rfl rfl rfl rfl ?_|refine r_e tbOk rfl rfl rfl rfl rfl ?_|refine r_yes tbOk rfl rfl rfl rfl rfl rfl ?_|refine w_no rfl rfl (lookO_spec rfl) rfl rfl rfl ?_|refine w_un rfl rfl (lookO_spec rfl) rfl rfl ?_)|((with_reducible refine w_drw ?_);first|refine rx_q tbOk rfl rfl rfl rfl ?_|refine rx_e tbOk rfl rfl rfl rfl rfl ?_|refine rx_yes tbOk rfl rfl rfl rfl rfl rfl ?_|refine x_no rfl rfl (lookO_spec rfl) rfl rfl rfl ?_|refine x_un rfl rfl (lookO_spec rfl) rfl rfl ?_)|((first|refine' w_q rfl rfl ?xa rfl ?_|refine' v_q rfl rfl ?xa rfl ?_|refine' w_yes rfl rfl (lookO_spec rfl) rfl ?xa rfl ?_|refine' v_yes rfl rfl (lookO_spec rfl) rfl ?xa rfl ?_);case xa => exact k_slice (a := m) (b := (rowsI L).length) tbOk rfl rfl rfl ⟨_, evO_spec rfl⟩ rfl (by omega) (Nat.le_refl _))|((first|refine' w_e rfl ?xa ?xb ?xc ?xe ?_|refine' v_e rfl ?xa ?xb ?xc ?xe ?_);(case xa => exact at_dst 22 rfl (e_callS0 (ys := [.one (row nil 1 (((rowsI L).drop m).take ((rowsI L).length - m)))]) [(2000001, 501), (2000002, 502), (2000003, 503)] KC rfl rfl ⟨asA_r (evO_spec rfl), trivial⟩ rfl rfl));(case xb => rfl);(case xc => rfl);(case xe => rfl);try dsimp only [P0.d, Res.d, List.map_cons, List.map_nil, List.set_cons_zero, List.set_cons_succ, Nat.reduceAdd])|((first|refine aw_ways rfl ?_ ?_|refine r_split rfl rfl rfl ?_ ?_) <;> intro hg_ <;> fail_if_success (exact Bool.noConfusion hg_)) <;> (try simp only [prn] at hg_) <;> (try first|contradiction|(exfalso;omega)))
            all_goals first
              | exact ret_D [(2000001, 501), (2000002, 502), (2000003, 503)] rfl (by (repeat' (first|exact trivial|refine subHR_cons rfl ?_ ?_|rfl))) (retD_two (x := (true, _)) (y := (false, [_])) (ret1_cell rfl rfl (by (with_reducible first|exact ty3|exact ty4|exact ty5|exact ty9|exact ty17|exact ty19|exact ty22|exact ty24|exact ty25|exact ty26|exact ty28|exact ty36|exact ty38|exact ty40|exact ty44|exact ty46|exact ty48|exact ty55|exact ty81|exact ty84|exact ty89|exact ty95|exact ty98|exact ty105|exact ty118|exact ty122|exact ty132|exact ty134|exact ty137|exact ty143|exact ty153|exact ty155|exact ty156|exact ty161)) rfl rfl rfl) rfl (ret1_tmp rfl) rfl (imp_refl (tups2 rfl rfl)))
              | (exfalso; omega)
              | trace_state
          · have hme : ms.isEmpty = false := by cases ms with
              | nil => exact absurd rfl hms
              | cons x y => rfl
            have hT : stT (some ⟨r, vs, gs, ms⟩) = .tups [(true, [.r true (int r), .own 2000001 0 vs.length 1, .own 2000002 0 gs.length 1, .own 2000003 0 ms.length 3]), (false, [.r true (bool true)])] := by simp only [stT, rowC, hve, hme]; rfl
            have hH : stH (some ⟨r, vs, gs, ms⟩) = [(2000001, .sl 3 1 true (ints vs)), (2000002, .sl 4 1 true (bools gs)), (2000003, .sl 95 3 true (edges ms))] := by simp only [stH, hve, hme]; rfl
            rw [hT, hH] at KC
            rw [hT, hH]
            clear hT hH
            repeat' (first|(with_reducible first|refine aw_seq ?_|refine thn_normal ?_|refine thn_ret ?_|refine thn_exit ?_|refine blk_normal ?_|refine blk_ret ?_|refine blk_hit ?_|refine blk_miss rfl ?_|refine aw_block ?_|refine aw_ret ?_|refine aw_skip ?_|refine aw_exit ?_|refine w_nil ?_|refine x_nil (by kernel_rfl) ?_)|refine aw_region ?_|refine aw_region_draw (by kernel_rfl) ?_|refine aw_yes rfl ?_|refine aw_no rfl ?_|((with_reducible refine w_seq ?_);first|refine r_q tbOk rfl rfl rfl rfl ?_|refine r_e tbOk rfl rfl rfl rfl rfl ?_|refine r_yes tbOk rfl rfl rfl rfl rfl rfl ?_|refine w_no rfl rfl (lookO_spec rfl) rfl rfl rfl ?_|refine w_un rfl rfl (lookO_spec rfl) rfl rfl ?_)|((with_reducible refine w_drw ?_);first|refine rx_q tbOk rfl rfl rfl rfl ?_|refine rx_e tbOk rfl rfl rfl rfl rfl ?_|refine rx_yes tbOk rfl rfl rfl rfl rfl rfl ?_|refine x_no rfl rfl (lookO_spec rfl) rfl rfl rfl ?_|refine x_un rfl rfl (lookO_spec rfl) rfl rfl ?_)|((first|refine' w_q rfl rfl ?xa rfl ?_|refine' v_q rfl rfl ?xa rfl ?_|refine' w_yes rfl rfl (lookO_spec rfl) rfl ?xa rfl ?_|refine' v_yes rfl rfl (lookO_spec rfl) rfl ?xa rfl ?_);case xa => exact k_slice (a := m) (b := (rowsI L).length) tbOk rfl rfl rfl ⟨_, evO_spec rfl⟩ rfl (by omega) (Nat.le_refl _))|((first|refine' w_e rfl ?xa ?xb ?xc ?xe ?_|refine' v_e rfl ?xa ?xb ?xc ?xe ?_);(case xa => exact at_dst 22 rfl (e_callS0 (ys := [.one (row nil 1 (((rowsI L).drop m).take ((rowsI L).length - m)))]) [(2000001, 501), (2000002, 502), (2000003, 503)] KC rfl rfl ⟨asA_r (evO_spec rfl), trivial⟩ rfl rfl));(case xb => rfl);(case xc => rfl);(case xe => rfl);try dsimp only [P0.d, Res.d, List.map_cons, List.map_nil, List.set_cons_zero, List.set_cons_succ, Nat.reduceAdd])|((first|refine aw_ways rfl ?_ ?_|refine r_split rfl rfl rfl ?_ ?_) <;> intro hg_ <;> fail_if_success (exact Bool.noConfusion hg_)) <;> (try simp only [prn] at hg_) <;> (try first|contradiction|(exfalso;omega)))
            all_goals first
              | exact ret_D [(2000001, 501), (2000002, 502), (2000003, 503)] rfl (by (repeat' (first|exact trivial|refine subHR_cons rfl ?_ ?_|rfl))) (retD_two (x := (true, _)) (y := (false, [_])) (ret1_cell rfl rfl (by (with_reducible first|exact ty3|exact ty4|exact ty5|exact ty9|exact ty17|exact ty19|exact ty22|exact ty24|exact ty25|exact ty26|exact ty28|exact ty36|exact ty38|exact ty40|exact ty44|exact ty46|exact ty48|exact ty55|exact ty81|exact ty84|exact ty89|exact ty95|exact ty98|exact ty105|exact ty118|exact ty122|exact ty132|exact ty134|exact ty137|exact ty143|exact ty153|exact ty155|exact ty156|exact ty161)) rfl rfl rfl) rfl (ret1_tmp rfl) rfl (imp_refl (tups2 rfl rfl)))
              | (exfalso; omega)
              | trace_state
  · have hXz : X = none := by rw [hX]; unfold lastCk; rw [if_neg hbig]
    rw [hXz]
    unfold stT stH
    clear hX hXz
    refine fnS_of (l := [.cell 2 28, .tmp 3]) Try.func10 (by kernel_rfl) rfl Try.ntmps10 rfl rfl ?_; simp only [dEnv, Nat.reduceAdd]
    repeat' (first|(with_reducible first|refine aw_seq ?_|refine thn_normal ?_|refine thn_ret ?_|refine thn_exit ?_|refine blk_normal ?_|refine blk_ret ?_|refine blk_hit ?_|refine blk_miss rfl ?_|refine aw_block ?_|refine aw_ret ?_|refine aw_skip ?_|refine aw_exit ?_|refine w_nil ?_|refine x_nil (by kernel_rfl) ?_)|refine aw_region ?_|refine aw_region_draw (by kernel_rfl) ?_|refine aw_yes rfl ?_|refine aw_no rfl ?_|((with_reducible refine w_seq ?_);first|refine r_q tbOk rfl rfl rfl rfl ?_|refine r_e tbOk rfl rfl rfl rfl rfl ?_|refine r_yes tbOk rfl rfl rfl rfl rfl rfl ?_|refine w_no rfl rfl (lookO_spec rfl) rfl rfl rfl ?_|refine w_un rfl rfl (lookO_spec rfl) rfl rfl ?_)|((with_reducible refine w_drw ?_);first|refine rx_q tbOk rfl rfl rfl rfl ?_|refine rx_e tbOk rfl rfl rfl rfl rfl ?_|refine rx_yes tbOk rfl rfl rfl rfl rfl rfl ?_|refine x_no rfl rfl (lookO_spec rfl) rfl rfl rfl ?_|refine x_un rfl rfl (lookO_spec rfl) rfl rfl ?_)|((first|refine aw_ways rfl ?_ ?_|refine r_split rfl rfl rfl ?_ ?_) <;> intro hg_ <;> fail_if_success (exact Bool.noConfusion hg_)) <;> (try simp only [prn] at hg_) <;> (try first|contradiction|(exfalso;omega)))
    all_goals first
      | exact ret_D [] rfl (by (repeat' (first|exact trivial|refine subHR_cons rfl ?_ ?_|rfl))) (retD_two (x := (true, _)) (y := (false, [_])) (ret1_cell rfl rfl (by (with_reducible first|exact ty3|exact ty4|exact ty5|exact ty9|exact ty17|exact ty19|exact ty22|exact ty24|exact ty25|exact ty26|exact ty28|exact ty36|exact ty38|exact ty40|exact ty44|exact ty46|exact ty48|exact ty55|exact ty81|exact ty84|exact ty89|exact ty95|exact ty98|exact ty105|exact ty118|exact ty122|exact ty132|exact ty134|exact ty137|exact ty143|exact ty153|exact ty155|exact ty156|exact ty161)) rfl rfl rfl) rfl (ret1_tmp rfl) rfl (imp_refl (tups2 rfl rfl)))
      | (exfalso; omega)
      | trace_state
end Go.Proofs.Ytmkecjamfippfaa.Abs
set_option linter.unusedSimpArgs false
set_option linter.unusedVariables false
namespace Go.Proofs.Ytmkecjamfippfaa.Abs
open Go.RowKit
open R (val row ref)
set_option maxRecDepth 100000 in
set_option maxHeartbeats 4000000 in
theorem f_specStart (n : Nat) (hn : n ≤ 16) : Fn Try.prog 57 [iP (n : Int)] (.v (stateP 0 false (List.replicate n 0) (List.replicate n true).isEmpty (List.replicate n true) true [])) := by
  have K := f_l1In (n : Int) 0 16
  rw [show inR 0 16 (n : Int) = true by unfold inR; simp; omega] at K
  refine fn_of (l := [.cell 2 28]) Try.func57 (by kernel_rfl) rfl Try.ntmps57 rfl rfl ?_; simp only [argEnv, P0.d, Nat.reduceAdd]
  repeat' (first|(with_reducible first|refine aw_seq ?_|refine thn_normal ?_|refine thn_ret ?_|refine thn_exit ?_|refine blk_normal ?_|refine blk_ret ?_|refine blk_hit ?_|refine blk_miss rfl ?_|refine aw_block ?_|refine aw_ret ?_|refine aw_skip ?_|refine aw_exit ?_|refine w_nil ?_|refine x_nil (by kernel_rfl) ?_)|refine aw_region ?_|refine aw_region_draw (by kernel_rfl) ?_|refine aw_yes rfl ?_|refine aw_no rfl ?_|((with_reducible refine w_seq ?_);first|refine r_q tbOk rfl rfl rfl rfl ?_|refine r_e tbOk rfl rfl rfl rfl rfl ?_|refine r_yes tbOk rfl rfl rfl rfl rfl rfl ?_|refine w_no rfl rfl (lookO_spec rfl) rfl rfl rfl ?_|refine w_un rfl rfl (lookO_spec rfl) rfl rfl ?_)|((with_reducible refine w_drw ?_);first|refine rx_q tbOk rfl rfl rfl rfl ?_|refine rx_e tbOk rfl rfl rfl rfl rfl ?_|refine rx_yes tbOk rfl rfl rfl rfl rfl rfl ?_|refine x_no rfl rfl (lookO_spec rfl) rfl rfl rfl ?_|refine x_un rfl rfl (lookO_spec rfl) rfl rfl ?_)|((first|refine' w_q rfl rfl ?xa rfl ?_|refine' v_q rfl rfl ?xa rfl ?_|refine' w_yes rfl rfl (lookO_spec rfl) rfl ?xa rfl ?_|refine' v_yes rfl rfl (lookO_spec rfl) rfl ?xa rfl ?_);case xa => exact k_call K rfl ⟨asA_r (evO_spec rfl), asA_r (evO_spec rfl), asA_r (evO_spec rfl), trivial⟩)|((first|refine' w_e rfl ?xa ?xb ?xc ?xe ?_|refine' v_e rfl ?xa ?xb ?xc ?xe ?_);(case xa => exact e_make tlOk rfl rfl rfl rfl rfl rfl (c := n) rfl rfl (by omega) (by simp only [maxLen];omega));(case xb => rfl);(case xc => rfl);(case xe => rfl);try dsimp only [P0.d, Res.d, List.map_cons, List.map_nil, List.set_cons_zero, List.set_cons_succ, Nat.reduceAdd])|((first|refine aw_ways rfl ?_ ?_|refine r_split rfl rfl rfl ?_ ?_) <;> intro hg_ <;> fail_if_success (exact Bool.noConfusion hg_)) <;> (try simp only [prn] at hg_) <;> (try first|contradiction|(exfalso;omega)))
  obtain ⟨F, hF0, hF1⟩ : ∃ F : Nat → St, F 0 = mkS 23 [(4, .one (.r true (int 0))), (3, .one (.ptr 3 0 0 0)), (2, .one (.ptr 2 0 0 0)), (0, .one (.r false (int (n : Int))))] [(3, .var 28 [.r true (int 0), .own 100 0 n 1, Zc, Zc]), (100, .sl 3 1 true (ints (List.replicate n 0))), (2, .var 28 [.r true (int 0), Zc, Zc, Zc])] ∧
      ∀ k, 0 < k → F k = mkS 23 [(4, .one (.r true (int (k : Int)))), (3, .one (.ptr 3 0 0 0)), (2, .one (.ptr 2 0 0 0)), (0, .one (.r false (int (n : Int))))] [(3, .var 28 [.r true (int 0), .own 100 0 n 1, .own 102 0 k 1, Zc]), (100, .sl 3 1 true (ints (List.replicate n 0))), (102, .sl 4 1 true (bools (List.replicate k true))), (2, .var 28 [.r true (int 0), Zc, Zc, Zc])] := by
    refine ⟨fun k => if k = 0 then mkS 23 [(4, .one (.r true (int 0))), (3, .one (.ptr 3 0 0 0)), (2, .one (.ptr 2 0 0 0)), (0, .one (.r false (int (n : Int))))] [(3, .var 28 [.r true (int 0), .own 100 0 n 1, Zc, Zc]), (100, .sl 3 1 true (ints (List.replicate n 0))), (2, .var 28 [.r true (int 0), Zc, Zc, Zc])] else mkS 23 [(4, .one (.r true (int (k : Int)))), (3, .one (.ptr 3 0 0 0)), (2, .one (.ptr 2 0 0 0)), (0, .one (.r false (int (n : Int))))] [(3, .var 28 [.r true (int 0), .own 100 0 n 1, .own 102 0 k 1, Zc]), (100, .sl 3 1 true (ints (List.replicate n 0))), (102, .sl 4 1 true (bools (List.replicate k true))), (2, .var 28 [.r true (int 0), Zc, Zc, Zc])], rfl, fun k hk => if_neg (by omega)⟩
  refine aw_loopI (fun k : Nat => k ≤ n) F (fun k => n - k) 0 (Nat.zero_le _) (by
    rw [hF0]
    (refine weak_ren [(100, 10)] rfl ?_ ?_ <;> repeat' (first|exact trivial|refine subR_cons rfl ?_ ?_|refine subHR_cons rfl ?_ ?_|rfl|(refine d_int ?_;(first|rfl|omega|(rw [IntWalk.i64_in _ (by omega)] <;> omega)|(simp;done)|(simp;omega)))|(refine d_bool ?_;(first|(simp_all;done)|(rw [Bool.eq_iff_iff];simp_all;done)|(rw [Bool.eq_iff_iff];simp_all;omega)|(rw [Bool.eq_iff_iff];simp;omega)))|exact ob_sl rfl (by unfold ints;simp)))) ?_
  intro k hk
  have hli : n = (ints (List.replicate n 0)).length := by rw [ints_len]; simp
  have hw : IntKind.i64.wrap ((k : Int) + 1) = ((k + 1 : Nat) : Int) := by rw [IntWalk.i64_in _ (by omega)]; omega
  by_cases hlt : k < n
  · have hfin : ∀ s' : St, Weak s' (F (k + 1)) → ∃ x' : Nat, x' ≤ n ∧ Weak s' (F x') ∧ n - x' < n - k := fun s' h => ⟨k + 1, by omega, h, by omega⟩
    have happ : bools (List.replicate (k + 1) true) = bools (List.replicate k true) ++ [.one (bool true)] := by rw [List.replicate_succ']; unfold bools; simp
    rw [hF1 _ (by omega), happ] at hfin
    have hgi : k = (bools (List.replicate k true)).length := by rw [bools_len]; simp
    by_cases hk0 : k = 0
    · subst hk0
      rw [hF0]
      clear hF0 hF1 happ
      repeat' (first|(with_reducible first|refine aw_seq ?_|refine thn_normal ?_|refine thn_ret ?_|refine thn_exit ?_|refine blk_normal ?_|refine blk_ret ?_|refine blk_hit ?_|refine blk_miss rfl ?_|refine aw_block ?_|refine aw_ret ?_|refine aw_skip ?_|refine aw_exit ?_|refine w_nil ?_|refine x_nil (by kernel_rfl) ?_)|refine aw_region ?_|refine aw_region_draw (by kernel_rfl) ?_|refine aw_yes rfl ?_|refine aw_no rfl ?_|((with_reducible refine w_seq ?_);first|refine r_q tbOk rfl rfl rfl rfl ?_|refine r_e tbOk rfl rfl rfl rfl rfl ?_|refine r_yes tbOk rfl rfl rfl rfl rfl rfl ?_|refine w_no rfl rfl (lookO_spec rfl) rfl rfl rfl ?_|refine w_un rfl rfl (lookO_spec rfl) rfl rfl ?_)|((with_reducible refine w_drw ?_);first|refine rx_q tbOk rfl rfl rfl rfl ?_|refine rx_e tbOk rfl rfl rfl rfl rfl ?_|refine rx_yes tbOk rfl rfl rfl rfl rfl rfl ?_|refine x_no rfl rfl (lookO_spec rfl) rfl rfl rfl ?_|refine x_un rfl rfl (lookO_spec rfl) rfl rfl ?_)|((first|refine' w_e rfl ?xa ?xb ?xc ?xe ?_|refine' v_e rfl ?xa ?xb ?xc ?xe ?_);(case xa => first|exact at_dst 19 rfl (e_build [.const (.bool true)] tlOk rfl rfl rfl rfl rfl rfl (allN_one rfl) (by simp))|exact at_dst 20 rfl (e_append_nil tlOk rfl rfl rfl rfl rfl (slD_plain (slD_own (lookHO_spec rfl) rfl) (by simp [plain1])) (by simp) (by simp [maxLen]) (by simp)));(case xb => rfl);(case xc => rfl);(case xe => rfl);try dsimp only [P0.d, Res.d, List.map_cons, List.map_nil, List.set_cons_zero, List.set_cons_succ, Nat.reduceAdd])|((first|refine aw_ways rfl ?_ ?_|refine r_split rfl rfl rfl ?_ ?_) <;> intro hg_ <;> fail_if_success (exact Bool.noConfusion hg_)) <;> (try simp only [prn] at hg_) <;> (try first|contradiction|(exfalso;omega)))
      all_goals first
        | (refine hfin _ ?_
           (refine weak_ren [(102, 20)] rfl ?_ ?_ <;> repeat' (first|exact trivial|refine subR_cons rfl ?_ ?_|refine subHR_cons rfl ?_ ?_|rfl|(refine d_int ?_;(first|rfl|omega|(rw [IntWalk.i64_in _ (by omega)] <;> omega)|(simp;done)|(simp;omega)))|(refine d_bool ?_;(first|(simp_all;done)|(rw [Bool.eq_iff_iff];simp_all;done)|(rw [Bool.eq_iff_iff];simp_all;omega)|(rw [Bool.eq_iff_iff];simp;omega)))|exact ob_sl rfl rfl)))
        | (exfalso; omega)
        | trace_state
    · rw [hF1 _ (by omega)]
      clear hF0 hF1 happ
      generalize bools (List.replicate k true) = RR at *
      repeat' (first|(with_reducible first|refine aw_seq ?_|refine thn_normal ?_|refine thn_ret ?_|refine thn_exit ?_|refine blk_normal ?_|refine blk_ret ?_|refine blk_hit ?_|refine blk_miss rfl ?_|refine aw_block ?_|refine aw_ret ?_|refine aw_skip ?_|refine aw_exit ?_|refine w_nil ?_|refine x_nil (by kernel_rfl) ?_)|refine aw_region ?_|refine aw_region_draw (by kernel_rfl) ?_|refine aw_yes rfl ?_|refine aw_no rfl ?_|((with_reducible refine w_seq ?_);first|refine r_q tbOk rfl rfl rfl rfl ?_|refine r_e tbOk rfl rfl rfl rfl rfl ?_|refine r_yes tbOk rfl rfl rfl rfl rfl rfl ?_|refine w_no rfl rfl (lookO_spec rfl) rfl rfl rfl ?_|refine w_un rfl rfl (lookO_spec rfl) rfl rfl ?_)|((with_reducible refine w_drw ?_);first|refine rx_q tbOk rfl rfl rfl rfl ?_|refine rx_e tbOk rfl rfl rfl rfl rfl ?_|refine rx_yes tbOk rfl rfl rfl rfl rfl rfl ?_|refine x_no rfl rfl (lookO_spec rfl) rfl rfl rfl ?_|refine x_un rfl rfl (lookO_spec rfl) rfl rfl ?_)|((first|refine' w_e rfl ?xa ?xb ?xc ?xe ?_|refine' v_e rfl ?xa ?xb ?xc ?xe ?_);(case xa => first|exact at_dst 19 rfl (e_build [.const (.bool true)] tlOk rfl rfl rfl rfl rfl rfl (allN_one rfl) (by simp))|exact at_dst 20 rfl (e_append tlOk rfl rfl rfl rfl rfl rfl (slD_plain (slD_own (lookHO_spec rfl) rfl) (by simp [plain1])) hgi (by simp only [maxLen, List.length_cons, List.length_nil];omega) (by simp only [List.length_cons, List.length_nil];omega)));(case xb => rfl);(case xc => rfl);(case xe => rfl);try dsimp only [P0.d, Res.d, List.map_cons, List.map_nil, List.set_cons_zero, List.set_cons_succ, Nat.reduceAdd])|((first|refine aw_ways rfl ?_ ?_|refine r_split rfl rfl rfl ?_ ?_) <;> intro hg_ <;> fail_if_success (exact Bool.noConfusion hg_)) <;> (try simp only [prn] at hg_) <;> (try first|contradiction|(exfalso;omega)))
      all_goals first
        | (refine hfin _ ?_
           (refine weak_ren [(102, 20)] rfl ?_ ?_ <;> repeat' (first|exact trivial|refine subR_cons rfl ?_ ?_|refine subHR_cons rfl ?_ ?_|rfl|(refine d_int ?_;(first|rfl|omega|(rw [IntWalk.i64_in _ (by omega)] <;> omega)|(simp;done)|(simp;omega)))|(refine d_bool ?_;(first|(simp_all;done)|(rw [Bool.eq_iff_iff];simp_all;done)|(rw [Bool.eq_iff_iff];simp_all;omega)|(rw [Bool.eq_iff_iff];simp;omega)))|exact d_int hw|exact ob_sl rfl rfl|exact var4 rfl rfl (cown (by simp only [List.length_cons, List.length_nil];omega)) rfl)))
        | (exfalso; omega)
        | trace_state
  · obtain rfl : k = n := by omega
    have hgi : k = (bools (List.replicate k true)).length := by rw [bools_len]; simp
    by_cases hk0 : k = 0
    · subst hk0
      rw [hF0]
      clear hF0 hF1
      repeat' (first|(with_reducible first|refine aw_seq ?_|refine thn_normal ?_|refine thn_ret ?_|refine thn_exit ?_|refine blk_normal ?_|refine blk_ret ?_|refine blk_hit ?_|refine blk_miss rfl ?_|refine aw_block ?_|refine aw_ret ?_|refine aw_skip ?_|refine aw_exit ?_|refine w_nil ?_|refine x_nil (by kernel_rfl) ?_)|refine aw_region ?_|refine aw_region_draw (by kernel_rfl) ?_|refine aw_yes rfl ?_|refine aw_no rfl ?_|((with_reducible refine w_seq ?_);first|refine r_q tbOk rfl rfl rfl rfl ?_|refine r_e tbOk rfl rfl rfl rfl rfl ?_|refine r_yes tbOk rfl rfl rfl rfl rfl rfl ?_|refine w_no rfl rfl (lookO_spec rfl) rfl rfl rfl ?_|refine w_un rfl rfl (lookO_spec rfl) rfl rfl ?_)|((with_reducible refine w_drw ?_);first|refine rx_q tbOk rfl rfl rfl rfl ?_|refine rx_e tbOk rfl rfl rfl rfl rfl ?_|refine rx_yes tbOk rfl rfl rfl rfl rfl rfl ?_|refine x_no rfl rfl (lookO_spec rfl) rfl rfl rfl ?_|refine x_un rfl rfl (lookO_spec rfl) rfl rfl ?_)|((first|refine aw_ways rfl ?_ ?_|refine r_split rfl rfl rfl ?_ ?_) <;> intro hg_ <;> fail_if_success (exact Bool.noConfusion hg_)) <;> (try simp only [prn] at hg_) <;> (try first|contradiction|(exfalso;omega)))
      all_goals first
        | exact ret_v (rv_cell rfl rfl (by (with_reducible first|exact ty3|exact ty4|exact ty5|exact ty9|exact ty17|exact ty19|exact ty22|exact ty24|exact ty25|exact ty26|exact ty28|exact ty36|exact ty38|exact ty40|exact ty44|exact ty46|exact ty48|exact ty55|exact ty81|exact ty84|exact ty89|exact ty95|exact ty98|exact ty105|exact ty118|exact ty122|exact ty132|exact ty134|exact ty137|exact ty143|exact ty153|exact ty155|exact ty156|exact ty161)) rfl rfl rfl (dres_agg (by exact ⟨cres_val, cres_own0 (lookHO_spec rfl) rfl, cres_nil, cres_nil, trivial⟩)))
        | (exfalso; omega)
        | trace_state
    · have he : (List.replicate k true).isEmpty = false := by cases k with
        | zero => exact absurd rfl hk0
        | succ k => rfl
      rw [hF1 _ (by omega), he]
      clear hF0 hF1
      repeat' (first|(with_reducible first|refine aw_seq ?_|refine thn_normal ?_|refine thn_ret ?_|refine thn_exit ?_|refine blk_normal ?_|refine blk_ret ?_|refine blk_hit ?_|refine blk_miss rfl ?_|refine aw_block ?_|refine aw_ret ?_|refine aw_skip ?_|refine aw_exit ?_|refine w_nil ?_|refine x_nil (by kernel_rfl) ?_)|refine aw_region ?_|refine aw_region_draw (by kernel_rfl) ?_|refine aw_yes rfl ?_|refine aw_no rfl ?_|((with_reducible refine w_seq ?_);first|refine r_q tbOk rfl rfl rfl rfl ?_|refine r_e tbOk rfl rfl rfl rfl rfl ?_|refine r_yes tbOk rfl rfl rfl rfl rfl rfl ?_|refine w_no rfl rfl (lookO_spec rfl) rfl rfl rfl ?_|refine w_un rfl rfl (lookO_spec rfl) rfl rfl ?_)|((with_reducible refine w_drw ?_);first|refine rx_q tbOk rfl rfl rfl rfl ?_|refine rx_e tbOk rfl rfl rfl rfl rfl ?_|refine rx_yes tbOk rfl rfl rfl rfl rfl rfl ?_|refine x_no rfl rfl (lookO_spec rfl) rfl rfl rfl ?_|refine x_un rfl rfl (lookO_spec rfl) rfl rfl ?_)|((first|refine aw_ways rfl ?_ ?_|refine r_split rfl rfl rfl ?_ ?_) <;> intro hg_ <;> fail_if_success (exact Bool.noConfusion hg_)) <;> (try simp only [prn] at hg_) <;> (try first|contradiction|(exfalso;omega)))
      all_goals first
        | exact ret_v (rv_cell rfl rfl (by (with_reducible first|exact ty3|exact ty4|exact ty5|exact ty9|exact ty17|exact ty19|exact ty22|exact ty24|exact ty25|exact ty26|exact ty28|exact ty36|exact ty38|exact ty40|exact ty44|exact ty46|exact ty48|exact ty55|exact ty81|exact ty84|exact ty89|exact ty95|exact ty98|exact ty105|exact ty118|exact ty122|exact ty132|exact ty134|exact ty137|exact ty143|exact ty153|exact ty155|exact ty156|exact ty161)) rfl rfl rfl (dres_agg (by exact ⟨cres_val, cres_own0 (lookHO_spec rfl) hli, cres_own0 (lookHO_spec rfl) hgi, cres_nil, trivial⟩)))
        | (exfalso; omega)
        | trace_state
theorem zpB : zpOf Try.prog 4 = some (.one (R.val (.bool false))) := by kernel_rfl
theorem e_makeB {l : List (Nat × D)} {H : Nat → Option Ob} {o : Oper} {t c : Nat} {m1 m2 : Bool} {i j : Int} {T : TypeId} {x y : Operand} (ho : o.op = .makeSlice T x y) (hd : o.dst = some t) (he : elL tl.els T = some (4, 1, 1)) (hx : evO l x = some (.one (.r m1 (int i)))) (hy : evO l y = some (.one (.r m2 (int j)))) (hi : i = c) (hj : j = c) (hb : 1 * c ≤ 281474976710656) (h63 : c ≤ maxLen) :
    Eff Try.prog H (evD (look l)) o (.one (.own t 0 c 1)) [] [t] [(t, some (.sl 4 1 true (List.replicate c (.one (R.val (.bool false))))))] :=
  eff_make T x y ho (elL_ok tlOk.el he) zpB (evO_spec hx) (evO_spec hy) hi hj hb h63
theorem mark_next {k n : Nat} (h : k < n) : (bools (List.replicate k true ++ List.replicate (n - k) false)).set k (.one (bool true)) = bools (List.replicate (k + 1) true ++ List.replicate (n - (k + 1)) false) := by
  rw [show n - k = (n - (k + 1)) + 1 by omega, List.replicate_succ, List.replicate_succ' (n := k)]
  unfold bools
  simp [List.set_append]
set_option maxRecDepth 100000 in
set_option maxHeartbeats 4000000 in
theorem f_implStartS (n : Nat) (hn : n ≤ 16) : FnS Try.prog 34 [.one (.r false (int (n : Int)))] [] (.agg [.r true (int 0), .own 2000001 0 n 1, .own 2000002 0 n 1, Zc]) [(2000001, .sl 3 1 true (ints (List.replicate n 0))), (2000002, .sl 4 1 true (bools (List.replicate n true)))] := by
  refine fnS_of (l := [.cell 2 28]) Try.func34 (by kernel_rfl) rfl Try.ntmps34 rfl rfl ?_; simp only [dEnv, Nat.reduceAdd]
  repeat' (first|(with_reducible first|refine aw_seq ?_|refine thn_normal ?_|refine thn_ret ?_|refine thn_exit ?_|refine blk_normal ?_|refine blk_ret ?_|refine blk_hit ?_|refine blk_miss rfl ?_|refine aw_block ?_|refine aw_ret ?_|refine aw_skip ?_|refine aw_exit ?_|refine w_nil ?_|refine x_nil (by kernel_rfl) ?_)|refine aw_region ?_|refine aw_region_draw (by kernel_rfl) ?_|refine aw_yes rfl ?_|refine aw_no rfl ?_|((with_reducible refine w_seq ?_);first|refine r_q tbOk rfl rfl rfl rfl ?_|refine r_e tbOk rfl rfl rfl rfl rfl ?_|refine r_yes tbOk rfl rfl rfl rfl rfl rfl ?_|refine w_no rfl rfl (lookO_spec rfl) rfl rfl rfl ?_|refine w_un rfl rfl (lookO_spec rfl) rfl rfl ?_)|((with_reducible refine w_drw ?_);first|refine rx_q tbOk rfl rfl rfl rfl ?_|refine rx_e tbOk rfl rfl rfl rfl rfl ?_|refine rx_yes tbOk rfl rfl rfl rfl rfl rfl ?_|refine x_no rfl rfl (lookO_spec rfl) rfl rfl rfl ?_|refine x_un rfl rfl (lookO_spec rfl) rfl rfl ?_)|((first|refine' w_e rfl ?xa ?xb ?xc ?xe ?_|refine' v_e rfl ?xa ?xb ?xc ?xe ?_);(case xa => first|exact at_dst 13 rfl (e_make tlOk rfl rfl rfl rfl rfl rfl (c := n) rfl rfl (by omega) (by simp only [maxLen];omega))|exact at_dst 15 rfl (e_makeB (c := n) rfl rfl rfl rfl rfl rfl rfl (by omega) (by simp only [maxLen];omega)));(case xb => rfl);(case xc => rfl);(case xe => rfl);try dsimp only [P0.d, Res.d, List.map_cons, List.map_nil, List.set_cons_zero, List.set_cons_succ, Nat.reduceAdd])|((first|refine aw_ways rfl ?_ ?_|refine r_split rfl rfl rfl ?_ ?_) <;> intro hg_ <;> fail_if_success (exact Bool.noConfusion hg_)) <;> (try simp only [prn] at hg_) <;> (try first|contradiction|(exfalso;omega)))
  obtain ⟨F, hFs⟩ : ∃ F : Nat → St, ∀ k, F k = mkS 29 [(20, .one (.r true (int (k : Int)))), (19, .one (.r true (int (n : Int)))), (3, .one (.ptr 3 0 0 0)), (2, .one (.ptr 2 0 0 0))] [(3, .var 28 [.r true (int 0), .own 101 0 n 1, .own 102 0 n 1, Zc]), (101, .sl 3 1 true (ints (List.replicate n 0))), (102, .sl 4 1 true (bools (List.replicate k true ++ List.replicate (n - k) false))), (2, .var 28 [.r true (int 0), Zc, Zc, Zc])] := ⟨_, fun _ => rfl⟩
  refine aw_loopI (fun k : Nat => k ≤ n) F (fun k => n - k) 0 (Nat.zero_le _) (by
    rw [hFs]
    (refine weak_ren [(101, 13), (102, 15)] rfl ?_ ?_ <;> repeat' (first|exact trivial|refine subR_cons rfl ?_ ?_|refine subHR_cons rfl ?_ ?_|rfl|(refine d_int ?_;(first|rfl|omega|(rw [IntWalk.i64_in _ (by omega)] <;> omega)|(simp;done)|(simp;omega)))|(refine d_bool ?_;(first|(simp_all;done)|(rw [Bool.eq_iff_iff];simp_all;done)|(rw [Bool.eq_iff_iff];simp_all;omega)|(rw [Bool.eq_iff_iff];simp;omega)))|exact ob_sl rfl (by unfold ints;simp)|exact ob_sl rfl (by unfold bools;simp)))) ?_
  intro k hk
  have hli : n = (ints (List.replicate n 0)).length := by rw [ints_len]; simp
  have hw : IntKind.i64.wrap ((k : Int) + 1) = ((k + 1 : Nat) : Int) := by rw [IntWalk.i64_in _ (by omega)]; omega
  by_cases hlt : k < n
  · have hfin : ∀ s' : St, Weak s' (F (k + 1)) → ∃ x' : Nat, x' ≤ n ∧ Weak s' (F x') ∧ n - x' < n - k := fun s' h => ⟨k + 1, by omega, h, by omega⟩
    have hel : (bools (List.replicate k true ++ List.replicate (n - k) false)).length = n := by rw [bools_len]; simp; omega
    rw [hFs, ← mark_next hlt] at hfin
    rw [hFs]
    clear hFs
    generalize bools (List.replicate k true ++ List.replicate (n - k) false) = els at *
    repeat' (first|(with_reducible first|refine aw_seq ?_|refine thn_normal ?_|refine thn_ret ?_|refine thn_exit ?_|refine blk_normal ?_|refine blk_ret ?_|refine blk_hit ?_|refine blk_miss rfl ?_|refine aw_block ?_|refine aw_ret ?_|refine aw_skip ?_|refine aw_exit ?_|refine w_nil ?_|refine x_nil (by kernel_rfl) ?_)|refine aw_region ?_|refine aw_region_draw (by kernel_rfl) ?_|refine aw_yes rfl ?_|refine aw_no rfl ?_|((with_reducible refine w_seq ?_);first|refine r_q tbOk rfl rfl rfl rfl ?_|refine r_e tbOk rfl rfl rfl rfl rfl ?_|refine r_yes tbOk rfl rfl rfl rfl rfl rfl ?_|refine w_no rfl rfl (lookO_spec rfl) rfl rfl rfl ?_|refine w_un rfl rfl (lookO_spec rfl) rfl rfl ?_)|((with_reducible refine w_drw ?_);first|refine rx_q tbOk rfl rfl rfl rfl ?_|refine rx_e tbOk rfl rfl rfl rfl rfl ?_|refine rx_yes tbOk rfl rfl rfl rfl rfl rfl ?_|refine x_no rfl rfl (lookO_spec rfl) rfl rfl rfl ?_|refine x_un rfl rfl (lookO_spec rfl) rfl rfl ?_)|((first|refine' w_q rfl rfl ?xa rfl ?_|refine' v_q rfl rfl ?xa rfl ?_|refine' w_yes rfl rfl (lookO_spec rfl) rfl ?xa rfl ?_|refine' v_yes rfl rfl (lookO_spec rfl) rfl ?xa rfl ?_);case xa => exact k_indexO tbOk rfl rfl rfl rfl (by omega) (by omega))|((first|refine' w_e rfl ?xa ?xb ?xc ?xe ?_|refine' v_e rfl ?xa ?xb ?xc ?xe ?_);(case xa => exact e_storeS tbOk rfl rfl rfl rfl rfl rfl rfl rfl (by omega));(case xb => rfl);(case xc => rfl);(case xe => rfl);try dsimp only [P0.d, Res.d, List.map_cons, List.map_nil, List.set_cons_zero, List.set_cons_succ, Nat.reduceAdd])|((first|refine aw_ways rfl ?_ ?_|refine r_split rfl rfl rfl ?_ ?_) <;> intro hg_ <;> fail_if_success (exact Bool.noConfusion hg_)) <;> (try simp only [prn] at hg_) <;> (try first|contradiction|(exfalso;omega)))
    all_goals first
      | (refine hfin _ ?_
         (refine weak_ren [] rfl ?_ ?_ <;> repeat' (first|exact trivial|refine subR_cons rfl ?_ ?_|refine subHR_cons rfl ?_ ?_|rfl|(refine d_int ?_;(first|rfl|omega|(rw [IntWalk.i64_in _ (by omega)] <;> omega)|(simp;done)|(simp;omega)))|(refine d_bool ?_;(first|(simp_all;done)|(rw [Bool.eq_iff_iff];simp_all;done)|(rw [Bool.eq_iff_iff];simp_all;omega)|(rw [Bool.eq_iff_iff];simp;omega)))|exact d_int hw|exact ob_sl rfl (by rw [Nat.zero_add, Int.toNat_natCast]))))
      | (exfalso; omega)
      | trace_state
  · obtain rfl : k = n := by omega
    rw [hFs, Nat.sub_self, List.replicate_zero, List.append_nil]
    have hgi : k = (bools (List.replicate k true)).length := by rw [bools_len]; simp
    clear hFs
    repeat' (first|(with_reducible first|refine aw_seq ?_|refine thn_normal ?_|refine thn_ret ?_|refine thn_exit ?_|refine blk_normal ?_|refine blk_ret ?_|refine blk_hit ?_|refine blk_miss rfl ?_|refine aw_block ?_|refine aw_ret ?_|refine aw_skip ?_|refine aw_exit ?_|refine w_nil ?_|refine x_nil (by kernel_rfl) ?_)|refine aw_region ?_|refine aw_region_draw (by kernel_rfl) ?_|refine aw_yes rfl ?_|refine aw_no rfl ?_|((with_reducible refine w_seq ?_);first|refine r_q tbOk rfl rfl rfl rfl ?_|refine r_e tbOk rfl rfl rfl rfl rfl ?_|refine r_yes tbOk rfl rfl rfl rfl rfl rfl ?_|refine w_no rfl rfl (lookO_spec rfl) rfl rfl rfl ?_|refine w_un rfl rfl (lookO_spec rfl) rfl rfl ?_)|((with_reducible refine w_drw ?_);first|refine rx_q tbOk rfl rfl rfl rfl ?_|refine rx_e tbOk rfl rfl rfl rfl rfl ?_|refine rx_yes tbOk rfl rfl rfl rfl rfl rfl ?_|refine x_no rfl rfl (lookO_spec rfl) rfl rfl rfl ?_|refine x_un rfl rfl (lookO_spec rfl) rfl rfl ?_)|((first|refine aw_ways rfl ?_ ?_|refine r_split rfl rfl rfl ?_ ?_) <;> intro hg_ <;> fail_if_success (exact Bool.noConfusion hg_)) <;> (try simp only [prn] at hg_) <;> (try first|contradiction|(exfalso;omega)))
    all_goals first
      | exact ret_D [(2000001, 101), (2000002, 102)] rfl (by (repeat' (first|exact trivial|refine subHR_cons rfl ?_ ?_|rfl))) (retD_cell rfl rfl (by (with_reducible first|exact ty3|exact ty4|exact ty5|exact ty9|exact ty17|exact ty19|exact ty22|exact ty24|exact ty25|exact ty26|exact ty28|exact ty36|exact ty38|exact ty40|exact ty44|exact ty46|exact ty48|exact ty55|exact ty81|exact ty84|exact ty89|exact ty95|exact ty98|exact ty105|exact ty118|exact ty122|exact ty132|exact ty134|exact ty137|exact ty143|exact ty153|exact ty155|exact ty156|exact ty161)) rfl rfl rfl (imp_refl rfl))
      | (exfalso; omega)
      | trace_state
end Go.Proofs.Ytmkecjamfippfaa.Abs
