/- Checkpoints by states: the program's readers of values and messages. No statement of the seat is proved here. -/
import Derived.Lib.Hide
import Derived.Test.YtmkecjamfippfaaRxTy
import Derived.Test.YtmkecjamfippfaaRxGCkn
import Derived.Test.YtmkecjamfippfaaRxACkRL
set_option linter.unusedSimpArgs false
set_option linter.unusedVariables false
namespace Go.Proofs.Ytmkecjamfippfaa.Abs
open Go.RowKit
open R (val row ref)
def rdV1 (b : List Int) : Option (Int × Bool) :=
  match nbF 2 2 b with
  | (some [a, g], true) => if g ≤ 1 then some (a - 1, g == 1) else none
  | _ => none
def rdM1 (b : List Int) : Option E3 :=
  match nbF 3 3 b with
  | (some [a, c, d], true) => some (a, c, d)
  | _ => none
def rdAll {α : Type} (f : List Int → Option α) : List (List Int) → Option (List α)
  | [] => some []
  | b :: bs => match f b with
    | some x => match rdAll f bs with
      | some xs => some (x :: xs)
      | none => none
    | none => none
theorem rdV1_form (b : List Int) : (∃ nn ns, nbRes (nbF 2 2 b) = .tup [.one (row nn 1 (ints ns)), .one (bool false)] ∧ rdV1 b = none) ∨ (∃ a g, nbRes (nbF 2 2 b) = .tup [.one (row false 1 (ints [a, g])), .one (bool true)] ∧ 0 ≤ a ∧ a ≤ 1000000 ∧ rdV1 b = if g ≤ 1 then some (a - 1, g == 1) else none) := by
  unfold rdV1
  rcases h : nbF 2 2 b with ⟨o, q⟩
  cases o with
  | none => exact .inl ⟨true, [], rfl, rfl⟩
  | some ns =>
    have hl := nbF_len h
    match ns, hl with
    | [a, g], _ =>
      cases q
      · exact .inl ⟨false, [a, g], rfl, rfl⟩
      · have := (nbF_yes h).2.2 a (by simp)
        exact .inr ⟨a, g, rfl, this.1, this.2, rfl⟩
theorem rdM1_form (b : List Int) : (∃ nn ns, nbRes (nbF 3 3 b) = .tup [.one (row nn 1 (ints ns)), .one (bool false)] ∧ rdM1 b = none) ∨ (∃ a c d, nbRes (nbF 3 3 b) = .tup [.one (row false 1 (ints [a, c, d])), .one (bool true)] ∧ rdM1 b = some (a, c, d)) := by
  unfold rdM1
  rcases h : nbF 3 3 b with ⟨o, q⟩
  cases o with
  | none => exact .inl ⟨true, [], rfl, rfl⟩
  | some ns =>
    have hl := nbF_len h
    match ns, hl with
    | [a, c, d], _ =>
      cases q
      · exact .inl ⟨false, [a, c, d], rfl, rfl⟩
      · exact .inr ⟨a, c, d, rfl, rfl⟩
theorem rdAll_drop {α : Type} {f : List Int → Option α} {bs : List (List Int)} {k : Nat} (h : k < bs.length) : rdAll f (bs.drop k) = match f bs[k] with
    | some x => match rdAll f (bs.drop (k + 1)) with
      | some xs => some (x :: xs)
      | none => none
    | none => none := by
  rw [List.drop_eq_getElem_cons h, rdAll]
def vsOf (l : List (Int × Bool)) : List Int := l.map Prod.fst
def gsOf (l : List (Int × Bool)) : List Bool := l.map Prod.snd
theorem vsOf_len (l : List (Int × Bool)) : (vsOf l).length = l.length := List.length_map ..
theorem gsOf_len (l : List (Int × Bool)) : (gsOf l).length = l.length := List.length_map ..
theorem vsOf_app (l : List (Int × Bool)) (v : Int) (g : Bool) : ints (vsOf (l ++ [(v, g)])) = ints (vsOf l) ++ [.one (int v)] := by unfold vsOf ints; simp
theorem gsOf_app (l : List (Int × Bool)) (v : Int) (g : Bool) : bools (gsOf (l ++ [(v, g)])) = bools (gsOf l) ++ [.one (bool g)] := by unfold gsOf bools; simp
abbrev Zc : Cell := .r true (row true 0 [])
set_option maxRecDepth 100000 in
set_option maxHeartbeats 8000000 in
theorem f_readValuesNo (nil : Bool) (bs : List (List Int)) (r : Int) (hl : bs.length ≤ 2000) (hn : rdAll rdV1 bs = none) :
    FnS Try.prog 89 [.one (.ptr 1000000000 0 0 0), .one (.r false (row nil 1 (rowsI bs)))] [(1000000000, .var 28 [.r true (int r), Zc, Zc, Zc])] (.one (.r true (bool false))) [] := by
  have hlen := rowsI_len bs
  refine fnS_of (l := [.tmp 4]) Try.func89 (by kernel_rfl) rfl Try.ntmps89 rfl rfl ?_; simp only [dEnv, Nat.reduceAdd]
  repeat' (first|(with_reducible first|refine aw_seq ?_|refine thn_normal ?_|refine thn_ret ?_|refine thn_exit ?_|refine blk_normal ?_|refine blk_ret ?_|refine blk_hit ?_|refine blk_miss rfl ?_|refine aw_block ?_|refine aw_ret ?_|refine aw_skip ?_|refine aw_exit ?_|refine w_nil ?_|refine x_nil (by kernel_rfl) ?_)|refine aw_region ?_|refine aw_region_draw (by kernel_rfl) ?_|refine aw_yes rfl ?_|refine aw_no rfl ?_|((with_reducible refine w_seq ?_);first|refine r_q tbOk rfl rfl rfl rfl ?_|refine r_e tbOk rfl rfl rfl rfl rfl ?_|refine r_yes tbOk rfl rfl rfl rfl rfl rfl ?_|refine w_no rfl rfl (lookO_spec rfl) rfl rfl rfl ?_|refine w_un rfl rfl (lookO_spec rfl) rfl rfl ?_)|((with_reducible refine w_drw ?_);first|refine rx_q tbOk rfl rfl rfl rfl ?_|refine rx_e tbOk rfl rfl rfl rfl rfl ?_|refine rx_yes tbOk rfl rfl rfl rfl rfl rfl ?_|refine x_no rfl rfl (lookO_spec rfl) rfl rfl rfl ?_|refine x_un rfl rfl (lookO_spec rfl) rfl rfl ?_)|((first|refine aw_ways rfl ?_ ?_|refine r_split rfl rfl rfl ?_ ?_) <;> intro hg_ <;> fail_if_success (exact Bool.noConfusion hg_)) <;> (try simp only [prn] at hg_) <;> (try first|contradiction|(exfalso;omega)))
  obtain ⟨F, hF0, hF1⟩ : ∃ F : Nat × List (Int × Bool) → St, (∀ k, F (k, []) = mkS 55 [(11, .one (.r true (int (k : Int)))), (10, .one (.r true (int (bs.length : Int)))), (9, .one (.r false (row nil 1 (rowsI bs)))), (0, .one (.ptr 1000000000 0 0 0))] [(1000000000, .var 28 [.r true (int r), Zc, Zc, Zc])]) ∧
      (∀ k l, l ≠ [] → F (k, l) = mkS 55 [(11, .one (.r true (int (k : Int)))), (10, .one (.r true (int (bs.length : Int)))), (9, .one (.r false (row nil 1 (rowsI bs)))), (0, .one (.ptr 1000000000 0 0 0))] [(1000000000, .var 28 [.r true (int r), .own 101 0 (vsOf l).length 1, .own 102 0 (gsOf l).length 1, Zc]), (101, .sl 3 1 true (ints (vsOf l))), (102, .sl 4 1 true (bools (gsOf l)))]) := by
    refine ⟨fun y => if y.2.isEmpty then mkS 55 [(11, .one (.r true (int (y.1 : Int)))), (10, .one (.r true (int (bs.length : Int)))), (9, .one (.r false (row nil 1 (rowsI bs)))), (0, .one (.ptr 1000000000 0 0 0))] [(1000000000, .var 28 [.r true (int r), Zc, Zc, Zc])] else mkS 55 [(11, .one (.r true (int (y.1 : Int)))), (10, .one (.r true (int (bs.length : Int)))), (9, .one (.r false (row nil 1 (rowsI bs)))), (0, .one (.ptr 1000000000 0 0 0))] [(1000000000, .var 28 [.r true (int r), .own 101 0 (vsOf y.2).length 1, .own 102 0 (gsOf y.2).length 1, Zc]), (101, .sl 3 1 true (ints (vsOf y.2))), (102, .sl 4 1 true (bools (gsOf y.2)))], fun k => rfl, fun k l h => ?_⟩
    cases l with
    | nil => exact absurd rfl h
    | cons v l => rfl
  refine aw_loopI (fun y : Nat × List (Int × Bool) => y.1 ≤ bs.length ∧ y.2.length = y.1 ∧ rdAll rdV1 (bs.drop y.1) = none) F (fun y => bs.length - y.1) (0, []) ⟨Nat.zero_le _, rfl, hn⟩ (by
    rw [hF0]
    (refine weak_ren [] rfl ?_ ?_ <;> repeat' (first|exact trivial|refine subR_cons rfl ?_ ?_|refine subHR_cons rfl ?_ ?_|rfl|(refine d_int ?_;(first|rfl|omega|(rw [IntWalk.i64_in _ (by omega)] <;> omega)|(simp;done)|(simp;omega)))|(refine d_bool ?_;(first|(simp_all;done)|(rw [Bool.eq_iff_iff];simp_all;done)|(rw [Bool.eq_iff_iff];simp_all;omega)|(rw [Bool.eq_iff_iff];simp;omega)))|exact d_int (by rw [hlen])))) ?_
  rintro ⟨k, l⟩ ⟨hk, hkl, hE⟩
  dsimp only at hk hkl hE
  by_cases hlt : k < bs.length
  · have hx := rowsI_at hlt
    rw [rdAll_drop hlt] at hE
    have KN := f_numbersBehind false bs[k] 2 2 (by omega)
    have hform := rdV1_form bs[k]
    generalize bs[k] = b at *
    have hwk : IntKind.i64.wrap ((k : Int) + 1) = ((k + 1 : Nat) : Int) := by rw [IntWalk.i64_in _ (by omega)]; omega
    have hvi := (ints_len (vsOf l)).symm
    have hgi := (bools_len (gsOf l)).symm
    have hvl := vsOf_len l
    have hgl := gsOf_len l
    rcases hform with ⟨nn, ns, e1, e2⟩ | ⟨a, g, e1, ha0, ha1, e2⟩
    · rw [e1] at KN
      clear hE e2 e1
      by_cases hll : l = []
      · subst hll
        rw [hF0]
        clear hF0 hF1
        repeat' (first|(with_reducible first|refine aw_seq ?_|refine thn_normal ?_|refine thn_ret ?_|refine thn_exit ?_|refine blk_normal ?_|refine blk_ret ?_|refine blk_hit ?_|refine blk_miss rfl ?_|refine aw_block ?_|refine aw_ret ?_|refine aw_skip ?_|refine aw_exit ?_|refine w_nil ?_|refine x_nil (by kernel_rfl) ?_)|refine aw_region ?_|refine aw_region_draw (by kernel_rfl) ?_|refine aw_yes rfl ?_|refine aw_no rfl ?_|((with_reducible refine w_seq ?_);first|refine r_q tbOk rfl rfl rfl rfl ?_|refine r_e tbOk rfl rfl rfl rfl rfl ?_|refine r_yes tbOk rfl rfl rfl rfl rfl rfl ?_|refine w_no rfl rfl (lookO_spec rfl) rfl rfl rfl ?_|refine w_un rfl rfl (lookO_spec rfl) rfl rfl ?_)|((with_reducible refine w_drw ?_);first|refine rx_q tbOk rfl rfl rfl rfl ?_|refine rx_e tbOk rfl rfl rfl rfl rfl ?_|refine rx_yes tbOk rfl rfl rfl rfl rfl rfl ?_|refine x_no rfl rfl (lookO_spec rfl) rfl rfl rfl ?_|refine x_un rfl rfl (lookO_spec rfl) rfl rfl ?_)|((first|refine' w_q rfl rfl ?xa rfl ?_|refine' v_q rfl rfl ?xa rfl ?_|refine' w_yes rfl rfl (lookO_spec rfl) rfl ?xa rfl ?_|refine' v_yes rfl rfl (lookO_spec rfl) rfl ?xa rfl ?_);case xa => first|exact k_index tbOk rfl rfl rfl rfl (by omega) hx|exact k_call KN rfl ⟨asA_r (evO_spec rfl), asA_r (evO_spec rfl), asA_r (evO_spec rfl), trivial⟩)|((first|refine aw_ways rfl ?_ ?_|refine r_split rfl rfl rfl ?_ ?_) <;> intro hg_ <;> fail_if_success (exact Bool.noConfusion hg_)) <;> (try simp only [prn] at hg_) <;> (try first|contradiction|(exfalso;omega)))
        all_goals first
          | exact ret_D [] rfl (by (repeat' (first|exact trivial|refine subHR_cons rfl ?_ ?_|rfl))) (retD_bool rfl rfl rfl)
          | (exfalso; omega)
          | trace_state
      · rw [hF1 _ _ hll]
        clear hF0 hF1
        repeat' (first|(with_reducible first|refine aw_seq ?_|refine thn_normal ?_|refine thn_ret ?_|refine thn_exit ?_|refine blk_normal ?_|refine blk_ret ?_|refine blk_hit ?_|refine blk_miss rfl ?_|refine aw_block ?_|refine aw_ret ?_|refine aw_skip ?_|refine aw_exit ?_|refine w_nil ?_|refine x_nil (by kernel_rfl) ?_)|refine aw_region ?_|refine aw_region_draw (by kernel_rfl) ?_|refine aw_yes rfl ?_|refine aw_no rfl ?_|((with_reducible refine w_seq ?_);first|refine r_q tbOk rfl rfl rfl rfl ?_|refine r_e tbOk rfl rfl rfl rfl rfl ?_|refine r_yes tbOk rfl rfl rfl rfl rfl rfl ?_|refine w_no rfl rfl (lookO_spec rfl) rfl rfl rfl ?_|refine w_un rfl rfl (lookO_spec rfl) rfl rfl ?_)|((with_reducible refine w_drw ?_);first|refine rx_q tbOk rfl rfl rfl rfl ?_|refine rx_e tbOk rfl rfl rfl rfl rfl ?_|refine rx_yes tbOk rfl rfl rfl rfl rfl rfl ?_|refine x_no rfl rfl (lookO_spec rfl) rfl rfl rfl ?_|refine x_un rfl rfl (lookO_spec rfl) rfl rfl ?_)|((first|refine' w_q rfl rfl ?xa rfl ?_|refine' v_q rfl rfl ?xa rfl ?_|refine' w_yes rfl rfl (lookO_spec rfl) rfl ?xa rfl ?_|refine' v_yes rfl rfl (lookO_spec rfl) rfl ?xa rfl ?_);case xa => first|exact k_index tbOk rfl rfl rfl rfl (by omega) hx|exact k_call KN rfl ⟨asA_r (evO_spec rfl), asA_r (evO_spec rfl), asA_r (evO_spec rfl), trivial⟩)|((first|refine aw_ways rfl ?_ ?_|refine r_split rfl rfl rfl ?_ ?_) <;> intro hg_ <;> fail_if_success (exact Bool.noConfusion hg_)) <;> (try simp only [prn] at hg_) <;> (try first|contradiction|(exfalso;omega)))
        all_goals first
          | exact ret_D [] rfl (by (repeat' (first|exact trivial|refine subHR_cons rfl ?_ ?_|rfl))) (retD_bool rfl rfl rfl)
          | (exfalso; omega)
          | trace_state
    · rw [e1] at KN
      rw [e2] at hE
      have hx0 : (ints [a, g])[(0 : Int).toNat]? = some (iP a) := rfl
      have hx1 : (ints [a, g])[(1 : Int).toNat]? = some (iP g) := rfl
      by_cases hg : g ≤ 1
      · rw [if_pos hg] at hE
        have hE2 : rdAll rdV1 (bs.drop (k + 1)) = none := by
          cases h : rdAll rdV1 (bs.drop (k + 1)) with
          | none => rfl
          | some xs => rw [h] at hE; cases hE
        have hwa : IntKind.i64.wrap (a - 1) = a - 1 := IntWalk.i64_in _ (by omega)
        have hfin : ∀ s' : St, Weak s' (F (k + 1, l ++ [(a - 1, g == 1)])) → ∃ y' : Nat × List (Int × Bool), (y'.1 ≤ bs.length ∧ y'.2.length = y'.1 ∧ rdAll rdV1 (bs.drop y'.1) = none) ∧ Weak s' (F y') ∧ bs.length - y'.1 < bs.length - k := fun s' h => ⟨(k + 1, l ++ [(a - 1, g == 1)]), ⟨by dsimp only; omega, by simp; omega, hE2⟩, h, by dsimp only; omega⟩
        rw [hF1 _ _ (by simp), vsOf_app, gsOf_app, ← hwa] at hfin
        clear hE hE2 e1 e2 hwa
        by_cases hll : l = []
        · subst hll
          rw [hF0]
          clear hF0 hF1
          repeat' (first|(with_reducible first|refine aw_seq ?_|refine thn_normal ?_|refine thn_ret ?_|refine thn_exit ?_|refine blk_normal ?_|refine blk_ret ?_|refine blk_hit ?_|refine blk_miss rfl ?_|refine aw_block ?_|refine aw_ret ?_|refine aw_skip ?_|refine aw_exit ?_|refine w_nil ?_|refine x_nil (by kernel_rfl) ?_)|refine aw_region ?_|refine aw_region_draw (by kernel_rfl) ?_|refine aw_yes rfl ?_|refine aw_no rfl ?_|((with_reducible refine w_seq ?_);first|refine r_q tbOk rfl rfl rfl rfl ?_|refine r_e tbOk rfl rfl rfl rfl rfl ?_|refine r_yes tbOk rfl rfl rfl rfl rfl rfl ?_|refine w_no rfl rfl (lookO_spec rfl) rfl rfl rfl ?_|refine w_un rfl rfl (lookO_spec rfl) rfl rfl ?_)|((with_reducible refine w_drw ?_);first|refine rx_q tbOk rfl rfl rfl rfl ?_|refine rx_e tbOk rfl rfl rfl rfl rfl ?_|refine rx_yes tbOk rfl rfl rfl rfl rfl rfl ?_|refine x_no rfl rfl (lookO_spec rfl) rfl rfl rfl ?_|refine x_un rfl rfl (lookO_spec rfl) rfl rfl ?_)|((first|refine' w_q rfl rfl ?xa rfl ?_|refine' v_q rfl rfl ?xa rfl ?_|refine' w_yes rfl rfl (lookO_spec rfl) rfl ?xa rfl ?_|refine' v_yes rfl rfl (lookO_spec rfl) rfl ?xa rfl ?_);case xa => first|exact k_index tbOk rfl rfl rfl rfl (by omega) (by first|exact hx|exact hx0|exact hx1)|exact k_call KN rfl ⟨asA_r (evO_spec rfl), asA_r (evO_spec rfl), asA_r (evO_spec rfl), trivial⟩)|((first|refine' w_e rfl ?xa ?xb ?xc ?xe ?_|refine' v_e rfl ?xa ?xb ?xc ?xe ?_);(case xa => first|exact e_build [.tmp 36] tlOk rfl rfl rfl rfl rfl rfl (allN_one rfl) (by simp)|exact e_build [.tmp 49] tlOk rfl rfl rfl rfl rfl rfl (allN_one rfl) (by simp)|exact at_dst 38 rfl (e_append_nil tlOk rfl rfl rfl rfl rfl (slD_plain (slD_own (lookHO_spec rfl) rfl) (by simp [plain1])) (by simp) (by simp [maxLen]) (by simp))|exact at_dst 51 rfl (e_append_nil tlOk rfl rfl rfl rfl rfl (slD_plain (slD_own (lookHO_spec rfl) rfl) (by simp [plain1])) (by simp) (by simp [maxLen]) (by simp)));(case xb => rfl);(case xc => rfl);(case xe => rfl);try dsimp only [P0.d, Res.d, List.map_cons, List.map_nil, List.set_cons_zero, List.set_cons_succ, Nat.reduceAdd])|((first|refine aw_ways rfl ?_ ?_|refine r_split rfl rfl rfl ?_ ?_) <;> intro hg_ <;> fail_if_success (exact Bool.noConfusion hg_)) <;> (try simp only [prn] at hg_) <;> (try first|contradiction|(exfalso;omega)))
          all_goals first
            | (refine hfin _ ?_
               (refine weak_ren [(101, 38), (102, 51)] rfl ?_ ?_ <;> repeat' (first|exact trivial|refine subR_cons rfl ?_ ?_|refine subHR_cons rfl ?_ ?_|rfl|(refine d_int ?_;(first|rfl|omega|(rw [IntWalk.i64_in _ (by omega)] <;> omega)|(simp;done)|(simp;omega)))|(refine d_bool ?_;(first|(simp_all;done)|(rw [Bool.eq_iff_iff];simp_all;done)|(rw [Bool.eq_iff_iff];simp_all;omega)|(rw [Bool.eq_iff_iff];simp;omega)))|exact d_int hwk|exact ob_sl rfl rfl|exact var4 rfl (cown (by simp [vsOf])) (cown (by simp [gsOf])) rfl)))
            | (exfalso; omega)
            | trace_state
        · rw [hF1 _ _ hll]
          clear hF0 hF1
          repeat' (first|(with_reducible first|refine aw_seq ?_|refine thn_normal ?_|refine thn_ret ?_|refine thn_exit ?_|refine blk_normal ?_|refine blk_ret ?_|refine blk_hit ?_|refine blk_miss rfl ?_|refine aw_block ?_|refine aw_ret ?_|refine aw_skip ?_|refine aw_exit ?_|refine w_nil ?_|refine x_nil (by kernel_rfl) ?_)|refine aw_region ?_|refine aw_region_draw (by kernel_rfl) ?_|refine aw_yes rfl ?_|refine aw_no rfl ?_|((with_reducible refine w_seq ?_);first|refine r_q tbOk rfl rfl rfl rfl ?_|refine r_e tbOk rfl rfl rfl rfl rfl ?_|refine r_yes tbOk rfl rfl rfl rfl rfl rfl ?_|refine w_no rfl rfl (lookO_spec rfl) rfl rfl rfl ?_|refine w_un rfl rfl (lookO_spec rfl) rfl rfl ?_)|((with_reducible refine w_drw ?_);first|refine rx_q tbOk rfl rfl rfl rfl ?_|refine rx_e tbOk rfl rfl rfl rfl rfl ?_|refine rx_yes tbOk rfl rfl rfl rfl rfl rfl ?_|refine x_no rfl rfl (lookO_spec rfl) rfl rfl rfl ?_|refine x_un rfl rfl (lookO_spec rfl) rfl rfl ?_)|((first|refine' w_q rfl rfl ?xa rfl ?_|refine' v_q rfl rfl ?xa rfl ?_|refine' w_yes rfl rfl (lookO_spec rfl) rfl ?xa rfl ?_|refine' v_yes rfl rfl (lookO_spec rfl) rfl ?xa rfl ?_);case xa => first|exact k_index tbOk rfl rfl rfl rfl (by omega) (by first|exact hx|exact hx0|exact hx1)|exact k_call KN rfl ⟨asA_r (evO_spec rfl), asA_r (evO_spec rfl), asA_r (evO_spec rfl), trivial⟩)|((first|refine' w_e rfl ?xa ?xb ?xc ?xe ?_|refine' v_e rfl ?xa ?xb ?xc ?xe ?_);(case xa => first|exact e_build [.tmp 36] tlOk rfl rfl rfl rfl rfl rfl (allN_one rfl) (by simp)|exact e_build [.tmp 49] tlOk rfl rfl rfl rfl rfl rfl (allN_one rfl) (by simp)|exact at_dst 38 rfl (e_append tlOk rfl rfl rfl rfl rfl rfl (slD_plain (slD_own (lookHO_spec rfl) rfl) (by simp [plain1])) hvi (by simp only [maxLen, List.length_cons, List.length_nil];omega) (by simp only [List.length_cons, List.length_nil];omega))|exact at_dst 51 rfl (e_append tlOk rfl rfl rfl rfl rfl rfl (slD_plain (slD_own (lookHO_spec rfl) rfl) (by simp [plain1])) hgi (by simp only [maxLen, List.length_cons, List.length_nil];omega) (by simp only [List.length_cons, List.length_nil];omega)));(case xb => rfl);(case xc => rfl);(case xe => rfl);try dsimp only [P0.d, Res.d, List.map_cons, List.map_nil, List.set_cons_zero, List.set_cons_succ, Nat.reduceAdd])|((first|refine aw_ways rfl ?_ ?_|refine r_split rfl rfl rfl ?_ ?_) <;> intro hg_ <;> fail_if_success (exact Bool.noConfusion hg_)) <;> (try simp only [prn] at hg_) <;> (try first|contradiction|(exfalso;omega)))
          all_goals first
            | (refine hfin _ ?_
               (refine weak_ren [(101, 38), (102, 51)] rfl ?_ ?_ <;> repeat' (first|exact trivial|refine subR_cons rfl ?_ ?_|refine subHR_cons rfl ?_ ?_|rfl|(refine d_int ?_;(first|rfl|omega|(rw [IntWalk.i64_in _ (by omega)] <;> omega)|(simp;done)|(simp;omega)))|(refine d_bool ?_;(first|(simp_all;done)|(rw [Bool.eq_iff_iff];simp_all;done)|(rw [Bool.eq_iff_iff];simp_all;omega)|(rw [Bool.eq_iff_iff];simp;omega)))|exact d_int hwk|exact ob_sl rfl rfl|exact var4 rfl (cown (by simp only [vsOf, List.map_append, List.length_append, List.length_map, List.map_cons, List.map_nil, List.length_cons, List.length_nil, ints_len])) (cown (by simp only [gsOf, List.map_append, List.length_append, List.length_map, List.map_cons, List.map_nil, List.length_cons, List.length_nil, bools_len])) rfl)))
            | (exfalso; omega)
            | trace_state
      · clear hE e1 e2
        by_cases hll : l = []
        · subst hll
          rw [hF0]
          clear hF0 hF1
          repeat' (first|(with_reducible first|refine aw_seq ?_|refine thn_normal ?_|refine thn_ret ?_|refine thn_exit ?_|refine blk_normal ?_|refine blk_ret ?_|refine blk_hit ?_|refine blk_miss rfl ?_|refine aw_block ?_|refine aw_ret ?_|refine aw_skip ?_|refine aw_exit ?_|refine w_nil ?_|refine x_nil (by kernel_rfl) ?_)|refine aw_region ?_|refine aw_region_draw (by kernel_rfl) ?_|refine aw_yes rfl ?_|refine aw_no rfl ?_|((with_reducible refine w_seq ?_);first|refine r_q tbOk rfl rfl rfl rfl ?_|refine r_e tbOk rfl rfl rfl rfl rfl ?_|refine r_yes tbOk rfl rfl rfl rfl rfl rfl ?_|refine w_no rfl rfl (lookO_spec rfl) rfl rfl rfl ?_|refine w_un rfl rfl (lookO_spec rfl) rfl rfl ?_)|((with_reducible refine w_drw ?_);first|refine rx_q tbOk rfl rfl rfl rfl ?_|refine rx_e tbOk rfl rfl rfl rfl rfl ?_|refine rx_yes tbOk rfl rfl rfl rfl rfl rfl ?_|refine x_no rfl rfl (lookO_spec rfl) rfl rfl rfl ?_|refine x_un rfl rfl (lookO_spec rfl) rfl rfl ?_)|((first|refine' w_q rfl rfl ?xa rfl ?_|refine' v_q rfl rfl ?xa rfl ?_|refine' w_yes rfl rfl (lookO_spec rfl) rfl ?xa rfl ?_|refine' v_yes rfl rfl (lookO_spec rfl) rfl ?xa rfl ?_);case xa => first|exact k_index tbOk rfl rfl rfl rfl (by omega) (by first|exact hx|exact hx0|exact hx1)|exact k_call KN rfl ⟨asA_r (evO_spec rfl), asA_r (evO_spec rfl), asA_r (evO_spec rfl), trivial⟩)|((first|refine aw_ways rfl ?_ ?_|refine r_split rfl rfl rfl ?_ ?_) <;> intro hg_ <;> fail_if_success (exact Bool.noConfusion hg_)) <;> (try simp only [prn] at hg_) <;> (try first|contradiction|(exfalso;omega)))
          all_goals first
            | exact ret_D [] rfl (by (repeat' (first|exact trivial|refine subHR_cons rfl ?_ ?_|rfl))) (retD_bool rfl rfl rfl)
            | (exfalso; omega)
            | trace_state
        · rw [hF1 _ _ hll]
          clear hF0 hF1
          repeat' (first|(with_reducible first|refine aw_seq ?_|refine thn_normal ?_|refine thn_ret ?_|refine thn_exit ?_|refine blk_normal ?_|refine blk_ret ?_|refine blk_hit ?_|refine blk_miss rfl ?_|refine aw_block ?_|refine aw_ret ?_|refine aw_skip ?_|refine aw_exit ?_|refine w_nil ?_|refine x_nil (by kernel_rfl) ?_)|refine aw_region ?_|refine aw_region_draw (by kernel_rfl) ?_|refine aw_yes rfl ?_|refine aw_no rfl ?_|((with_reducible refine w_seq ?_);first|refine r_q tbOk rfl rfl rfl rfl ?_|refine r_e tbOk rfl rfl rfl rfl rfl ?_|refine r_yes tbOk rfl rfl rfl rfl rfl rfl ?_|refine w_no rfl rfl (lookO_spec rfl) rfl rfl rfl ?_|refine w_un rfl rfl (lookO_spec rfl) rfl rfl ?_)|((with_reducible refine w_drw ?_);first|refine rx_q tbOk rfl rfl rfl rfl ?_|refine rx_e tbOk rfl rfl rfl rfl rfl ?_|refine rx_yes tbOk rfl rfl rfl rfl rfl rfl ?_|refine x_no rfl rfl (lookO_spec rfl) rfl rfl rfl ?_|refine x_un rfl rfl (lookO_spec rfl) rfl rfl ?_)|((first|refine' w_q rfl rfl ?xa rfl ?_|refine' v_q rfl rfl ?xa rfl ?_|refine' w_yes rfl rfl (lookO_spec rfl) rfl ?xa rfl ?_|refine' v_yes rfl rfl (lookO_spec rfl) rfl ?xa rfl ?_);case xa => first|exact k_index tbOk rfl rfl rfl rfl (by omega) (by first|exact hx|exact hx0|exact hx1)|exact k_call KN rfl ⟨asA_r (evO_spec rfl), asA_r (evO_spec rfl), asA_r (evO_spec rfl), trivial⟩)|((first|refine aw_ways rfl ?_ ?_|refine r_split rfl rfl rfl ?_ ?_) <;> intro hg_ <;> fail_if_success (exact Bool.noConfusion hg_)) <;> (try simp only [prn] at hg_) <;> (try first|contradiction|(exfalso;omega)))
          all_goals first
            | exact ret_D [] rfl (by (repeat' (first|exact trivial|refine subHR_cons rfl ?_ ?_|rfl))) (retD_bool rfl rfl rfl)
            | (exfalso; omega)
            | trace_state
  · exfalso
    rw [List.drop_of_length_le (by omega)] at hE
    cases hE
set_option maxRecDepth 100000 in
set_option maxHeartbeats 8000000 in
theorem f_readValuesYes (nil : Bool) (bs : List (List Int)) (r : Int) (hl : bs.length ≤ 2000) (L : List (Int × Bool)) (hn : rdAll rdV1 bs = some L) (hLn : L ≠ []) :
    FnS Try.prog 89 [.one (.ptr 1000000000 0 0 0), .one (.r false (row nil 1 (rowsI bs)))] [(1000000000, .var 28 [.r true (int r), Zc, Zc, Zc])] (.one (.r true (bool true))) [(1000000000, .var 28 [.r true (int r), .own 2000001 0 L.length 1, .own 2000002 0 L.length 1, Zc]), (2000001, .sl 3 1 true (ints (vsOf L))), (2000002, .sl 4 1 true (bools (gsOf L)))] := by
  have hlen := rowsI_len bs
  refine fnS_of (l := [.tmp 4]) Try.func89 (by kernel_rfl) rfl Try.ntmps89 rfl rfl ?_; simp only [dEnv, Nat.reduceAdd]
  repeat' (first|(with_reducible first|refine aw_seq ?_|refine thn_normal ?_|refine thn_ret ?_|refine thn_exit ?_|refine blk_normal ?_|refine blk_ret ?_|refine blk_hit ?_|refine blk_miss rfl ?_|refine aw_block ?_|refine aw_ret ?_|refine aw_skip ?_|refine aw_exit ?_|refine w_nil ?_|refine x_nil (by kernel_rfl) ?_)|refine aw_region ?_|refine aw_region_draw (by kernel_rfl) ?_|refine aw_yes rfl ?_|refine aw_no rfl ?_|((with_reducible refine w_seq ?_);first|refine r_q tbOk rfl rfl rfl rfl ?_|refine r_e tbOk rfl rfl rfl rfl rfl ?_|refine r_yes tbOk rfl rfl rfl rfl rfl rfl ?_|refine w_no rfl rfl (lookO_spec rfl) rfl rfl rfl ?_|refine w_un rfl rfl (lookO_spec rfl) rfl rfl ?_)|((with_reducible refine w_drw ?_);first|refine rx_q tbOk rfl rfl rfl rfl ?_|refine rx_e tbOk rfl rfl rfl rfl rfl ?_|refine rx_yes tbOk rfl rfl rfl rfl rfl rfl ?_|refine x_no rfl rfl (lookO_spec rfl) rfl rfl rfl ?_|refine x_un rfl rfl (lookO_spec rfl) rfl rfl ?_)|((first|refine aw_ways rfl ?_ ?_|refine r_split rfl rfl rfl ?_ ?_) <;> intro hg_ <;> fail_if_success (exact Bool.noConfusion hg_)) <;> (try simp only [prn] at hg_) <;> (try first|contradiction|(exfalso;omega)))
  obtain ⟨F, hF0, hF1⟩ : ∃ F : Nat × List (Int × Bool) → St, (∀ k, F (k, []) = mkS 55 [(11, .one (.r true (int (k : Int)))), (10, .one (.r true (int (bs.length : Int)))), (9, .one (.r false (row nil 1 (rowsI bs)))), (0, .one (.ptr 1000000000 0 0 0))] [(1000000000, .var 28 [.r true (int r), Zc, Zc, Zc])]) ∧
      (∀ k l, l ≠ [] → F (k, l) = mkS 55 [(11, .one (.r true (int (k : Int)))), (10, .one (.r true (int (bs.length : Int)))), (9, .one (.r false (row nil 1 (rowsI bs)))), (0, .one (.ptr 1000000000 0 0 0))] [(1000000000, .var 28 [.r true (int r), .own 101 0 (vsOf l).length 1, .own 102 0 (gsOf l).length 1, Zc]), (101, .sl 3 1 true (ints (vsOf l))), (102, .sl 4 1 true (bools (gsOf l)))]) := by
    refine ⟨fun y => if y.2.isEmpty then mkS 55 [(11, .one (.r true (int (y.1 : Int)))), (10, .one (.r true (int (bs.length : Int)))), (9, .one (.r false (row nil 1 (rowsI bs)))), (0, .one (.ptr 1000000000 0 0 0))] [(1000000000, .var 28 [.r true (int r), Zc, Zc, Zc])] else mkS 55 [(11, .one (.r true (int (y.1 : Int)))), (10, .one (.r true (int (bs.length : Int)))), (9, .one (.r false (row nil 1 (rowsI bs)))), (0, .one (.ptr 1000000000 0 0 0))] [(1000000000, .var 28 [.r true (int r), .own 101 0 (vsOf y.2).length 1, .own 102 0 (gsOf y.2).length 1, Zc]), (101, .sl 3 1 true (ints (vsOf y.2))), (102, .sl 4 1 true (bools (gsOf y.2)))], fun k => rfl, fun k l h => ?_⟩
    cases l with
    | nil => exact absurd rfl h
    | cons v l => rfl
  refine aw_loopI (fun y : Nat × List (Int × Bool) => y.1 ≤ bs.length ∧ y.2.length = y.1 ∧ ∃ xs, rdAll rdV1 (bs.drop y.1) = some xs ∧ y.2 ++ xs = L) F (fun y => bs.length - y.1) (0, []) ⟨Nat.zero_le _, rfl, L, hn, rfl⟩ (by
    rw [hF0]
    (refine weak_ren [] rfl ?_ ?_ <;> repeat' (first|exact trivial|refine subR_cons rfl ?_ ?_|refine subHR_cons rfl ?_ ?_|rfl|(refine d_int ?_;(first|rfl|omega|(rw [IntWalk.i64_in _ (by omega)] <;> omega)|(simp;done)|(simp;omega)))|(refine d_bool ?_;(first|(simp_all;done)|(rw [Bool.eq_iff_iff];simp_all;done)|(rw [Bool.eq_iff_iff];simp_all;omega)|(rw [Bool.eq_iff_iff];simp;omega)))|exact d_int (by rw [hlen])))) ?_
  rintro ⟨k, l⟩ ⟨hk, hkl, xs, hE, hxs⟩
  dsimp only at hk hkl hE hxs
  by_cases hlt : k < bs.length
  · have hx := rowsI_at hlt
    rw [rdAll_drop hlt] at hE
    have KN := f_numbersBehind false bs[k] 2 2 (by omega)
    have hform := rdV1_form bs[k]
    generalize bs[k] = b at *
    have hwk : IntKind.i64.wrap ((k : Int) + 1) = ((k + 1 : Nat) : Int) := by rw [IntWalk.i64_in _ (by omega)]; omega
    have hvi := (ints_len (vsOf l)).symm
    have hgi := (bools_len (gsOf l)).symm
    have hvl := vsOf_len l
    have hgl := gsOf_len l
    rcases hform with ⟨nn, ns, e1, e2⟩ | ⟨a, g, e1, ha0, ha1, e2⟩
    · rw [e2] at hE
      cases hE
    · rw [e1] at KN
      rw [e2] at hE
      have hx0 : (ints [a, g])[(0 : Int).toNat]? = some (iP a) := rfl
      have hx1 : (ints [a, g])[(1 : Int).toNat]? = some (iP g) := rfl
      by_cases hg : g ≤ 1
      · rw [if_pos hg] at hE
        have hE2 : ∃ ys, rdAll rdV1 (bs.drop (k + 1)) = some ys ∧ (l ++ [(a - 1, g == 1)]) ++ ys = L := by
          cases h : rdAll rdV1 (bs.drop (k + 1)) with
          | none => rw [h] at hE; cases hE
          | some ys =>
            rw [h] at hE
            injection hE with hE
            exact ⟨ys, rfl, by rw [← hxs, ← hE]; simp⟩
        have hwa : IntKind.i64.wrap (a - 1) = a - 1 := IntWalk.i64_in _ (by omega)
        have hfin : ∀ s' : St, Weak s' (F (k + 1, l ++ [(a - 1, g == 1)])) → ∃ y' : Nat × List (Int × Bool), (y'.1 ≤ bs.length ∧ y'.2.length = y'.1 ∧ ∃ xs, rdAll rdV1 (bs.drop y'.1) = some xs ∧ y'.2 ++ xs = L) ∧ Weak s' (F y') ∧ bs.length - y'.1 < bs.length - k := fun s' h => ⟨(k + 1, l ++ [(a - 1, g == 1)]), ⟨by dsimp only; omega, by simp; omega, hE2⟩, h, by dsimp only; omega⟩
        rw [hF1 _ _ (by simp), vsOf_app, gsOf_app, ← hwa] at hfin
        clear hE hE2 e1 e2 hwa
        by_cases hll : l = []
        · subst hll
          rw [hF0]
          clear hF0 hF1
          repeat' (first|(with_reducible first|refine aw_seq ?_|refine thn_normal ?_|refine thn_ret ?_|refine thn_exit ?_|refine blk_normal ?_|refine blk_ret ?_|refine blk_hit ?_|refine blk_miss rfl ?_|refine aw_block ?_|refine aw_ret ?_|refine aw_skip ?_|refine aw_exit ?_|refine w_nil ?_|refine x_nil (by kernel_rfl) ?_)|refine aw_region ?_|refine aw_region_draw (by kernel_rfl) ?_|refine aw_yes rfl ?_|refine aw_no rfl ?_|((with_reducible refine w_seq ?_);first|refine r_q tbOk rfl rfl rfl rfl ?_|refine r_e tbOk rfl rfl rfl rfl rfl ?_|refine r_yes tbOk rfl rfl rfl rfl rfl rfl ?_|refine w_no rfl rfl (lookO_spec rfl) rfl rfl rfl ?_|refine w_un rfl rfl (lookO_spec rfl) rfl rfl ?_)|((with_reducible refine w_drw ?_);first|refine rx_q tbOk rfl rfl rfl rfl ?_|refine rx_e tbOk rfl rfl rfl rfl rfl ?_|refine rx_yes tbOk rfl rfl rfl rfl rfl rfl ?_|refine x_no rfl rfl (lookO_spec rfl) rfl rfl rfl ?_|refine x_un rfl rfl (lookO_spec rfl) rfl rfl ?_)|((first|refine' w_q rfl rfl ?xa rfl ?_|refine' v_q rfl rfl ?xa rfl ?_|refine' w_yes rfl rfl (lookO_spec rfl) rfl ?xa rfl ?_|refine' v_yes rfl rfl (lookO_spec rfl) rfl ?xa rfl ?_);case xa => first|exact k_index tbOk rfl rfl rfl rfl (by omega) (by first|exact hx|exact hx0|exact hx1)|exact k_call KN rfl ⟨asA_r (evO_spec rfl), asA_r (evO_spec rfl), asA_r (evO_spec rfl), trivial⟩)|((first|refine' w_e rfl ?xa ?xb ?xc ?xe ?_|refine' v_e rfl ?xa ?xb ?xc ?xe ?_);(case xa => first|exact e_build [.tmp 36] tlOk rfl rfl rfl rfl rfl rfl (allN_one rfl) (by simp)|exact e_build [.tmp 49] tlOk rfl rfl rfl rfl rfl rfl (allN_one rfl) (by simp)|exact at_dst 38 rfl (e_append_nil tlOk rfl rfl rfl rfl rfl (slD_plain (slD_own (lookHO_spec rfl) rfl) (by simp [plain1])) (by simp) (by simp [maxLen]) (by simp))|exact at_dst 51 rfl (e_append_nil tlOk rfl rfl rfl rfl rfl (slD_plain (slD_own (lookHO_spec rfl) rfl) (by simp [plain1])) (by simp) (by simp [maxLen]) (by simp)));(case xb => rfl);(case xc => rfl);(case xe => rfl);try dsimp only [P0.d, Res.d, List.map_cons, List.map_nil, List.set_cons_zero, List.set_cons_succ, Nat.reduceAdd])|((first|refine aw_ways rfl ?_ ?_|refine r_split rfl rfl rfl ?_ ?_) <;> intro hg_ <;> fail_if_success (exact Bool.noConfusion hg_)) <;> (try simp only [prn] at hg_) <;> (try first|contradiction|(exfalso;omega)))
          all_goals first
            | (refine hfin _ ?_
               (refine weak_ren [(101, 38), (102, 51)] rfl ?_ ?_ <;> repeat' (first|exact trivial|refine subR_cons rfl ?_ ?_|refine subHR_cons rfl ?_ ?_|rfl|(refine d_int ?_;(first|rfl|omega|(rw [IntWalk.i64_in _ (by omega)] <;> omega)|(simp;done)|(simp;omega)))|(refine d_bool ?_;(first|(simp_all;done)|(rw [Bool.eq_iff_iff];simp_all;done)|(rw [Bool.eq_iff_iff];simp_all;omega)|(rw [Bool.eq_iff_iff];simp;omega)))|exact d_int hwk|exact ob_sl rfl rfl|exact var4 rfl (cown (by simp [vsOf])) (cown (by simp [gsOf])) rfl)))
            | (exfalso; omega)
            | trace_state
        · rw [hF1 _ _ hll]
          clear hF0 hF1
          repeat' (first|(with_reducible first|refine aw_seq ?_|refine thn_normal ?_|refine thn_ret ?_|refine thn_exit ?_|refine blk_normal ?_|refine blk_ret ?_|refine blk_hit ?_|refine blk_miss rfl ?_|refine aw_block ?_|refine aw_ret ?_|refine aw_skip ?_|refine aw_exit ?_|refine w_nil ?_|refine x_nil (by kernel_rfl) ?_)|refine aw_region ?_|refine aw_region_draw (by kernel_rfl) ?_|refine aw_yes rfl ?_|refine aw_no rfl ?_|((with_reducible refine w_seq ?_);first|refine r_q tbOk rfl rfl rfl rfl ?_|refine r_e tbOk rfl rfl rfl rfl rfl ?_|refine r_yes tbOk rfl rfl rfl rfl rfl rfl ?_|refine w_no rfl rfl (lookO_spec rfl) rfl rfl rfl ?_|refine w_un rfl rfl (lookO_spec rfl) rfl rfl ?_)|((with_reducible refine w_drw ?_);first|refine rx_q tbOk rfl rfl rfl rfl ?_|refine rx_e tbOk rfl rfl rfl rfl rfl ?_|refine rx_yes tbOk rfl rfl rfl rfl rfl rfl ?_|refine x_no rfl rfl (lookO_spec rfl) rfl rfl rfl ?_|refine x_un rfl rfl (lookO_spec rfl) rfl rfl ?_)|((first|refine' w_q rfl rfl ?xa rfl ?_|refine' v_q rfl rfl ?xa rfl ?_|refine' w_yes rfl rfl (lookO_spec rfl) rfl ?xa rfl ?_|refine' v_yes rfl rfl (lookO_spec rfl) rfl ?xa rfl ?_);case xa => first|exact k_index tbOk rfl rfl rfl rfl (by omega) (by first|exact hx|exact hx0|exact hx1)|exact k_call KN rfl ⟨asA_r (evO_spec rfl), asA_r (evO_spec rfl), asA_r (evO_spec rfl), trivial⟩)|((first|refine' w_e rfl ?xa ?xb ?xc ?xe ?_|refine' v_e rfl ?xa ?xb ?xc ?xe ?_);(case xa => first|exact e_build [.tmp 36] tlOk rfl rfl rfl rfl rfl rfl (allN_one rfl) (by simp)|exact e_build [.tmp 49] tlOk rfl rfl rfl rfl rfl rfl (allN_one rfl) (by simp)|exact at_dst 38 rfl (e_append tlOk rfl rfl rfl rfl rfl rfl (slD_plain (slD_own (lookHO_spec rfl) rfl) (by simp [plain1])) hvi (by simp only [maxLen, List.length_cons, List.length_nil];omega) (by simp only [List.length_cons, List.length_nil];omega))|exact at_dst 51 rfl (e_append tlOk rfl rfl rfl rfl rfl rfl (slD_plain (slD_own (lookHO_spec rfl) rfl) (by simp [plain1])) hgi (by simp only [maxLen, List.length_cons, List.length_nil];omega) (by simp only [List.length_cons, List.length_nil];omega)));(case xb => rfl);(case xc => rfl);(case xe => rfl);try dsimp only [P0.d, Res.d, List.map_cons, List.map_nil, List.set_cons_zero, List.set_cons_succ, Nat.reduceAdd])|((first|refine aw_ways rfl ?_ ?_|refine r_split rfl rfl rfl ?_ ?_) <;> intro hg_ <;> fail_if_success (exact Bool.noConfusion hg_)) <;> (try simp only [prn] at hg_) <;> (try first|contradiction|(exfalso;omega)))
          all_goals first
            | (refine hfin _ ?_
               (refine weak_ren [(101, 38), (102, 51)] rfl ?_ ?_ <;> repeat' (first|exact trivial|refine subR_cons rfl ?_ ?_|refine subHR_cons rfl ?_ ?_|rfl|(refine d_int ?_;(first|rfl|omega|(rw [IntWalk.i64_in _ (by omega)] <;> omega)|(simp;done)|(simp;omega)))|(refine d_bool ?_;(first|(simp_all;done)|(rw [Bool.eq_iff_iff];simp_all;done)|(rw [Bool.eq_iff_iff];simp_all;omega)|(rw [Bool.eq_iff_iff];simp;omega)))|exact d_int hwk|exact ob_sl rfl rfl|exact var4 rfl (cown (by simp only [vsOf, List.map_append, List.length_append, List.length_map, List.map_cons, List.map_nil, List.length_cons, List.length_nil, ints_len])) (cown (by simp only [gsOf, List.map_append, List.length_append, List.length_map, List.map_cons, List.map_nil, List.length_cons, List.length_nil, bools_len])) rfl)))
            | (exfalso; omega)
            | trace_state
      · rw [if_neg hg] at hE
        cases hE
  · rw [List.drop_of_length_le (by omega), rdAll] at hE
    injection hE with hE
    rw [← hE, List.append_nil] at hxs
    subst hxs
    rw [hF1 _ _ hLn]
    clear hF0 hF1
    have hvl := vsOf_len l
    have hgl := gsOf_len l
    rw [hvl, hgl]
    repeat' (first|(with_reducible first|refine aw_seq ?_|refine thn_normal ?_|refine thn_ret ?_|refine thn_exit ?_|refine blk_normal ?_|refine blk_ret ?_|refine blk_hit ?_|refine blk_miss rfl ?_|refine aw_block ?_|refine aw_ret ?_|refine aw_skip ?_|refine aw_exit ?_|refine w_nil ?_|refine x_nil (by kernel_rfl) ?_)|refine aw_region ?_|refine aw_region_draw (by kernel_rfl) ?_|refine aw_yes rfl ?_|refine aw_no rfl ?_|((with_reducible refine w_seq ?_);first|refine r_q tbOk rfl rfl rfl rfl ?_|refine r_e tbOk rfl rfl rfl rfl rfl ?_|refine r_yes tbOk rfl rfl rfl rfl rfl rfl ?_|refine w_no rfl rfl (lookO_spec rfl) rfl rfl rfl ?_|refine w_un rfl rfl (lookO_spec rfl) rfl rfl ?_)|((with_reducible refine w_drw ?_);first|refine rx_q tbOk rfl rfl rfl rfl ?_|refine rx_e tbOk rfl rfl rfl rfl rfl ?_|refine rx_yes tbOk rfl rfl rfl rfl rfl rfl ?_|refine x_no rfl rfl (lookO_spec rfl) rfl rfl rfl ?_|refine x_un rfl rfl (lookO_spec rfl) rfl rfl ?_)|((first|refine aw_ways rfl ?_ ?_|refine r_split rfl rfl rfl ?_ ?_) <;> intro hg_ <;> fail_if_success (exact Bool.noConfusion hg_)) <;> (try simp only [prn] at hg_) <;> (try first|contradiction|(exfalso;omega)))
    all_goals first
      | exact ret_D [(2000001, 101), (2000002, 102)] rfl (by (repeat' (first|exact trivial|refine subHR_cons rfl ?_ ?_|rfl))) (retD_bool rfl rfl rfl)
      | (exfalso; omega)
      | trace_state
set_option maxRecDepth 100000 in
set_option maxHeartbeats 4000000 in
theorem f_readValuesNil (nil : Bool) (r : Int) :
    FnS Try.prog 89 [.one (.ptr 1000000000 0 0 0), .one (.r false (row nil 1 (rowsI [])))] [(1000000000, .var 28 [.r true (int r), Zc, Zc, Zc])] (.one (.r true (bool true))) [(1000000000, .var 28 [.r true (int r), Zc, Zc, Zc])] := by
  have hlen : (rowsI []).length = 0 := rfl
  refine fnS_of (l := [.tmp 4]) Try.func89 (by kernel_rfl) rfl Try.ntmps89 rfl rfl ?_; simp only [dEnv, Nat.reduceAdd]
  repeat' (first|(with_reducible first|refine aw_seq ?_|refine thn_normal ?_|refine thn_ret ?_|refine thn_exit ?_|refine blk_normal ?_|refine blk_ret ?_|refine blk_hit ?_|refine blk_miss rfl ?_|refine aw_block ?_|refine aw_ret ?_|refine aw_skip ?_|refine aw_exit ?_|refine w_nil ?_|refine x_nil (by kernel_rfl) ?_)|refine aw_region ?_|refine aw_region_draw (by kernel_rfl) ?_|refine aw_yes rfl ?_|refine aw_no rfl ?_|((with_reducible refine w_seq ?_);first|refine r_q tbOk rfl rfl rfl rfl ?_|refine r_e tbOk rfl rfl rfl rfl rfl ?_|refine r_yes tbOk rfl rfl rfl rfl rfl rfl ?_|refine w_no rfl rfl (lookO_spec rfl) rfl rfl rfl ?_|refine w_un rfl rfl (lookO_spec rfl) rfl rfl ?_)|((with_reducible refine w_drw ?_);first|refine rx_q tbOk rfl rfl rfl rfl ?_|refine rx_e tbOk rfl rfl rfl rfl rfl ?_|refine rx_yes tbOk rfl rfl rfl rfl rfl rfl ?_|refine x_no rfl rfl (lookO_spec rfl) rfl rfl rfl ?_|refine x_un rfl rfl (lookO_spec rfl) rfl rfl ?_)|((first|refine aw_ways rfl ?_ ?_|refine r_split rfl rfl rfl ?_ ?_) <;> intro hg_ <;> fail_if_success (exact Bool.noConfusion hg_)) <;> (try simp only [prn] at hg_) <;> (try first|contradiction|(exfalso;omega)))
  refine aw_loopI (fun y : Nat => y = 0) (fun y => mkS 55 [(11, .one (.r true (int (y : Int)))), (10, .one (.r true (int 0))), (9, .one (.r false (row nil 1 (rowsI [])))), (0, .one (.ptr 1000000000 0 0 0))] [(1000000000, .var 28 [.r true (int r), Zc, Zc, Zc])]) (fun y => y) 0 rfl (by (refine weak_ren [] rfl ?_ ?_ <;> repeat' (first|exact trivial|refine subR_cons rfl ?_ ?_|refine subHR_cons rfl ?_ ?_|rfl|(refine d_int ?_;(first|rfl|omega|(rw [IntWalk.i64_in _ (by omega)] <;> omega)|(simp;done)|(simp;omega)))|(refine d_bool ?_;(first|(simp_all;done)|(rw [Bool.eq_iff_iff];simp_all;done)|(rw [Bool.eq_iff_iff];simp_all;omega)|(rw [Bool.eq_iff_iff];simp;omega)))))) ?_
  rintro y rfl
  repeat' (first|(with_reducible first|refine aw_seq ?_|refine thn_normal ?_|refine thn_ret ?_|refine thn_exit ?_|refine blk_normal ?_|refine blk_ret ?_|refine blk_hit ?_|refine blk_miss rfl ?_|refine aw_block ?_|refine aw_ret ?_|refine aw_skip ?_|refine aw_exit ?_|refine w_nil ?_|refine x_nil (by kernel_rfl) ?_)|refine aw_region ?_|refine aw_region_draw (by kernel_rfl) ?_|refine aw_yes rfl ?_|refine aw_no rfl ?_|((with_reducible refine w_seq ?_);first|refine r_q tbOk rfl rfl rfl rfl ?_|refine r_e tbOk rfl rfl rfl rfl rfl ?_|refine r_yes tbOk rfl rfl rfl rfl rfl rfl ?_|refine w_no rfl rfl (lookO_spec rfl) rfl rfl rfl ?_|refine w_un rfl rfl (lookO_spec rfl) rfl rfl ?_)|((with_reducible refine w_drw ?_);first|refine rx_q tbOk rfl rfl rfl rfl ?_|refine rx_e tbOk rfl rfl rfl rfl rfl ?_|refine rx_yes tbOk rfl rfl rfl rfl rfl rfl ?_|refine x_no rfl rfl (lookO_spec rfl) rfl rfl rfl ?_|refine x_un rfl rfl (lookO_spec rfl) rfl rfl ?_)|((first|refine aw_ways rfl ?_ ?_|refine r_split rfl rfl rfl ?_ ?_) <;> intro hg_ <;> fail_if_success (exact Bool.noConfusion hg_)) <;> (try simp only [prn] at hg_) <;> (try first|contradiction|(exfalso;omega)))
  all_goals first
    | exact ret_D [] rfl (by (repeat' (first|exact trivial|refine subHR_cons rfl ?_ ?_|rfl))) (retD_bool rfl rfl rfl)
    | (exfalso; omega)
    | trace_state
set_option maxRecDepth 100000 in
set_option maxHeartbeats 8000000 in
theorem f_readMsNoZ (nil : Bool) (bs : List (List Int)) (r : Int) (hl : bs.length ≤ 2000) (hn : rdAll rdM1 bs = none) :
    FnS Try.prog 90 [.one (.ptr 1000000000 0 0 0), .one (.r false (row nil 1 (rowsI bs)))] [(1000000000, .var 28 [.r true (int r), Zc, Zc, Zc])] (.one (.r true (bool false))) [] := by
  have hlen := rowsI_len bs
  refine fnS_of (l := [.tmp 4]) Try.func90 (by kernel_rfl) rfl Try.ntmps90 rfl rfl ?_; simp only [dEnv, Nat.reduceAdd]
  repeat' (first|(with_reducible first|refine aw_seq ?_|refine thn_normal ?_|refine thn_ret ?_|refine thn_exit ?_|refine blk_normal ?_|refine blk_ret ?_|refine blk_hit ?_|refine blk_miss rfl ?_|refine aw_block ?_|refine aw_ret ?_|refine aw_skip ?_|refine aw_exit ?_|refine w_nil ?_|refine x_nil (by kernel_rfl) ?_)|refine aw_region ?_|refine aw_region_draw (by kernel_rfl) ?_|refine aw_yes rfl ?_|refine aw_no rfl ?_|((with_reducible refine w_seq ?_);first|refine r_q tbOk rfl rfl rfl rfl ?_|refine r_e tbOk rfl rfl rfl rfl rfl ?_|refine r_yes tbOk rfl rfl rfl rfl rfl rfl ?_|refine w_no rfl rfl (lookO_spec rfl) rfl rfl rfl ?_|refine w_un rfl rfl (lookO_spec rfl) rfl rfl ?_)|((with_reducible refine w_drw ?_);first|refine rx_q tbOk rfl rfl rfl rfl ?_|refine rx_e tbOk rfl rfl rfl rfl rfl ?_|refine rx_yes tbOk rfl rfl rfl rfl rfl rfl ?_|refine x_no rfl rfl (lookO_spec rfl) rfl rfl rfl ?_|refine x_un rfl rfl (lookO_spec rfl) rfl rfl ?_)|((first|refine aw_ways rfl ?_ ?_|refine r_split rfl rfl rfl ?_ ?_) <;> intro hg_ <;> fail_if_success (exact Bool.noConfusion hg_)) <;> (try simp only [prn] at hg_) <;> (try first|contradiction|(exfalso;omega)))
  obtain ⟨F, hF0, hF1⟩ : ∃ F : Nat × List E3 → St, (∀ k, F (k, []) = mkS 42 [(11, .one (.r true (int (k : Int)))), (10, .one (.r true (int (bs.length : Int)))), (9, .one (.r false (row nil 1 (rowsI bs)))), (0, .one (.ptr 1000000000 0 0 0))] [(1000000000, .var 28 [.r true (int r), Zc, Zc, Zc])]) ∧
      (∀ k l, l ≠ [] → F (k, l) = mkS 42 [(11, .one (.r true (int (k : Int)))), (10, .one (.r true (int (bs.length : Int)))), (9, .one (.r false (row nil 1 (rowsI bs)))), (0, .one (.ptr 1000000000 0 0 0))] [(1000000000, .var 28 [.r true (int r), Zc, Zc, .own 103 0 (l).length 3]), (103, .sl 95 3 true (edges (l)))]) := by
    refine ⟨fun y => if y.2.isEmpty then mkS 42 [(11, .one (.r true (int (y.1 : Int)))), (10, .one (.r true (int (bs.length : Int)))), (9, .one (.r false (row nil 1 (rowsI bs)))), (0, .one (.ptr 1000000000 0 0 0))] [(1000000000, .var 28 [.r true (int r), Zc, Zc, Zc])] else mkS 42 [(11, .one (.r true (int (y.1 : Int)))), (10, .one (.r true (int (bs.length : Int)))), (9, .one (.r false (row nil 1 (rowsI bs)))), (0, .one (.ptr 1000000000 0 0 0))] [(1000000000, .var 28 [.r true (int r), Zc, Zc, .own 103 0 (y.2).length 3]), (103, .sl 95 3 true (edges (y.2)))], fun k => rfl, fun k l h => ?_⟩
    cases l with
    | nil => exact absurd rfl h
    | cons v l => rfl
  refine aw_loopI (fun y : Nat × List E3 => y.1 ≤ bs.length ∧ y.2.length = y.1 ∧ rdAll rdM1 (bs.drop y.1) = none) F (fun y => bs.length - y.1) (0, []) ⟨Nat.zero_le _, rfl, hn⟩ (by
    rw [hF0]
    (refine weak_ren [] rfl ?_ ?_ <;> repeat' (first|exact trivial|refine subR_cons rfl ?_ ?_|refine subHR_cons rfl ?_ ?_|rfl|(refine d_int ?_;(first|rfl|omega|(rw [IntWalk.i64_in _ (by omega)] <;> omega)|(simp;done)|(simp;omega)))|(refine d_bool ?_;(first|(simp_all;done)|(rw [Bool.eq_iff_iff];simp_all;done)|(rw [Bool.eq_iff_iff];simp_all;omega)|(rw [Bool.eq_iff_iff];simp;omega)))|exact d_int (by rw [hlen])))) ?_
  rintro ⟨k, l⟩ ⟨hk, hkl, hE⟩
  dsimp only at hk hkl hE
  by_cases hlt : k < bs.length
  · have hx := rowsI_at hlt
    rw [rdAll_drop hlt] at hE
    have KN := f_numbersBehind false bs[k] 3 3 (by omega)
    have hform := rdM1_form bs[k]
    generalize bs[k] = b at *
    have hwk : IntKind.i64.wrap ((k : Int) + 1) = ((k + 1 : Nat) : Int) := by rw [IntWalk.i64_in _ (by omega)]; omega
    have hmi := (edges_len l).symm
    rcases hform with ⟨nn, ns, e1, e2⟩ | ⟨a, c, d, e1, e2⟩
    · rw [e1] at KN
      clear hE e2 e1
      have hx0 := hx
      have hx1 := hx
      have hx2 := hx
      by_cases hll : l = []
      · subst hll
        rw [hF0]
        clear hF0 hF1
        repeat' (first|(with_reducible first|refine aw_seq ?_|refine thn_normal ?_|refine thn_ret ?_|refine thn_exit ?_|refine blk_normal ?_|refine blk_ret ?_|refine blk_hit ?_|refine blk_miss rfl ?_|refine aw_block ?_|refine aw_ret ?_|refine aw_skip ?_|refine aw_exit ?_|refine w_nil ?_|refine x_nil (by kernel_rfl) ?_)|refine aw_region ?_|refine aw_region_draw (by kernel_rfl) ?_|refine aw_yes rfl ?_|refine aw_no rfl ?_|((with_reducible refine w_seq ?_);first|refine r_q tbOk rfl rfl rfl rfl ?_|refine r_e tbOk rfl rfl rfl rfl rfl ?_|refine r_yes tbOk rfl rfl rfl rfl rfl rfl ?_|refine w_no rfl rfl (lookO_spec rfl) rfl rfl rfl ?_|refine w_un rfl rfl (lookO_spec rfl) rfl rfl ?_)|((with_reducible refine w_drw ?_);first|refine rx_q tbOk rfl rfl rfl rfl ?_|refine rx_e tbOk rfl rfl rfl rfl rfl ?_|refine rx_yes tbOk rfl rfl rfl rfl rfl rfl ?_|refine x_no rfl rfl (lookO_spec rfl) rfl rfl rfl ?_|refine x_un rfl rfl (lookO_spec rfl) rfl rfl ?_)|((first|refine' w_q rfl rfl ?xa rfl ?_|refine' v_q rfl rfl ?xa rfl ?_|refine' w_yes rfl rfl (lookO_spec rfl) rfl ?xa rfl ?_|refine' v_yes rfl rfl (lookO_spec rfl) rfl ?xa rfl ?_);case xa => first|exact k_index tbOk rfl rfl rfl rfl (by omega) (by first|exact hx|exact hx0|exact hx1|exact hx2)|exact k_call KN rfl ⟨asA_r (evO_spec rfl), asA_r (evO_spec rfl), asA_r (evO_spec rfl), trivial⟩)|((first|refine aw_ways rfl ?_ ?_|refine r_split rfl rfl rfl ?_ ?_) <;> intro hg_ <;> fail_if_success (exact Bool.noConfusion hg_)) <;> (try simp only [prn] at hg_) <;> (try first|contradiction|(exfalso;omega)))
        all_goals first
          | exact ret_D [] rfl (by (repeat' (first|exact trivial|refine subHR_cons rfl ?_ ?_|rfl))) (retD_bool rfl rfl rfl)
          | (exfalso; omega)
          | trace_state
      · rw [hF1 _ _ hll]
        clear hF0 hF1
        repeat' (first|(with_reducible first|refine aw_seq ?_|refine thn_normal ?_|refine thn_ret ?_|refine thn_exit ?_|refine blk_normal ?_|refine blk_ret ?_|refine blk_hit ?_|refine blk_miss rfl ?_|refine aw_block ?_|refine aw_ret ?_|refine aw_skip ?_|refine aw_exit ?_|refine w_nil ?_|refine x_nil (by kernel_rfl) ?_)|refine aw_region ?_|refine aw_region_draw (by kernel_rfl) ?_|refine aw_yes rfl ?_|refine aw_no rfl ?_|((with_reducible refine w_seq ?_);first|refine r_q tbOk rfl rfl rfl rfl ?_|refine r_e tbOk rfl rfl rfl rfl rfl ?_|refine r_yes tbOk rfl rfl rfl rfl rfl rfl ?_|refine w_no rfl rfl (lookO_spec rfl) rfl rfl rfl ?_|refine w_un rfl rfl (lookO_spec rfl) rfl rfl ?_)|((with_reducible refine w_drw ?_);first|refine rx_q tbOk rfl rfl rfl rfl ?_|refine rx_e tbOk rfl rfl rfl rfl rfl ?_|refine rx_yes tbOk rfl rfl rfl rfl rfl rfl ?_|refine x_no rfl rfl (lookO_spec rfl) rfl rfl rfl ?_|refine x_un rfl rfl (lookO_spec rfl) rfl rfl ?_)|((first|refine' w_q rfl rfl ?xa rfl ?_|refine' v_q rfl rfl ?xa rfl ?_|refine' w_yes rfl rfl (lookO_spec rfl) rfl ?xa rfl ?_|refine' v_yes rfl rfl (lookO_spec rfl) rfl ?xa rfl ?_);case xa => first|exact k_index tbOk rfl rfl rfl rfl (by omega) (by first|exact hx|exact hx0|exact hx1|exact hx2)|exact k_call KN rfl ⟨asA_r (evO_spec rfl), asA_r (evO_spec rfl), asA_r (evO_spec rfl), trivial⟩)|((first|refine aw_ways rfl ?_ ?_|refine r_split rfl rfl rfl ?_ ?_) <;> intro hg_ <;> fail_if_success (exact Bool.noConfusion hg_)) <;> (try simp only [prn] at hg_) <;> (try first|contradiction|(exfalso;omega)))
        all_goals first
          | exact ret_D [] rfl (by (repeat' (first|exact trivial|refine subHR_cons rfl ?_ ?_|rfl))) (retD_bool rfl rfl rfl)
          | (exfalso; omega)
          | trace_state
    · rw [e1] at KN
      rw [e2] at hE
      have hx0 : (ints [a, c, d])[(0 : Int).toNat]? = some (iP a) := rfl
      have hx1 : (ints [a, c, d])[(1 : Int).toNat]? = some (iP c) := rfl
      have hx2 : (ints [a, c, d])[(2 : Int).toNat]? = some (iP d) := rfl
      have hE2 : rdAll rdM1 (bs.drop (k + 1)) = none := by
        cases h : rdAll rdM1 (bs.drop (k + 1)) with
        | none => rfl
        | some xs => rw [h] at hE; cases hE
      have hfin : ∀ s' : St, Weak s' (F (k + 1, l ++ [(a, c, d)])) → ∃ y' : Nat × List E3, (y'.1 ≤ bs.length ∧ y'.2.length = y'.1 ∧ rdAll rdM1 (bs.drop y'.1) = none) ∧ Weak s' (F y') ∧ bs.length - y'.1 < bs.length - k := fun s' h => ⟨(k + 1, l ++ [(a, c, d)]), ⟨by dsimp only; omega, by simp; omega, hE2⟩, h, by dsimp only; omega⟩
      have happ : edges (l ++ [(a, c, d)]) = edges l ++ [edgeP (a, c, d)] := by unfold edges; simp
      rw [hF1 _ _ (by simp), happ] at hfin
      clear hE hE2 e1 e2 happ
      by_cases hll : l = []
      · subst hll
        rw [hF0]
        clear hF0 hF1
        repeat' (first|(with_reducible first|refine aw_seq ?_|refine thn_normal ?_|refine thn_ret ?_|refine thn_exit ?_|refine blk_normal ?_|refine blk_ret ?_|refine blk_hit ?_|refine blk_miss rfl ?_|refine aw_block ?_|refine aw_ret ?_|refine aw_skip ?_|refine aw_exit ?_|refine w_nil ?_|refine x_nil (by kernel_rfl) ?_)|refine aw_region ?_|refine aw_region_draw (by kernel_rfl) ?_|refine aw_yes rfl ?_|refine aw_no rfl ?_|((with_reducible refine w_seq ?_);first|refine r_q tbOk rfl rfl rfl rfl ?_|refine r_e tbOk rfl rfl rfl rfl rfl ?_|refine r_yes tbOk rfl rfl rfl rfl rfl rfl ?_|refine w_no rfl rfl (lookO_spec rfl) rfl rfl rfl ?_|refine w_un rfl rfl (lookO_spec rfl) rfl rfl ?_)|((with_reducible refine w_drw ?_);first|refine rx_q tbOk rfl rfl rfl rfl ?_|refine rx_e tbOk rfl rfl rfl rfl rfl ?_|refine rx_yes tbOk rfl rfl rfl rfl rfl rfl ?_|refine x_no rfl rfl (lookO_spec rfl) rfl rfl rfl ?_|refine x_un rfl rfl (lookO_spec rfl) rfl rfl ?_)|((first|refine' w_q rfl rfl ?xa rfl ?_|refine' v_q rfl rfl ?xa rfl ?_|refine' w_yes rfl rfl (lookO_spec rfl) rfl ?xa rfl ?_|refine' v_yes rfl rfl (lookO_spec rfl) rfl ?xa rfl ?_);case xa => first|exact k_index tbOk rfl rfl rfl rfl (by omega) (by first|exact hx|exact hx0|exact hx1|exact hx2)|exact k_call KN rfl ⟨asA_r (evO_spec rfl), asA_r (evO_spec rfl), asA_r (evO_spec rfl), trivial⟩)|((first|refine' w_e rfl ?xa ?xb ?xc ?xe ?_|refine' v_e rfl ?xa ?xb ?xc ?xe ?_);(case xa => first|exact e_build [.tmp 36] tlOk rfl rfl rfl rfl rfl rfl (allN_one rfl) (by simp)|exact at_dst 38 rfl (e_append_nil tlOk rfl rfl rfl rfl rfl (slD_plain (slD_own (lookHO_spec rfl) rfl) (edge1_plain _ _ _)) (by simp) (by simp [maxLen]) (by simp)));(case xb => rfl);(case xc => rfl);(case xe => rfl);try dsimp only [P0.d, Res.d, List.map_cons, List.map_nil, List.set_cons_zero, List.set_cons_succ, Nat.reduceAdd])|((first|refine aw_ways rfl ?_ ?_|refine r_split rfl rfl rfl ?_ ?_) <;> intro hg_ <;> fail_if_success (exact Bool.noConfusion hg_)) <;> (try simp only [prn] at hg_) <;> (try first|contradiction|(exfalso;omega)))
        all_goals first
          | (refine hfin _ ?_
             (refine weak_ren [(103, 38)] rfl ?_ ?_ <;> repeat' (first|exact trivial|refine subR_cons rfl ?_ ?_|refine subHR_cons rfl ?_ ?_|rfl|(refine d_int ?_;(first|rfl|omega|(rw [IntWalk.i64_in _ (by omega)] <;> omega)|(simp;done)|(simp;omega)))|(refine d_bool ?_;(first|(simp_all;done)|(rw [Bool.eq_iff_iff];simp_all;done)|(rw [Bool.eq_iff_iff];simp_all;omega)|(rw [Bool.eq_iff_iff];simp;omega)))|exact d_int hwk|exact ob_sl rfl rfl|exact var4 rfl rfl rfl (cown (by simp only [List.length_append, List.length_cons, List.length_nil, edges_len])))))
          | (exfalso; omega)
          | trace_state
      · rw [hF1 _ _ hll]
        clear hF0 hF1
        repeat' (first|(with_reducible first|refine aw_seq ?_|refine thn_normal ?_|refine thn_ret ?_|refine thn_exit ?_|refine blk_normal ?_|refine blk_ret ?_|refine blk_hit ?_|refine blk_miss rfl ?_|refine aw_block ?_|refine aw_ret ?_|refine aw_skip ?_|refine aw_exit ?_|refine w_nil ?_|refine x_nil (by kernel_rfl) ?_)|refine aw_region ?_|refine aw_region_draw (by kernel_rfl) ?_|refine aw_yes rfl ?_|refine aw_no rfl ?_|((with_reducible refine w_seq ?_);first|refine r_q tbOk rfl rfl rfl rfl ?_|refine r_e tbOk rfl rfl rfl rfl rfl ?_|refine r_yes tbOk rfl rfl rfl rfl rfl rfl ?_|refine w_no rfl rfl (lookO_spec rfl) rfl rfl rfl ?_|refine w_un rfl rfl (lookO_spec rfl) rfl rfl ?_)|((with_reducible refine w_drw ?_);first|refine rx_q tbOk rfl rfl rfl rfl ?_|refine rx_e tbOk rfl rfl rfl rfl rfl ?_|refine rx_yes tbOk rfl rfl rfl rfl rfl rfl ?_|refine x_no rfl rfl (lookO_spec rfl) rfl rfl rfl ?_|refine x_un rfl rfl (lookO_spec rfl) rfl rfl ?_)|((first|refine' w_q rfl rfl ?xa rfl ?_|refine' v_q rfl rfl ?xa rfl ?_|refine' w_yes rfl rfl (lookO_spec rfl) rfl ?xa rfl ?_|refine' v_yes rfl rfl (lookO_spec rfl) rfl ?xa rfl ?_);case xa => first|exact k_index tbOk rfl rfl rfl rfl (by omega) (by first|exact hx|exact hx0|exact hx1|exact hx2)|exact k_call KN rfl ⟨asA_r (evO_spec rfl), asA_r (evO_spec rfl), asA_r (evO_spec rfl), trivial⟩)|((first|refine' w_e rfl ?xa ?xb ?xc ?xe ?_|refine' v_e rfl ?xa ?xb ?xc ?xe ?_);(case xa => first|exact e_build [.tmp 36] tlOk rfl rfl rfl rfl rfl rfl (allN_one rfl) (by simp)|exact at_dst 38 rfl (e_append tlOk rfl rfl rfl rfl rfl rfl (slD_plain (slD_own (lookHO_spec rfl) rfl) (edge1_plain _ _ _)) hmi (by simp only [maxLen, List.length_cons, List.length_nil];omega) (by simp only [List.length_cons, List.length_nil];omega)));(case xb => rfl);(case xc => rfl);(case xe => rfl);try dsimp only [P0.d, Res.d, List.map_cons, List.map_nil, List.set_cons_zero, List.set_cons_succ, Nat.reduceAdd])|((first|refine aw_ways rfl ?_ ?_|refine r_split rfl rfl rfl ?_ ?_) <;> intro hg_ <;> fail_if_success (exact Bool.noConfusion hg_)) <;> (try simp only [prn] at hg_) <;> (try first|contradiction|(exfalso;omega)))
        all_goals first
          | (refine hfin _ ?_
             (refine weak_ren [(103, 38)] rfl ?_ ?_ <;> repeat' (first|exact trivial|refine subR_cons rfl ?_ ?_|refine subHR_cons rfl ?_ ?_|rfl|(refine d_int ?_;(first|rfl|omega|(rw [IntWalk.i64_in _ (by omega)] <;> omega)|(simp;done)|(simp;omega)))|(refine d_bool ?_;(first|(simp_all;done)|(rw [Bool.eq_iff_iff];simp_all;done)|(rw [Bool.eq_iff_iff];simp_all;omega)|(rw [Bool.eq_iff_iff];simp;omega)))|exact d_int hwk|exact ob_sl rfl rfl|exact var4 rfl rfl rfl (cown (by simp only [List.length_append, List.length_cons, List.length_nil, edges_len])))))
          | (exfalso; omega)
          | trace_state
  · exfalso
    rw [List.drop_of_length_le (by omega)] at hE
    cases hE
set_option maxRecDepth 100000 in
set_option maxHeartbeats 8000000 in
theorem f_readMsYesZ (nil : Bool) (bs : List (List Int)) (r : Int) (hl : bs.length ≤ 2000) (L : List E3) (hn : rdAll rdM1 bs = some L) (hLn : L ≠ []) :
    FnS Try.prog 90 [.one (.ptr 1000000000 0 0 0), .one (.r false (row nil 1 (rowsI bs)))] [(1000000000, .var 28 [.r true (int r), Zc, Zc, Zc])] (.one (.r true (bool true))) [(1000000000, .var 28 [.r true (int r), Zc, Zc, .own 2000001 0 (L).length 3]), (2000001, .sl 95 3 true (edges (L)))] := by
  have hlen := rowsI_len bs
  refine fnS_of (l := [.tmp 4]) Try.func90 (by kernel_rfl) rfl Try.ntmps90 rfl rfl ?_; simp only [dEnv, Nat.reduceAdd]
  repeat' (first|(with_reducible first|refine aw_seq ?_|refine thn_normal ?_|refine thn_ret ?_|refine thn_exit ?_|refine blk_normal ?_|refine blk_ret ?_|refine blk_hit ?_|refine blk_miss rfl ?_|refine aw_block ?_|refine aw_ret ?_|refine aw_skip ?_|refine aw_exit ?_|refine w_nil ?_|refine x_nil (by kernel_rfl) ?_)|refine aw_region ?_|refine aw_region_draw (by kernel_rfl) ?_|refine aw_yes rfl ?_|refine aw_no rfl ?_|((with_reducible refine w_seq ?_);first|refine r_q tbOk rfl rfl rfl rfl ?_|refine r_e tbOk rfl rfl rfl rfl rfl ?_|refine r_yes tbOk rfl rfl rfl rfl rfl rfl ?_|refine w_no rfl rfl (lookO_spec rfl) rfl rfl rfl ?_|refine w_un rfl rfl (lookO_spec rfl) rfl rfl ?_)|((with_reducible refine w_drw ?_);first|refine rx_q tbOk rfl rfl rfl rfl ?_|refine rx_e tbOk rfl rfl rfl rfl rfl ?_|refine rx_yes tbOk rfl rfl rfl rfl rfl rfl ?_|refine x_no rfl rfl (lookO_spec rfl) rfl rfl rfl ?_|refine x_un rfl rfl (lookO_spec rfl) rfl rfl ?_)|((first|refine aw_ways rfl ?_ ?_|refine r_split rfl rfl rfl ?_ ?_) <;> intro hg_ <;> fail_if_success (exact Bool.noConfusion hg_)) <;> (try simp only [prn] at hg_) <;> (try first|contradiction|(exfalso;omega)))
  obtain ⟨F, hF0, hF1⟩ : ∃ F : Nat × List E3 → St, (∀ k, F (k, []) = mkS 42 [(11, .one (.r true (int (k : Int)))), (10, .one (.r true (int (bs.length : Int)))), (9, .one (.r false (row nil 1 (rowsI bs)))), (0, .one (.ptr 1000000000 0 0 0))] [(1000000000, .var 28 [.r true (int r), Zc, Zc, Zc])]) ∧
      (∀ k l, l ≠ [] → F (k, l) = mkS 42 [(11, .one (.r true (int (k : Int)))), (10, .one (.r true (int (bs.length : Int)))), (9, .one (.r false (row nil 1 (rowsI bs)))), (0, .one (.ptr 1000000000 0 0 0))] [(1000000000, .var 28 [.r true (int r), Zc, Zc, .own 103 0 (l).length 3]), (103, .sl 95 3 true (edges (l)))]) := by
    refine ⟨fun y => if y.2.isEmpty then mkS 42 [(11, .one (.r true (int (y.1 : Int)))), (10, .one (.r true (int (bs.length : Int)))), (9, .one (.r false (row nil 1 (rowsI bs)))), (0, .one (.ptr 1000000000 0 0 0))] [(1000000000, .var 28 [.r true (int r), Zc, Zc, Zc])] else mkS 42 [(11, .one (.r true (int (y.1 : Int)))), (10, .one (.r true (int (bs.length : Int)))), (9, .one (.r false (row nil 1 (rowsI bs)))), (0, .one (.ptr 1000000000 0 0 0))] [(1000000000, .var 28 [.r true (int r), Zc, Zc, .own 103 0 (y.2).length 3]), (103, .sl 95 3 true (edges (y.2)))], fun k => rfl, fun k l h => ?_⟩
    cases l with
    | nil => exact absurd rfl h
    | cons v l => rfl
  refine aw_loopI (fun y : Nat × List E3 => y.1 ≤ bs.length ∧ y.2.length = y.1 ∧ ∃ xs, rdAll rdM1 (bs.drop y.1) = some xs ∧ y.2 ++ xs = L) F (fun y => bs.length - y.1) (0, []) ⟨Nat.zero_le _, rfl, L, hn, rfl⟩ (by
    rw [hF0]
    (refine weak_ren [] rfl ?_ ?_ <;> repeat' (first|exact trivial|refine subR_cons rfl ?_ ?_|refine subHR_cons rfl ?_ ?_|rfl|(refine d_int ?_;(first|rfl|omega|(rw [IntWalk.i64_in _ (by omega)] <;> omega)|(simp;done)|(simp;omega)))|(refine d_bool ?_;(first|(simp_all;done)|(rw [Bool.eq_iff_iff];simp_all;done)|(rw [Bool.eq_iff_iff];simp_all;omega)|(rw [Bool.eq_iff_iff];simp;omega)))|exact d_int (by rw [hlen])))) ?_
  rintro ⟨k, l⟩ ⟨hk, hkl, xs, hE, hxs⟩
  dsimp only at hk hkl hE hxs
  by_cases hlt : k < bs.length
  · have hx := rowsI_at hlt
    rw [rdAll_drop hlt] at hE
    have KN := f_numbersBehind false bs[k] 3 3 (by omega)
    have hform := rdM1_form bs[k]
    generalize bs[k] = b at *
    have hwk : IntKind.i64.wrap ((k : Int) + 1) = ((k + 1 : Nat) : Int) := by rw [IntWalk.i64_in _ (by omega)]; omega
    have hmi := (edges_len l).symm
    rcases hform with ⟨nn, ns, e1, e2⟩ | ⟨a, c, d, e1, e2⟩
    · rw [e2] at hE
      cases hE
    · rw [e1] at KN
      rw [e2] at hE
      have hx0 : (ints [a, c, d])[(0 : Int).toNat]? = some (iP a) := rfl
      have hx1 : (ints [a, c, d])[(1 : Int).toNat]? = some (iP c) := rfl
      have hx2 : (ints [a, c, d])[(2 : Int).toNat]? = some (iP d) := rfl
      have hE2 : ∃ ys, rdAll rdM1 (bs.drop (k + 1)) = some ys ∧ (l ++ [(a, c, d)]) ++ ys = L := by
        cases h : rdAll rdM1 (bs.drop (k + 1)) with
        | none => rw [h] at hE; cases hE
        | some ys =>
          rw [h] at hE
          injection hE with hE
          exact ⟨ys, rfl, by rw [← hxs, ← hE]; simp⟩
      have hfin : ∀ s' : St, Weak s' (F (k + 1, l ++ [(a, c, d)])) → ∃ y' : Nat × List E3, (y'.1 ≤ bs.length ∧ y'.2.length = y'.1 ∧ ∃ xs, rdAll rdM1 (bs.drop y'.1) = some xs ∧ y'.2 ++ xs = L) ∧ Weak s' (F y') ∧ bs.length - y'.1 < bs.length - k := fun s' h => ⟨(k + 1, l ++ [(a, c, d)]), ⟨by dsimp only; omega, by simp; omega, hE2⟩, h, by dsimp only; omega⟩
      have happ : edges (l ++ [(a, c, d)]) = edges l ++ [edgeP (a, c, d)] := by unfold edges; simp
      rw [hF1 _ _ (by simp), happ] at hfin
      clear hE hE2 e1 e2 happ
      by_cases hll : l = []
      · subst hll
        rw [hF0]
        clear hF0 hF1
        repeat' (first|(with_reducible first|refine aw_seq ?_|refine thn_normal ?_|refine thn_ret ?_|refine thn_exit ?_|refine blk_normal ?_|refine blk_ret ?_|refine blk_hit ?_|refine blk_miss rfl ?_|refine aw_block ?_|refine aw_ret ?_|refine aw_skip ?_|refine aw_exit ?_|refine w_nil ?_|refine x_nil (by kernel_rfl) ?_)|refine aw_region ?_|refine aw_region_draw (by kernel_rfl) ?_|refine aw_yes rfl ?_|refine aw_no rfl ?_|((with_reducible refine w_seq ?_);first|refine r_q tbOk rfl rfl rfl rfl ?_|refine r_e tbOk rfl rfl rfl rfl rfl ?_|refine r_yes tbOk rfl rfl rfl rfl rfl rfl ?_|refine w_no rfl rfl (lookO_spec rfl) rfl rfl rfl ?_|refine w_un rfl rfl (lookO_spec rfl) rfl rfl ?_)|((with_reducible refine w_drw ?_);first|refine rx_q tbOk rfl rfl rfl rfl ?_|refine rx_e tbOk rfl rfl rfl rfl rfl ?_|refine rx_yes tbOk rfl rfl rfl rfl rfl rfl ?_|refine x_no rfl rfl (lookO_spec rfl) rfl rfl rfl ?_|refine x_un rfl rfl (lookO_spec rfl) rfl rfl ?_)|((first|refine' w_q rfl rfl ?xa rfl ?_|refine' v_q rfl rfl ?xa rfl ?_|refine' w_yes rfl rfl (lookO_spec rfl) rfl ?xa rfl ?_|refine' v_yes rfl rfl (lookO_spec rfl) rfl ?xa rfl ?_);case xa => first|exact k_index tbOk rfl rfl rfl rfl (by omega) (by first|exact hx|exact hx0|exact hx1|exact hx2)|exact k_call KN rfl ⟨asA_r (evO_spec rfl), asA_r (evO_spec rfl), asA_r (evO_spec rfl), trivial⟩)|((first|refine' w_e rfl ?xa ?xb ?xc ?xe ?_|refine' v_e rfl ?xa ?xb ?xc ?xe ?_);(case xa => first|exact e_build [.tmp 36] tlOk rfl rfl rfl rfl rfl rfl (allN_one rfl) (by simp)|exact at_dst 38 rfl (e_append_nil tlOk rfl rfl rfl rfl rfl (slD_plain (slD_own (lookHO_spec rfl) rfl) (edge1_plain _ _ _)) (by simp) (by simp [maxLen]) (by simp)));(case xb => rfl);(case xc => rfl);(case xe => rfl);try dsimp only [P0.d, Res.d, List.map_cons, List.map_nil, List.set_cons_zero, List.set_cons_succ, Nat.reduceAdd])|((first|refine aw_ways rfl ?_ ?_|refine r_split rfl rfl rfl ?_ ?_) <;> intro hg_ <;> fail_if_success (exact Bool.noConfusion hg_)) <;> (try simp only [prn] at hg_) <;> (try first|contradiction|(exfalso;omega)))
        all_goals first
          | (refine hfin _ ?_
             (refine weak_ren [(103, 38)] rfl ?_ ?_ <;> repeat' (first|exact trivial|refine subR_cons rfl ?_ ?_|refine subHR_cons rfl ?_ ?_|rfl|(refine d_int ?_;(first|rfl|omega|(rw [IntWalk.i64_in _ (by omega)] <;> omega)|(simp;done)|(simp;omega)))|(refine d_bool ?_;(first|(simp_all;done)|(rw [Bool.eq_iff_iff];simp_all;done)|(rw [Bool.eq_iff_iff];simp_all;omega)|(rw [Bool.eq_iff_iff];simp;omega)))|exact d_int hwk|exact ob_sl rfl rfl|exact var4 rfl rfl rfl (cown (by simp only [List.length_append, List.length_cons, List.length_nil, edges_len])))))
          | (exfalso; omega)
          | trace_state
      · rw [hF1 _ _ hll]
        clear hF0 hF1
        repeat' (first|(with_reducible first|refine aw_seq ?_|refine thn_normal ?_|refine thn_ret ?_|refine thn_exit ?_|refine blk_normal ?_|refine blk_ret ?_|refine blk_hit ?_|refine blk_miss rfl ?_|refine aw_block ?_|refine aw_ret ?_|refine aw_skip ?_|refine aw_exit ?_|refine w_nil ?_|refine x_nil (by kernel_rfl) ?_)|refine aw_region ?_|refine aw_region_draw (by kernel_rfl) ?_|refine aw_yes rfl ?_|refine aw_no rfl ?_|((with_reducible refine w_seq ?_);first|refine r_q tbOk rfl rfl rfl rfl ?_|refine r_e tbOk rfl rfl rfl rfl rfl ?_|refine r_yes tbOk rfl rfl rfl rfl rfl rfl ?_|refine w_no rfl rfl (lookO_spec rfl) rfl rfl rfl ?_|refine w_un rfl rfl (lookO_spec rfl) rfl rfl ?_)|((with_reducible refine w_drw ?_);first|refine rx_q tbOk rfl rfl rfl rfl ?_|refine rx_e tbOk rfl rfl rfl rfl rfl ?_|refine rx_yes tbOk rfl rfl rfl rfl rfl rfl ?_|refine x_no rfl rfl (lookO_spec rfl) rfl rfl rfl ?_|refine x_un rfl rfl (lookO_spec rfl) rfl rfl ?_)|((first|refine' w_q rfl rfl ?xa rfl ?_|refine' v_q rfl rfl ?xa rfl ?_|refine' w_yes rfl rfl (lookO_spec rfl) rfl ?xa rfl ?_|refine' v_yes rfl rfl (lookO_spec rfl) rfl ?xa rfl ?_);case xa => first|exact k_index tbOk rfl rfl rfl rfl (by omega) (by first|exact hx|exact hx0|exact hx1|exact hx2)|exact k_call KN rfl ⟨asA_r (evO_spec rfl), asA_r (evO_spec rfl), asA_r (evO_spec rfl), trivial⟩)|((first|refine' w_e rfl ?xa ?xb ?xc ?xe ?_|refine' v_e rfl ?xa ?xb ?xc ?xe ?_);(case xa => first|exact e_build [.tmp 36] tlOk rfl rfl rfl rfl rfl rfl (allN_one rfl) (by simp)|exact at_dst 38 rfl (e_append tlOk rfl rfl rfl rfl rfl rfl (slD_plain (slD_own (lookHO_spec rfl) rfl) (edge1_plain _ _ _)) hmi (by simp only [maxLen, List.length_cons, List.length_nil];omega) (by simp only [List.length_cons, List.length_nil];omega)));(case xb => rfl);(case xc => rfl);(case xe => rfl);try dsimp only [P0.d, Res.d, List.map_cons, List.map_nil, List.set_cons_zero, List.set_cons_succ, Nat.reduceAdd])|((first|refine aw_ways rfl ?_ ?_|refine r_split rfl rfl rfl ?_ ?_) <;> intro hg_ <;> fail_if_success (exact Bool.noConfusion hg_)) <;> (try simp only [prn] at hg_) <;> (try first|contradiction|(exfalso;omega)))
        all_goals first
          | (refine hfin _ ?_
             (refine weak_ren [(103, 38)] rfl ?_ ?_ <;> repeat' (first|exact trivial|refine subR_cons rfl ?_ ?_|refine subHR_cons rfl ?_ ?_|rfl|(refine d_int ?_;(first|rfl|omega|(rw [IntWalk.i64_in _ (by omega)] <;> omega)|(simp;done)|(simp;omega)))|(refine d_bool ?_;(first|(simp_all;done)|(rw [Bool.eq_iff_iff];simp_all;done)|(rw [Bool.eq_iff_iff];simp_all;omega)|(rw [Bool.eq_iff_iff];simp;omega)))|exact d_int hwk|exact ob_sl rfl rfl|exact var4 rfl rfl rfl (cown (by simp only [List.length_append, List.length_cons, List.length_nil, edges_len])))))
          | (exfalso; omega)
          | trace_state
  · rw [List.drop_of_length_le (by omega), rdAll] at hE
    injection hE with hE
    rw [← hE, List.append_nil] at hxs
    subst hxs
    rw [hF1 _ _ hLn]
    clear hF0 hF1
    repeat' (first|(with_reducible first|refine aw_seq ?_|refine thn_normal ?_|refine thn_ret ?_|refine thn_exit ?_|refine blk_normal ?_|refine blk_ret ?_|refine blk_hit ?_|refine blk_miss rfl ?_|refine aw_block ?_|refine aw_ret ?_|refine aw_skip ?_|refine aw_exit ?_|refine w_nil ?_|refine x_nil (by kernel_rfl) ?_)|refine aw_region ?_|refine aw_region_draw (by kernel_rfl) ?_|refine aw_yes rfl ?_|refine aw_no rfl ?_|((with_reducible refine w_seq ?_);first|refine r_q tbOk rfl rfl rfl rfl ?_|refine r_e tbOk rfl rfl rfl rfl rfl ?_|refine r_yes tbOk rfl rfl rfl rfl rfl rfl ?_|refine w_no rfl rfl (lookO_spec rfl) rfl rfl rfl ?_|refine w_un rfl rfl (lookO_spec rfl) rfl rfl ?_)|((with_reducible refine w_drw ?_);first|refine rx_q tbOk rfl rfl rfl rfl ?_|refine rx_e tbOk rfl rfl rfl rfl rfl ?_|refine rx_yes tbOk rfl rfl rfl rfl rfl rfl ?_|refine x_no rfl rfl (lookO_spec rfl) rfl rfl rfl ?_|refine x_un rfl rfl (lookO_spec rfl) rfl rfl ?_)|((first|refine aw_ways rfl ?_ ?_|refine r_split rfl rfl rfl ?_ ?_) <;> intro hg_ <;> fail_if_success (exact Bool.noConfusion hg_)) <;> (try simp only [prn] at hg_) <;> (try first|contradiction|(exfalso;omega)))
    all_goals first
      | exact ret_D [(2000001, 103)] rfl (by (repeat' (first|exact trivial|refine subHR_cons rfl ?_ ?_|rfl))) (retD_bool rfl rfl rfl)
      | (exfalso; omega)
      | trace_state
set_option maxRecDepth 100000 in
set_option maxHeartbeats 4000000 in
theorem f_readMsNilZ (nil : Bool) (r : Int) :
    FnS Try.prog 90 [.one (.ptr 1000000000 0 0 0), .one (.r false (row nil 1 (rowsI [])))] [(1000000000, .var 28 [.r true (int r), Zc, Zc, Zc])] (.one (.r true (bool true))) [(1000000000, .var 28 [.r true (int r), Zc, Zc, Zc])] := by
  have hlen : (rowsI []).length = 0 := rfl
  refine fnS_of (l := [.tmp 4]) Try.func90 (by kernel_rfl) rfl Try.ntmps90 rfl rfl ?_; simp only [dEnv, Nat.reduceAdd]
  repeat' (first|(with_reducible first|refine aw_seq ?_|refine thn_normal ?_|refine thn_ret ?_|refine thn_exit ?_|refine blk_normal ?_|refine blk_ret ?_|refine blk_hit ?_|refine blk_miss rfl ?_|refine aw_block ?_|refine aw_ret ?_|refine aw_skip ?_|refine aw_exit ?_|refine w_nil ?_|refine x_nil (by kernel_rfl) ?_)|refine aw_region ?_|refine aw_region_draw (by kernel_rfl) ?_|refine aw_yes rfl ?_|refine aw_no rfl ?_|((with_reducible refine w_seq ?_);first|refine r_q tbOk rfl rfl rfl rfl ?_|refine r_e tbOk rfl rfl rfl rfl rfl ?_|refine r_yes tbOk rfl rfl rfl rfl rfl rfl ?_|refine w_no rfl rfl (lookO_spec rfl) rfl rfl rfl ?_|refine w_un rfl rfl (lookO_spec rfl) rfl rfl ?_)|((with_reducible refine w_drw ?_);first|refine rx_q tbOk rfl rfl rfl rfl ?_|refine rx_e tbOk rfl rfl rfl rfl rfl ?_|refine rx_yes tbOk rfl rfl rfl rfl rfl rfl ?_|refine x_no rfl rfl (lookO_spec rfl) rfl rfl rfl ?_|refine x_un rfl rfl (lookO_spec rfl) rfl rfl ?_)|((first|refine aw_ways rfl ?_ ?_|refine r_split rfl rfl rfl ?_ ?_) <;> intro hg_ <;> fail_if_success (exact Bool.noConfusion hg_)) <;> (try simp only [prn] at hg_) <;> (try first|contradiction|(exfalso;omega)))
  refine aw_loopI (fun y : Nat => y = 0) (fun y => mkS 42 [(11, .one (.r true (int (y : Int)))), (10, .one (.r true (int 0))), (9, .one (.r false (row nil 1 (rowsI [])))), (0, .one (.ptr 1000000000 0 0 0))] [(1000000000, .var 28 [.r true (int r), Zc, Zc, Zc])]) (fun y => y) 0 rfl (by (refine weak_ren [] rfl ?_ ?_ <;> repeat' (first|exact trivial|refine subR_cons rfl ?_ ?_|refine subHR_cons rfl ?_ ?_|rfl|(refine d_int ?_;(first|rfl|omega|(rw [IntWalk.i64_in _ (by omega)] <;> omega)|(simp;done)|(simp;omega)))|(refine d_bool ?_;(first|(simp_all;done)|(rw [Bool.eq_iff_iff];simp_all;done)|(rw [Bool.eq_iff_iff];simp_all;omega)|(rw [Bool.eq_iff_iff];simp;omega)))))) ?_
  rintro y rfl
  repeat' (first|(with_reducible first|refine aw_seq ?_|refine thn_normal ?_|refine thn_ret ?_|refine thn_exit ?_|refine blk_normal ?_|refine blk_ret ?_|refine blk_hit ?_|refine blk_miss rfl ?_|refine aw_block ?_|refine aw_ret ?_|refine aw_skip ?_|refine aw_exit ?_|refine w_nil ?_|refine x_nil (by kernel_rfl) ?_)|refine aw_region ?_|refine aw_region_draw (by kernel_rfl) ?_|refine aw_yes rfl ?_|refine aw_no rfl ?_|((with_reducible refine w_seq ?_);first|refine r_q tbOk rfl rfl rfl rfl ?_|refine r_e tbOk rfl rfl rfl rfl rfl ?_|refine r_yes tbOk rfl rfl rfl rfl rfl rfl ?_|refine w_no rfl rfl (lookO_spec rfl) rfl rfl rfl ?_|refine w_un rfl rfl (lookO_spec rfl) rfl rfl ?_)|((with_reducible refine w_drw ?_);first|refine rx_q tbOk rfl rfl rfl rfl ?_|refine rx_e tbOk rfl rfl rfl rfl rfl ?_|refine rx_yes tbOk rfl rfl rfl rfl rfl rfl ?_|refine x_no rfl rfl (lookO_spec rfl) rfl rfl rfl ?_|refine x_un rfl rfl (lookO_spec rfl) rfl rfl ?_)|((first|refine aw_ways rfl ?_ ?_|refine r_split rfl rfl rfl ?_ ?_) <;> intro hg_ <;> fail_if_success (exact Bool.noConfusion hg_)) <;> (try simp only [prn] at hg_) <;> (try first|contradiction|(exfalso;omega)))
  all_goals first
    | exact ret_D [] rfl (by (repeat' (first|exact trivial|refine subHR_cons rfl ?_ ?_|rfl))) (retD_bool rfl rfl rfl)
    | (exfalso; omega)
    | trace_state
set_option maxRecDepth 100000 in
set_option maxHeartbeats 8000000 in
theorem f_readMsNoO (nil : Bool) (bs : List (List Int)) (r : Int) (vs : List Int) (gs : List Bool) (hl : bs.length ≤ 2000) (hn : rdAll rdM1 bs = none) :
    FnS Try.prog 90 [.one (.ptr 1000000000 0 0 0), .one (.r false (row nil 1 (rowsI bs)))] [(1000000000, .var 28 [.r true (int r), .own 1000000001 0 vs.length 1, .own 1000000002 0 gs.length 1, Zc]), (1000000001, .sl 3 1 true (ints vs)), (1000000002, .sl 4 1 true (bools gs))] (.one (.r true (bool false))) [] := by
  have hlen := rowsI_len bs
  refine fnS_of (l := [.tmp 4]) Try.func90 (by kernel_rfl) rfl Try.ntmps90 rfl rfl ?_; simp only [dEnv, Nat.reduceAdd]
  repeat' (first|(with_reducible first|refine aw_seq ?_|refine thn_normal ?_|refine thn_ret ?_|refine thn_exit ?_|refine blk_normal ?_|refine blk_ret ?_|refine blk_hit ?_|refine blk_miss rfl ?_|refine aw_block ?_|refine aw_ret ?_|refine aw_skip ?_|refine aw_exit ?_|refine w_nil ?_|refine x_nil (by kernel_rfl) ?_)|refine aw_region ?_|refine aw_region_draw (by kernel_rfl) ?_|refine aw_yes rfl ?_|refine aw_no rfl ?_|((with_reducible refine w_seq ?_);first|refine r_q tbOk rfl rfl rfl rfl ?_|refine r_e tbOk rfl rfl rfl rfl rfl ?_|refine r_yes tbOk rfl rfl rfl rfl rfl rfl ?_|refine w_no rfl rfl (lookO_spec rfl) rfl rfl rfl ?_|refine w_un rfl rfl (lookO_spec rfl) rfl rfl ?_)|((with_reducible refine w_drw ?_);first|refine rx_q tbOk rfl rfl rfl rfl ?_|refine rx_e tbOk rfl rfl rfl rfl rfl ?_|refine rx_yes tbOk rfl rfl rfl rfl rfl rfl ?_|refine x_no rfl rfl (lookO_spec rfl) rfl rfl rfl ?_|refine x_un rfl rfl (lookO_spec rfl) rfl rfl ?_)|((first|refine aw_ways rfl ?_ ?_|refine r_split rfl rfl rfl ?_ ?_) <;> intro hg_ <;> fail_if_success (exact Bool.noConfusion hg_)) <;> (try simp only [prn] at hg_) <;> (try first|contradiction|(exfalso;omega)))
  obtain ⟨F, hF0, hF1⟩ : ∃ F : Nat × List E3 → St, (∀ k, F (k, []) = mkS 42 [(11, .one (.r true (int (k : Int)))), (10, .one (.r true (int (bs.length : Int)))), (9, .one (.r false (row nil 1 (rowsI bs)))), (0, .one (.ptr 1000000000 0 0 0))] [(1000000000, .var 28 [.r true (int r), .own 1000000001 0 vs.length 1, .own 1000000002 0 gs.length 1, Zc]), (1000000001, .sl 3 1 true (ints vs)), (1000000002, .sl 4 1 true (bools gs))]) ∧
      (∀ k l, l ≠ [] → F (k, l) = mkS 42 [(11, .one (.r true (int (k : Int)))), (10, .one (.r true (int (bs.length : Int)))), (9, .one (.r false (row nil 1 (rowsI bs)))), (0, .one (.ptr 1000000000 0 0 0))] [(1000000000, .var 28 [.r true (int r), .own 1000000001 0 vs.length 1, .own 1000000002 0 gs.length 1, .own 103 0 (l).length 3]), (1000000001, .sl 3 1 true (ints vs)), (1000000002, .sl 4 1 true (bools gs)), (103, .sl 95 3 true (edges (l)))]) := by
    refine ⟨fun y => if y.2.isEmpty then mkS 42 [(11, .one (.r true (int (y.1 : Int)))), (10, .one (.r true (int (bs.length : Int)))), (9, .one (.r false (row nil 1 (rowsI bs)))), (0, .one (.ptr 1000000000 0 0 0))] [(1000000000, .var 28 [.r true (int r), .own 1000000001 0 vs.length 1, .own 1000000002 0 gs.length 1, Zc]), (1000000001, .sl 3 1 true (ints vs)), (1000000002, .sl 4 1 true (bools gs))] else mkS 42 [(11, .one (.r true (int (y.1 : Int)))), (10, .one (.r true (int (bs.length : Int)))), (9, .one (.r false (row nil 1 (rowsI bs)))), (0, .one (.ptr 1000000000 0 0 0))] [(1000000000, .var 28 [.r true (int r), .own 1000000001 0 vs.length 1, .own 1000000002 0 gs.length 1, .own 103 0 (y.2).length 3]), (1000000001, .sl 3 1 true (ints vs)), (1000000002, .sl 4 1 true (bools gs)), (103, .sl 95 3 true (edges (y.2)))], fun k => rfl, fun k l h => ?_⟩
    cases l with
    | nil => exact absurd rfl h
    | cons v l => rfl
  refine aw_loopI (fun y : Nat × List E3 => y.1 ≤ bs.length ∧ y.2.length = y.1 ∧ rdAll rdM1 (bs.drop y.1) = none) F (fun y => bs.length - y.1) (0, []) ⟨Nat.zero_le _, rfl, hn⟩ (by
    rw [hF0]
    (refine weak_ren [] rfl ?_ ?_ <;> repeat' (first|exact trivial|refine subR_cons rfl ?_ ?_|refine subHR_cons rfl ?_ ?_|rfl|(refine d_int ?_;(first|rfl|omega|(rw [IntWalk.i64_in _ (by omega)] <;> omega)|(simp;done)|(simp;omega)))|(refine d_bool ?_;(first|(simp_all;done)|(rw [Bool.eq_iff_iff];simp_all;done)|(rw [Bool.eq_iff_iff];simp_all;omega)|(rw [Bool.eq_iff_iff];simp;omega)))|exact d_int (by rw [hlen])))) ?_
  rintro ⟨k, l⟩ ⟨hk, hkl, hE⟩
  dsimp only at hk hkl hE
  by_cases hlt : k < bs.length
  · have hx := rowsI_at hlt
    rw [rdAll_drop hlt] at hE
    have KN := f_numbersBehind false bs[k] 3 3 (by omega)
    have hform := rdM1_form bs[k]
    generalize bs[k] = b at *
    have hwk : IntKind.i64.wrap ((k : Int) + 1) = ((k + 1 : Nat) : Int) := by rw [IntWalk.i64_in _ (by omega)]; omega
    have hmi := (edges_len l).symm
    rcases hform with ⟨nn, ns, e1, e2⟩ | ⟨a, c, d, e1, e2⟩
    · rw [e1] at KN
      clear hE e2 e1
      have hx0 := hx
      have hx1 := hx
      have hx2 := hx
      by_cases hll : l = []
      · subst hll
        rw [hF0]
        clear hF0 hF1
        repeat' (first|(with_reducible first|refine aw_seq ?_|refine thn_normal ?_|refine thn_ret ?_|refine thn_exit ?_|refine blk_normal ?_|refine blk_ret ?_|refine blk_hit ?_|refine blk_miss rfl ?_|refine aw_block ?_|refine aw_ret ?_|refine aw_skip ?_|refine aw_exit ?_|refine w_nil ?_|refine x_nil (by kernel_rfl) ?_)|refine aw_region ?_|refine aw_region_draw (by kernel_rfl) ?_|refine aw_yes rfl ?_|refine aw_no rfl ?_|((with_reducible refine w_seq ?_);first|refine r_q tbOk rfl rfl rfl rfl ?_|refine r_e tbOk rfl rfl rfl rfl rfl ?_|refine r_yes tbOk rfl rfl rfl rfl rfl rfl ?_|refine w_no rfl rfl (lookO_spec rfl) rfl rfl rfl ?_|refine w_un rfl rfl (lookO_spec rfl) rfl rfl ?_)|((with_reducible refine w_drw ?_);first|refine rx_q tbOk rfl rfl rfl rfl ?_|refine rx_e tbOk rfl rfl rfl rfl rfl ?_|refine rx_yes tbOk rfl rfl rfl rfl rfl rfl ?_|refine x_no rfl rfl (lookO_spec rfl) rfl rfl rfl ?_|refine x_un rfl rfl (lookO_spec rfl) rfl rfl ?_)|((first|refine' w_q rfl rfl ?xa rfl ?_|refine' v_q rfl rfl ?xa rfl ?_|refine' w_yes rfl rfl (lookO_spec rfl) rfl ?xa rfl ?_|refine' v_yes rfl rfl (lookO_spec rfl) rfl ?xa rfl ?_);case xa => first|exact k_index tbOk rfl rfl rfl rfl (by omega) (by first|exact hx|exact hx0|exact hx1|exact hx2)|exact k_call KN rfl ⟨asA_r (evO_spec rfl), asA_r (evO_spec rfl), asA_r (evO_spec rfl), trivial⟩)|((first|refine aw_ways rfl ?_ ?_|refine r_split rfl rfl rfl ?_ ?_) <;> intro hg_ <;> fail_if_success (exact Bool.noConfusion hg_)) <;> (try simp only [prn] at hg_) <;> (try first|contradiction|(exfalso;omega)))
        all_goals first
          | exact ret_D [] rfl (by (repeat' (first|exact trivial|refine subHR_cons rfl ?_ ?_|rfl))) (retD_bool rfl rfl rfl)
          | (exfalso; omega)
          | trace_state
      · rw [hF1 _ _ hll]
        clear hF0 hF1
        repeat' (first|(with_reducible first|refine aw_seq ?_|refine thn_normal ?_|refine thn_ret ?_|refine thn_exit ?_|refine blk_normal ?_|refine blk_ret ?_|refine blk_hit ?_|refine blk_miss rfl ?_|refine aw_block ?_|refine aw_ret ?_|refine aw_skip ?_|refine aw_exit ?_|refine w_nil ?_|refine x_nil (by kernel_rfl) ?_)|refine aw_region ?_|refine aw_region_draw (by kernel_rfl) ?_|refine aw_yes rfl ?_|refine aw_no rfl ?_|((with_reducible refine w_seq ?_);first|refine r_q tbOk rfl rfl rfl rfl ?_|refine r_e tbOk rfl rfl rfl rfl rfl ?_|refine r_yes tbOk rfl rfl rfl rfl rfl rfl ?_|refine w_no rfl rfl (lookO_spec rfl) rfl rfl rfl ?_|refine w_un rfl rfl (lookO_spec rfl) rfl rfl ?_)|((with_reducible refine w_drw ?_);first|refine rx_q tbOk rfl rfl rfl rfl ?_|refine rx_e tbOk rfl rfl rfl rfl rfl ?_|refine rx_yes tbOk rfl rfl rfl rfl rfl rfl ?_|refine x_no rfl rfl (lookO_spec rfl) rfl rfl rfl ?_|refine x_un rfl rfl (lookO_spec rfl) rfl rfl ?_)|((first|refine' w_q rfl rfl ?xa rfl ?_|refine' v_q rfl rfl ?xa rfl ?_|refine' w_yes rfl rfl (lookO_spec rfl) rfl ?xa rfl ?_|refine' v_yes rfl rfl (lookO_spec rfl) rfl ?xa rfl ?_);case xa => first|exact k_index tbOk rfl rfl rfl rfl (by omega) (by first|exact hx|exact hx0|exact hx1|exact hx2)|exact k_call KN rfl ⟨asA_r (evO_spec rfl), asA_r (evO_spec rfl), asA_r (evO_spec rfl), trivial⟩)|((first|refine aw_ways rfl ?_ ?_|refine r_split rfl rfl rfl ?_ ?_) <;> intro hg_ <;> fail_if_success (exact Bool.noConfusion hg_)) <;> (try simp only [prn] at hg_) <;> (try first|contradiction|(exfalso;omega)))
        all_goals first
          | exact ret_D [] rfl (by (repeat' (first|exact trivial|refine subHR_cons rfl ?_ ?_|rfl))) (retD_bool rfl rfl rfl)
          | (exfalso; omega)
          | trace_state
    · rw [e1] at KN
      rw [e2] at hE
      have hx0 : (ints [a, c, d])[(0 : Int).toNat]? = some (iP a) := rfl
      have hx1 : (ints [a, c, d])[(1 : Int).toNat]? = some (iP c) := rfl
      have hx2 : (ints [a, c, d])[(2 : Int).toNat]? = some (iP d) := rfl
      have hE2 : rdAll rdM1 (bs.drop (k + 1)) = none := by
        cases h : rdAll rdM1 (bs.drop (k + 1)) with
        | none => rfl
        | some xs => rw [h] at hE; cases hE
      have hfin : ∀ s' : St, Weak s' (F (k + 1, l ++ [(a, c, d)])) → ∃ y' : Nat × List E3, (y'.1 ≤ bs.length ∧ y'.2.length = y'.1 ∧ rdAll rdM1 (bs.drop y'.1) = none) ∧ Weak s' (F y') ∧ bs.length - y'.1 < bs.length - k := fun s' h => ⟨(k + 1, l ++ [(a, c, d)]), ⟨by dsimp only; omega, by simp; omega, hE2⟩, h, by dsimp only; omega⟩
      have happ : edges (l ++ [(a, c, d)]) = edges l ++ [edgeP (a, c, d)] := by unfold edges; simp
      rw [hF1 _ _ (by simp), happ] at hfin
      clear hE hE2 e1 e2 happ
      by_cases hll : l = []
      · subst hll
        rw [hF0]
        clear hF0 hF1
        repeat' (first|(with_reducible first|refine aw_seq ?_|refine thn_normal ?_|refine thn_ret ?_|refine thn_exit ?_|refine blk_normal ?_|refine blk_ret ?_|refine blk_hit ?_|refine blk_miss rfl ?_|refine aw_block ?_|refine aw_ret ?_|refine aw_skip ?_|refine aw_exit ?_|refine w_nil ?_|refine x_nil (by kernel_rfl) ?_)|refine aw_region ?_|refine aw_region_draw (by kernel_rfl) ?_|refine aw_yes rfl ?_|refine aw_no rfl ?_|((with_reducible refine w_seq ?_);first|refine r_q tbOk rfl rfl rfl rfl ?_|refine r_e tbOk rfl rfl rfl rfl rfl ?_|refine r_yes tbOk rfl rfl rfl rfl rfl rfl ?_|refine w_no rfl rfl (lookO_spec rfl) rfl rfl rfl ?_|refine w_un rfl rfl (lookO_spec rfl) rfl rfl ?_)|((with_reducible refine w_drw ?_);first|refine rx_q tbOk rfl rfl rfl rfl ?_|refine rx_e tbOk rfl rfl rfl rfl rfl ?_|refine rx_yes tbOk rfl rfl rfl rfl rfl rfl ?_|refine x_no rfl rfl (lookO_spec rfl) rfl rfl rfl ?_|refine x_un rfl rfl (lookO_spec rfl) rfl rfl ?_)|((first|refine' w_q rfl rfl ?xa rfl ?_|refine' v_q rfl rfl ?xa rfl ?_|refine' w_yes rfl rfl (lookO_spec rfl) rfl ?xa rfl ?_|refine' v_yes rfl rfl (lookO_spec rfl) rfl ?xa rfl ?_);case xa => first|exact k_index tbOk rfl rfl rfl rfl (by omega) (by first|exact hx|exact hx0|exact hx1|exact hx2)|exact k_call KN rfl ⟨asA_r (evO_spec rfl), asA_r (evO_spec rfl), asA_r (evO_spec rfl), trivial⟩)|((first|refine' w_e rfl ?xa ?xb ?xc ?xe ?_|refine' v_e rfl ?xa ?xb ?xc ?xe ?_);(case xa => first|exact e_build [.tmp 36] tlOk rfl rfl rfl rfl rfl rfl (allN_one rfl) (by simp)|exact at_dst 38 rfl (e_append_nil tlOk rfl rfl rfl rfl rfl (slD_plain (slD_own (lookHO_spec rfl) rfl) (edge1_plain _ _ _)) (by simp) (by simp [maxLen]) (by simp)));(case xb => rfl);(case xc => rfl);(case xe => rfl);try dsimp only [P0.d, Res.d, List.map_cons, List.map_nil, List.set_cons_zero, List.set_cons_succ, Nat.reduceAdd])|((first|refine aw_ways rfl ?_ ?_|refine r_split rfl rfl rfl ?_ ?_) <;> intro hg_ <;> fail_if_success (exact Bool.noConfusion hg_)) <;> (try simp only [prn] at hg_) <;> (try first|contradiction|(exfalso;omega)))
        all_goals first
          | (refine hfin _ ?_
             (refine weak_ren [(103, 38)] rfl ?_ ?_ <;> repeat' (first|exact trivial|refine subR_cons rfl ?_ ?_|refine subHR_cons rfl ?_ ?_|rfl|(refine d_int ?_;(first|rfl|omega|(rw [IntWalk.i64_in _ (by omega)] <;> omega)|(simp;done)|(simp;omega)))|(refine d_bool ?_;(first|(simp_all;done)|(rw [Bool.eq_iff_iff];simp_all;done)|(rw [Bool.eq_iff_iff];simp_all;omega)|(rw [Bool.eq_iff_iff];simp;omega)))|exact d_int hwk|exact ob_sl rfl rfl|exact var4 rfl rfl rfl (cown (by simp only [List.length_append, List.length_cons, List.length_nil, edges_len])))))
          | (exfalso; omega)
          | trace_state
      · rw [hF1 _ _ hll]
        clear hF0 hF1
        repeat' (first|(with_reducible first|refine aw_seq ?_|refine thn_normal ?_|refine thn_ret ?_|refine thn_exit ?_|refine blk_normal ?_|refine blk_ret ?_|refine blk_hit ?_|refine blk_miss rfl ?_|refine aw_block ?_|refine aw_ret ?_|refine aw_skip ?_|refine aw_exit ?_|refine w_nil ?_|refine x_nil (by kernel_rfl) ?_)|refine aw_region ?_|refine aw_region_draw (by kernel_rfl) ?_|refine aw_yes rfl ?_|refine aw_no rfl ?_|((with_reducible refine w_seq ?_);first|refine r_q tbOk rfl rfl rfl rfl ?_|refine r_e tbOk rfl rfl rfl rfl rfl ?_|refine r_yes tbOk rfl rfl rfl rfl rfl rfl ?_|refine w_no rfl rfl (lookO_spec rfl) rfl rfl rfl ?_|refine w_un rfl rfl (lookO_spec rfl) rfl rfl ?_)|((with_reducible refine w_drw ?_);first|refine rx_q tbOk rfl rfl rfl rfl ?_|refine rx_e tbOk rfl rfl rfl rfl rfl ?_|refine rx_yes tbOk rfl rfl rfl rfl rfl rfl ?_|refine x_no rfl rfl (lookO_spec rfl) rfl rfl rfl ?_|refine x_un rfl rfl (lookO_spec rfl) rfl rfl ?_)|((first|refine' w_q rfl rfl ?xa rfl ?_|refine' v_q rfl rfl ?xa rfl ?_|refine' w_yes rfl rfl (lookO_spec rfl) rfl ?xa rfl ?_|refine' v_yes rfl rfl (lookO_spec rfl) rfl ?xa rfl ?_);case xa => first|exact k_index tbOk rfl rfl rfl rfl (by omega) (by first|exact hx|exact hx0|exact hx1|exact hx2)|exact k_call KN rfl ⟨asA_r (evO_spec rfl), asA_r (evO_spec rfl), asA_r (evO_spec rfl), trivial⟩)|((first|refine' w_e rfl ?xa ?xb ?xc ?xe ?_|refine' v_e rfl ?xa ?xb ?xc ?xe ?_);(case xa => first|exact e_build [.tmp 36] tlOk rfl rfl rfl rfl rfl rfl (allN_one rfl) (by simp)|exact at_dst 38 rfl (e_append tlOk rfl rfl rfl rfl rfl rfl (slD_plain (slD_own (lookHO_spec rfl) rfl) (edge1_plain _ _ _)) hmi (by simp only [maxLen, List.length_cons, List.length_nil];omega) (by simp only [List.length_cons, List.length_nil];omega)));(case xb => rfl);(case xc => rfl);(case xe => rfl);try dsimp only [P0.d, Res.d, List.map_cons, List.map_nil, List.set_cons_zero, List.set_cons_succ, Nat.reduceAdd])|((first|refine aw_ways rfl ?_ ?_|refine r_split rfl rfl rfl ?_ ?_) <;> intro hg_ <;> fail_if_success (exact Bool.noConfusion hg_)) <;> (try simp only [prn] at hg_) <;> (try first|contradiction|(exfalso;omega)))
        all_goals first
          | (refine hfin _ ?_
             (refine weak_ren [(103, 38)] rfl ?_ ?_ <;> repeat' (first|exact trivial|refine subR_cons rfl ?_ ?_|refine subHR_cons rfl ?_ ?_|rfl|(refine d_int ?_;(first|rfl|omega|(rw [IntWalk.i64_in _ (by omega)] <;> omega)|(simp;done)|(simp;omega)))|(refine d_bool ?_;(first|(simp_all;done)|(rw [Bool.eq_iff_iff];simp_all;done)|(rw [Bool.eq_iff_iff];simp_all;omega)|(rw [Bool.eq_iff_iff];simp;omega)))|exact d_int hwk|exact ob_sl rfl rfl|exact var4 rfl rfl rfl (cown (by simp only [List.length_append, List.length_cons, List.length_nil, edges_len])))))
          | (exfalso; omega)
          | trace_state
  · exfalso
    rw [List.drop_of_length_le (by omega)] at hE
    cases hE
set_option maxRecDepth 100000 in
set_option maxHeartbeats 8000000 in
theorem f_readMsYesO (nil : Bool) (bs : List (List Int)) (r : Int) (vs : List Int) (gs : List Bool) (hl : bs.length ≤ 2000) (L : List E3) (hn : rdAll rdM1 bs = some L) (hLn : L ≠ []) :
    FnS Try.prog 90 [.one (.ptr 1000000000 0 0 0), .one (.r false (row nil 1 (rowsI bs)))] [(1000000000, .var 28 [.r true (int r), .own 1000000001 0 vs.length 1, .own 1000000002 0 gs.length 1, Zc]), (1000000001, .sl 3 1 true (ints vs)), (1000000002, .sl 4 1 true (bools gs))] (.one (.r true (bool true))) [(1000000000, .var 28 [.r true (int r), .own 1000000001 0 vs.length 1, .own 1000000002 0 gs.length 1, .own 2000001 0 (L).length 3]), (1000000001, .sl 3 1 true (ints vs)), (1000000002, .sl 4 1 true (bools gs)), (2000001, .sl 95 3 true (edges (L)))] := by
  have hlen := rowsI_len bs
  refine fnS_of (l := [.tmp 4]) Try.func90 (by kernel_rfl) rfl Try.ntmps90 rfl rfl ?_; simp only [dEnv, Nat.reduceAdd]
  repeat' (first|(with_reducible first|refine aw_seq ?_|refine thn_normal ?_|refine thn_ret ?_|refine thn_exit ?_|refine blk_normal ?_|refine blk_ret ?_|refine blk_hit ?_|refine blk_miss rfl ?_|refine aw_block ?_|refine aw_ret ?_|refine aw_skip ?_|refine aw_exit ?_|refine w_nil ?_|refine x_nil (by kernel_rfl) ?_)|refine aw_region ?_|refine aw_region_draw (by kernel_rfl) ?_|refine aw_yes rfl ?_|refine aw_no rfl ?_|((with_reducible refine w_seq ?_);first|refine r_q tbOk rfl rfl rfl rfl ?_|refine r_e tbOk rfl rfl rfl rfl rfl ?_|refine r_yes tbOk rfl rfl rfl rfl rfl rfl ?_|refine w_no rfl rfl (lookO_spec rfl) rfl rfl rfl ?_|refine w_un rfl rfl (lookO_spec rfl) rfl rfl ?_)|((with_reducible refine w_drw ?_);first|refine rx_q tbOk rfl rfl rfl rfl ?_|refine rx_e tbOk rfl rfl rfl rfl rfl ?_|refine rx_yes tbOk rfl rfl rfl rfl rfl rfl ?_|refine x_no rfl rfl (lookO_spec rfl) rfl rfl rfl ?_|refine x_un rfl rfl (lookO_spec rfl) rfl rfl ?_)|((first|refine aw_ways rfl ?_ ?_|refine r_split rfl rfl rfl ?_ ?_) <;> intro hg_ <;> fail_if_success (exact Bool.noConfusion hg_)) <;> (try simp only [prn] at hg_) <;> (try first|contradiction|(exfalso;omega)))
  obtain ⟨F, hF0, hF1⟩ : ∃ F : Nat × List E3 → St, (∀ k, F (k, []) = mkS 42 [(11, .one (.r true (int (k : Int)))), (10, .one (.r true (int (bs.length : Int)))), (9, .one (.r false (row nil 1 (rowsI bs)))), (0, .one (.ptr 1000000000 0 0 0))] [(1000000000, .var 28 [.r true (int r), .own 1000000001 0 vs.length 1, .own 1000000002 0 gs.length 1, Zc]), (1000000001, .sl 3 1 true (ints vs)), (1000000002, .sl 4 1 true (bools gs))]) ∧
      (∀ k l, l ≠ [] → F (k, l) = mkS 42 [(11, .one (.r true (int (k : Int)))), (10, .one (.r true (int (bs.length : Int)))), (9, .one (.r false (row nil 1 (rowsI bs)))), (0, .one (.ptr 1000000000 0 0 0))] [(1000000000, .var 28 [.r true (int r), .own 1000000001 0 vs.length 1, .own 1000000002 0 gs.length 1, .own 103 0 (l).length 3]), (1000000001, .sl 3 1 true (ints vs)), (1000000002, .sl 4 1 true (bools gs)), (103, .sl 95 3 true (edges (l)))]) := by
    refine ⟨fun y => if y.2.isEmpty then mkS 42 [(11, .one (.r true (int (y.1 : Int)))), (10, .one (.r true (int (bs.length : Int)))), (9, .one (.r false (row nil 1 (rowsI bs)))), (0, .one (.ptr 1000000000 0 0 0))] [(1000000000, .var 28 [.r true (int r), .own 1000000001 0 vs.length 1, .own 1000000002 0 gs.length 1, Zc]), (1000000001, .sl 3 1 true (ints vs)), (1000000002, .sl 4 1 true (bools gs))] else mkS 42 [(11, .one (.r true (int (y.1 : Int)))), (10, .one (.r true (int (bs.length : Int)))), (9, .one (.r false (row nil 1 (rowsI bs)))), (0, .one (.ptr 1000000000 0 0 0))] [(1000000000, .var 28 [.r true (int r), .own 1000000001 0 vs.length 1, .own 1000000002 0 gs.length 1, .own 103 0 (y.2).length 3]), (1000000001, .sl 3 1 true (ints vs)), (1000000002, .sl 4 1 true (bools gs)), (103, .sl 95 3 true (edges (y.2)))], fun k => rfl, fun k l h => ?_⟩
    cases l with
    | nil => exact absurd rfl h
    | cons v l => rfl
  refine aw_loopI (fun y : Nat × List E3 => y.1 ≤ bs.length ∧ y.2.length = y.1 ∧ ∃ xs, rdAll rdM1 (bs.drop y.1) = some xs ∧ y.2 ++ xs = L) F (fun y => bs.length - y.1) (0, []) ⟨Nat.zero_le _, rfl, L, hn, rfl⟩ (by
    rw [hF0]
    (refine weak_ren [] rfl ?_ ?_ <;> repeat' (first|exact trivial|refine subR_cons rfl ?_ ?_|refine subHR_cons rfl ?_ ?_|rfl|(refine d_int ?_;(first|rfl|omega|(rw [IntWalk.i64_in _ (by omega)] <;> omega)|(simp;done)|(simp;omega)))|(refine d_bool ?_;(first|(simp_all;done)|(rw [Bool.eq_iff_iff];simp_all;done)|(rw [Bool.eq_iff_iff];simp_all;omega)|(rw [Bool.eq_iff_iff];simp;omega)))|exact d_int (by rw [hlen])))) ?_
  rintro ⟨k, l⟩ ⟨hk, hkl, xs, hE, hxs⟩
  dsimp only at hk hkl hE hxs
  by_cases hlt : k < bs.length
  · have hx := rowsI_at hlt
    rw [rdAll_drop hlt] at hE
    have KN := f_numbersBehind false bs[k] 3 3 (by omega)
    have hform := rdM1_form bs[k]
    generalize bs[k] = b at *
    have hwk : IntKind.i64.wrap ((k : Int) + 1) = ((k + 1 : Nat) : Int) := by rw [IntWalk.i64_in _ (by omega)]; omega
    have hmi := (edges_len l).symm
    rcases hform with ⟨nn, ns, e1, e2⟩ | ⟨a, c, d, e1, e2⟩
    · rw [e2] at hE
      cases hE
    · rw [e1] at KN
      rw [e2] at hE
      have hx0 : (ints [a, c, d])[(0 : Int).toNat]? = some (iP a) := rfl
      have hx1 : (ints [a, c, d])[(1 : Int).toNat]? = some (iP c) := rfl
      have hx2 : (ints [a, c, d])[(2 : Int).toNat]? = some (iP d) := rfl
      have hE2 : ∃ ys, rdAll rdM1 (bs.drop (k + 1)) = some ys ∧ (l ++ [(a, c, d)]) ++ ys = L := by
        cases h : rdAll rdM1 (bs.drop (k + 1)) with
        | none => rw [h] at hE; cases hE
        | some ys =>
          rw [h] at hE
          injection hE with hE
          exact ⟨ys, rfl, by rw [← hxs, ← hE]; simp⟩
      have hfin : ∀ s' : St, Weak s' (F (k + 1, l ++ [(a, c, d)])) → ∃ y' : Nat × List E3, (y'.1 ≤ bs.length ∧ y'.2.length = y'.1 ∧ ∃ xs, rdAll rdM1 (bs.drop y'.1) = some xs ∧ y'.2 ++ xs = L) ∧ Weak s' (F y') ∧ bs.length - y'.1 < bs.length - k := fun s' h => ⟨(k + 1, l ++ [(a, c, d)]), ⟨by dsimp only; omega, by simp; omega, hE2⟩, h, by dsimp only; omega⟩
      have happ : edges (l ++ [(a, c, d)]) = edges l ++ [edgeP (a, c, d)] := by unfold edges; simp
      rw [hF1 _ _ (by simp), happ] at hfin
      clear hE hE2 e1 e2 happ
      by_cases hll : l = []
      · subst hll
        rw [hF0]
        clear hF0 hF1
        repeat' (first|(with_reducible first|refine aw_seq ?_|refine thn_normal ?_|refine thn_ret ?_|refine thn_exit ?_|refine blk_normal ?_|refine blk_ret ?_|refine blk_hit ?_|refine blk_miss rfl ?_|refine aw_block ?_|refine aw_ret ?_|refine aw_skip ?_|refine aw_exit ?_|refine w_nil ?_|refine x_nil (by kernel_rfl) ?_)|refine aw_region ?_|refine aw_region_draw (by kernel_rfl) ?_|refine aw_yes rfl ?_|refine aw_no rfl ?_|((with_reducible refine w_seq ?_);first|refine r_q tbOk rfl rfl rfl rfl ?_|refine r_e tbOk rfl rfl rfl rfl rfl ?_|refine r_yes tbOk rfl rfl rfl rfl rfl rfl ?_|refine w_no rfl rfl (lookO_spec rfl) rfl rfl rfl ?_|refine w_un rfl rfl (lookO_spec rfl) rfl rfl ?_)|((with_reducible refine w_drw ?_);first|refine rx_q tbOk rfl rfl rfl rfl ?_|refine rx_e tbOk rfl rfl rfl rfl rfl ?_|refine rx_yes tbOk rfl rfl rfl rfl rfl rfl ?_|refine x_no rfl rfl (lookO_spec rfl) rfl rfl rfl ?_|refine x_un rfl rfl (lookO_spec rfl) rfl rfl ?_)|((first|refine' w_q rfl rfl ?xa rfl ?_|refine' v_q rfl rfl ?xa rfl ?_|refine' w_yes rfl rfl (lookO_spec rfl) rfl ?xa rfl ?_|refine' v_yes rfl rfl (lookO_spec rfl) rfl ?xa rfl ?_);case xa => first|exact k_index tbOk rfl rfl rfl rfl (by omega) (by first|exact hx|exact hx0|exact hx1|exact hx2)|exact k_call KN rfl ⟨asA_r (evO_spec rfl), asA_r (evO_spec rfl), asA_r (evO_spec rfl), trivial⟩)|((first|refine' w_e rfl ?xa ?xb ?xc ?xe ?_|refine' v_e rfl ?xa ?xb ?xc ?xe ?_);(case xa => first|exact e_build [.tmp 36] tlOk rfl rfl rfl rfl rfl rfl (allN_one rfl) (by simp)|exact at_dst 38 rfl (e_append_nil tlOk rfl rfl rfl rfl rfl (slD_plain (slD_own (lookHO_spec rfl) rfl) (edge1_plain _ _ _)) (by simp) (by simp [maxLen]) (by simp)));(case xb => rfl);(case xc => rfl);(case xe => rfl);try dsimp only [P0.d, Res.d, List.map_cons, List.map_nil, List.set_cons_zero, List.set_cons_succ, Nat.reduceAdd])|((first|refine aw_ways rfl ?_ ?_|refine r_split rfl rfl rfl ?_ ?_) <;> intro hg_ <;> fail_if_success (exact Bool.noConfusion hg_)) <;> (try simp only [prn] at hg_) <;> (try first|contradiction|(exfalso;omega)))
        all_goals first
          | (refine hfin _ ?_
             (refine weak_ren [(103, 38)] rfl ?_ ?_ <;> repeat' (first|exact trivial|refine subR_cons rfl ?_ ?_|refine subHR_cons rfl ?_ ?_|rfl|(refine d_int ?_;(first|rfl|omega|(rw [IntWalk.i64_in _ (by omega)] <;> omega)|(simp;done)|(simp;omega)))|(refine d_bool ?_;(first|(simp_all;done)|(rw [Bool.eq_iff_iff];simp_all;done)|(rw [Bool.eq_iff_iff];simp_all;omega)|(rw [Bool.eq_iff_iff];simp;omega)))|exact d_int hwk|exact ob_sl rfl rfl|exact var4 rfl rfl rfl (cown (by simp only [List.length_append, List.length_cons, List.length_nil, edges_len])))))
          | (exfalso; omega)
          | trace_state
      · rw [hF1 _ _ hll]
        clear hF0 hF1
        repeat' (first|(with_reducible first|refine aw_seq ?_|refine thn_normal ?_|refine thn_ret ?_|refine thn_exit ?_|refine blk_normal ?_|refine blk_ret ?_|refine blk_hit ?_|refine blk_miss rfl ?_|refine aw_block ?_|refine aw_ret ?_|refine aw_skip ?_|refine aw_exit ?_|refine w_nil ?_|refine x_nil (by kernel_rfl) ?_)|refine aw_region ?_|refine aw_region_draw (by kernel_rfl) ?_|refine aw_yes rfl ?_|refine aw_no rfl ?_|((with_reducible refine w_seq ?_);first|refine r_q tbOk rfl rfl rfl rfl ?_|refine r_e tbOk rfl rfl rfl rfl rfl ?_|refine r_yes tbOk rfl rfl rfl rfl rfl rfl ?_|refine w_no rfl rfl (lookO_spec rfl) rfl rfl rfl ?_|refine w_un rfl rfl (lookO_spec rfl) rfl rfl ?_)|((with_reducible refine w_drw ?_);first|refine rx_q tbOk rfl rfl rfl rfl ?_|refine rx_e tbOk rfl rfl rfl rfl rfl ?_|refine rx_yes tbOk rfl rfl rfl rfl rfl rfl ?_|refine x_no rfl rfl (lookO_spec rfl) rfl rfl rfl ?_|refine x_un rfl rfl (lookO_spec rfl) rfl rfl ?_)|((first|refine' w_q rfl rfl ?xa rfl ?_|refine' v_q rfl rfl ?xa rfl ?_|refine' w_yes rfl rfl (lookO_spec rfl) rfl ?xa rfl ?_|refine' v_yes rfl rfl (lookO_spec rfl) rfl ?xa rfl ?_);case xa => first|exact k_index tbOk rfl rfl rfl rfl (by omega) (by first|exact hx|exact hx0|exact hx1|exact hx2)|exact k_call KN rfl ⟨asA_r (evO_spec rfl), asA_r (evO_spec rfl), asA_r (evO_spec rfl), trivial⟩)|((first|refine' w_e rfl ?xa ?xb ?xc ?xe ?_|refine' v_e rfl ?xa ?xb ?xc ?xe ?_);(case xa => first|exact e_build [.tmp 36] tlOk rfl rfl rfl rfl rfl rfl (allN_one rfl) (by simp)|exact at_dst 38 rfl (e_append tlOk rfl rfl rfl rfl rfl rfl (slD_plain (slD_own (lookHO_spec rfl) rfl) (edge1_plain _ _ _)) hmi (by simp only [maxLen, List.length_cons, List.length_nil];omega) (by simp only [List.length_cons, List.length_nil];omega)));(case xb => rfl);(case xc => rfl);(case xe => rfl);try dsimp only [P0.d, Res.d, List.map_cons, List.map_nil, List.set_cons_zero, List.set_cons_succ, Nat.reduceAdd])|((first|refine aw_ways rfl ?_ ?_|refine r_split rfl rfl rfl ?_ ?_) <;> intro hg_ <;> fail_if_success (exact Bool.noConfusion hg_)) <;> (try simp only [prn] at hg_) <;> (try first|contradiction|(exfalso;omega)))
        all_goals first
          | (refine hfin _ ?_
             (refine weak_ren [(103, 38)] rfl ?_ ?_ <;> repeat' (first|exact trivial|refine subR_cons rfl ?_ ?_|refine subHR_cons rfl ?_ ?_|rfl|(refine d_int ?_;(first|rfl|omega|(rw [IntWalk.i64_in _ (by omega)] <;> omega)|(simp;done)|(simp;omega)))|(refine d_bool ?_;(first|(simp_all;done)|(rw [Bool.eq_iff_iff];simp_all;done)|(rw [Bool.eq_iff_iff];simp_all;omega)|(rw [Bool.eq_iff_iff];simp;omega)))|exact d_int hwk|exact ob_sl rfl rfl|exact var4 rfl rfl rfl (cown (by simp only [List.length_append, List.length_cons, List.length_nil, edges_len])))))
          | (exfalso; omega)
          | trace_state
  · rw [List.drop_of_length_le (by omega), rdAll] at hE
    injection hE with hE
    rw [← hE, List.append_nil] at hxs
    subst hxs
    rw [hF1 _ _ hLn]
    clear hF0 hF1
    repeat' (first|(with_reducible first|refine aw_seq ?_|refine thn_normal ?_|refine thn_ret ?_|refine thn_exit ?_|refine blk_normal ?_|refine blk_ret ?_|refine blk_hit ?_|refine blk_miss rfl ?_|refine aw_block ?_|refine aw_ret ?_|refine aw_skip ?_|refine aw_exit ?_|refine w_nil ?_|refine x_nil (by kernel_rfl) ?_)|refine aw_region ?_|refine aw_region_draw (by kernel_rfl) ?_|refine aw_yes rfl ?_|refine aw_no rfl ?_|((with_reducible refine w_seq ?_);first|refine r_q tbOk rfl rfl rfl rfl ?_|refine r_e tbOk rfl rfl rfl rfl rfl ?_|refine r_yes tbOk rfl rfl rfl rfl rfl rfl ?_|refine w_no rfl rfl (lookO_spec rfl) rfl rfl rfl ?_|refine w_un rfl rfl (lookO_spec rfl) rfl rfl ?_)|((with_reducible refine w_drw ?_);first|refine rx_q tbOk rfl rfl rfl rfl ?_|refine rx_e tbOk rfl rfl rfl rfl rfl ?_|refine rx_yes tbOk rfl rfl rfl rfl rfl rfl ?_|refine x_no rfl rfl (lookO_spec rfl) rfl rfl rfl ?_|refine x_un rfl rfl (lookO_spec rfl) rfl rfl ?_)|((first|refine aw_ways rfl ?_ ?_|refine r_split rfl rfl rfl ?_ ?_) <;> intro hg_ <;> fail_if_success (exact Bool.noConfusion hg_)) <;> (try simp only [prn] at hg_) <;> (try first|contradiction|(exfalso;omega)))
    all_goals first
      | exact ret_D [(2000001, 103)] rfl (by (repeat' (first|exact trivial|refine subHR_cons rfl ?_ ?_|rfl))) (retD_bool rfl rfl rfl)
      | (exfalso; omega)
      | trace_state
set_option maxRecDepth 100000 in
set_option maxHeartbeats 4000000 in
theorem f_readMsNilO (nil : Bool) (r : Int) (vs : List Int) (gs : List Bool) :
    FnS Try.prog 90 [.one (.ptr 1000000000 0 0 0), .one (.r false (row nil 1 (rowsI [])))] [(1000000000, .var 28 [.r true (int r), .own 1000000001 0 vs.length 1, .own 1000000002 0 gs.length 1, Zc]), (1000000001, .sl 3 1 true (ints vs)), (1000000002, .sl 4 1 true (bools gs))] (.one (.r true (bool true))) [(1000000000, .var 28 [.r true (int r), .own 1000000001 0 vs.length 1, .own 1000000002 0 gs.length 1, Zc]), (1000000001, .sl 3 1 true (ints vs)), (1000000002, .sl 4 1 true (bools gs))] := by
  have hlen : (rowsI []).length = 0 := rfl
  refine fnS_of (l := [.tmp 4]) Try.func90 (by kernel_rfl) rfl Try.ntmps90 rfl rfl ?_; simp only [dEnv, Nat.reduceAdd]
  repeat' (first|(with_reducible first|refine aw_seq ?_|refine thn_normal ?_|refine thn_ret ?_|refine thn_exit ?_|refine blk_normal ?_|refine blk_ret ?_|refine blk_hit ?_|refine blk_miss rfl ?_|refine aw_block ?_|refine aw_ret ?_|refine aw_skip ?_|refine aw_exit ?_|refine w_nil ?_|refine x_nil (by kernel_rfl) ?_)|refine aw_region ?_|refine aw_region_draw (by kernel_rfl) ?_|refine aw_yes rfl ?_|refine aw_no rfl ?_|((with_reducible refine w_seq ?_);first|refine r_q tbOk rfl rfl rfl rfl ?_|refine r_e tbOk rfl rfl rfl rfl rfl ?_|refine r_yes tbOk rfl rfl rfl rfl rfl rfl ?_|refine w_no rfl rfl (lookO_spec rfl) rfl rfl rfl ?_|refine w_un rfl rfl (lookO_spec rfl) rfl rfl ?_)|((with_reducible refine w_drw ?_);first|refine rx_q tbOk rfl rfl rfl rfl ?_|refine rx_e tbOk rfl rfl rfl rfl rfl ?_|refine rx_yes tbOk rfl rfl rfl rfl rfl rfl ?_|refine x_no rfl rfl (lookO_spec rfl) rfl rfl rfl ?_|refine x_un rfl rfl (lookO_spec rfl) rfl rfl ?_)|((first|refine aw_ways rfl ?_ ?_|refine r_split rfl rfl rfl ?_ ?_) <;> intro hg_ <;> fail_if_success (exact Bool.noConfusion hg_)) <;> (try simp only [prn] at hg_) <;> (try first|contradiction|(exfalso;omega)))
  refine aw_loopI (fun y : Nat => y = 0) (fun y => mkS 42 [(11, .one (.r true (int (y : Int)))), (10, .one (.r true (int 0))), (9, .one (.r false (row nil 1 (rowsI [])))), (0, .one (.ptr 1000000000 0 0 0))] [(1000000000, .var 28 [.r true (int r), .own 1000000001 0 vs.length 1, .own 1000000002 0 gs.length 1, Zc]), (1000000001, .sl 3 1 true (ints vs)), (1000000002, .sl 4 1 true (bools gs))]) (fun y => y) 0 rfl (by (refine weak_ren [] rfl ?_ ?_ <;> repeat' (first|exact trivial|refine subR_cons rfl ?_ ?_|refine subHR_cons rfl ?_ ?_|rfl|(refine d_int ?_;(first|rfl|omega|(rw [IntWalk.i64_in _ (by omega)] <;> omega)|(simp;done)|(simp;omega)))|(refine d_bool ?_;(first|(simp_all;done)|(rw [Bool.eq_iff_iff];simp_all;done)|(rw [Bool.eq_iff_iff];simp_all;omega)|(rw [Bool.eq_iff_iff];simp;omega)))))) ?_
  rintro y rfl
  repeat' (first|(with_reducible first|refine aw_seq ?_|refine thn_normal ?_|refine thn_ret ?_|refine thn_exit ?_|refine blk_normal ?_|refine blk_ret ?_|refine blk_hit ?_|refine blk_miss rfl ?_|refine aw_block ?_|refine aw_ret ?_|refine aw_skip ?_|refine aw_exit ?_|refine w_nil ?_|refine x_nil (by kernel_rfl) ?_)|refine aw_region ?_|refine aw_region_draw (by kernel_rfl) ?_|refine aw_yes rfl ?_|refine aw_no rfl ?_|((with_reducible refine w_seq ?_);first|refine r_q tbOk rfl rfl rfl rfl ?_|refine r_e tbOk rfl rfl rfl rfl rfl ?_|refine r_yes tbOk rfl rfl rfl rfl rfl rfl ?_|refine w_no rfl rfl (lookO_spec rfl) rfl rfl rfl ?_|refine w_un rfl rfl (lookO_spec rfl) rfl rfl ?_)|((with_reducible refine w_drw ?_);first|refine rx_q tbOk rfl rfl rfl rfl ?_|refine rx_e tbOk rfl rfl rfl rfl rfl ?_|refine rx_yes tbOk rfl rfl rfl rfl rfl rfl ?_|refine x_no rfl rfl (lookO_spec rfl) rfl rfl rfl ?_|refine x_un rfl rfl (lookO_spec rfl) rfl rfl ?_)|((first|refine aw_ways rfl ?_ ?_|refine r_split rfl rfl rfl ?_ ?_) <;> intro hg_ <;> fail_if_success (exact Bool.noConfusion hg_)) <;> (try simp only [prn] at hg_) <;> (try first|contradiction|(exfalso;omega)))
  all_goals first
    | exact ret_D [] rfl (by (repeat' (first|exact trivial|refine subHR_cons rfl ?_ ?_|rfl))) (retD_bool rfl rfl rfl)
    | (exfalso; omega)
    | trace_state
end Go.Proofs.Ytmkecjamfippfaa.Abs
set_option linter.unusedSimpArgs false
set_option linter.unusedVariables false
namespace Go.Proofs.Ytmkecjamfippfaa.Abs
open Go.RowKit
open R (val row ref)
theorem rdAll_len {α : Type} {f : List Int → Option α} : ∀ {bs : List (List Int)} {xs : List α}, rdAll f bs = some xs → xs.length = bs.length
  | [], xs, h => by rw [rdAll] at h; injection h with h; rw [← h]; rfl
  | b :: bs, xs, h => by
    rw [rdAll] at h
    cases hb : f b with
    | none => rw [hb] at h; cases h
    | some x =>
      rw [hb] at h
      cases hr : rdAll f bs with
      | none => rw [hr] at h; cases h
      | some ys =>
        rw [hr] at h
        injection h with h
        rw [← h, List.length_cons, List.length_cons, rdAll_len hr]
theorem b01_enc {g : Int} (h0 : 0 ≤ g) (h1 : g ≤ 1) : enc g = [b01 (g == 1)] := by
  rw [enc_last h0 (by omega)]
  unfold b01
  by_cases h : g = 1
  · subst h; rfl
  · have : g = 0 := by omega
    subst this; rfl
theorem rdV1_rcV {b : List Int} {v : Int} {g : Bool} (h : rdV1 b = some (v, g)) : b = rcV v g := by
  unfold rdV1 at h
  rcases hn : nbF 2 2 b with ⟨o, q⟩
  rw [hn] at h
  cases o with
  | none => cases h
  | some ns =>
    match ns, nbF_len hn with
    | [a, c], _ =>
      cases q
      · cases h
      · dsimp only at h
        obtain ⟨e1, e2, e3⟩ := nbF_yes hn
        split at h
        · rename_i hc
          injection h with h
          injection h with h1 h2
          rw [e1, ← h1, ← h2]
          unfold rcV
          rw [show a - 1 + 1 = a by omega]
          have := (e3 c (by simp)).1
          simp [b01_enc this hc]
        · cases h
theorem rcV_rdV1 {v : Int} {g : Bool} (h0 : -1 ≤ v) (h1 : v ≤ 999999) : rdV1 (rcV v g) = some (v, g) := by
  have hg : 0 ≤ b01 g ∧ b01 g ≤ 1 := by unfold b01; split <;> omega
  have e : rcV v g = 2 :: [v + 1, b01 g].flatMap enc := by
    unfold rcV
    have := b01_enc hg.1 hg.2
    have h2 : b01 (b01 g == 1) = b01 g := by cases g <;> rfl
    simp [this, h2]
  have hN := nbF_enc (tag := 2) (ns := [v + 1, b01 g]) (by omega) (by simp) (fun n hn => by
    simp only [List.mem_cons, List.not_mem_nil, or_false] at hn
    rcases hn with rfl | rfl <;> omega)
  unfold rdV1
  rw [e]
  rw [show [v + 1, b01 g].length = 2 from rfl] at hN
  rw [hN]
  dsimp only
  rw [if_pos hg.2, show v + 1 - 1 = v by omega]
  cases g <;> rfl
theorem rdM1_rcM {b : List Int} {e : E3} (h : rdM1 b = some e) : b = rcM e := by
  unfold rdM1 at h
  rcases hn : nbF 3 3 b with ⟨o, q⟩
  rw [hn] at h
  cases o with
  | none => cases h
  | some ns =>
    match ns, nbF_len hn with
    | [a, c, d], _ =>
      cases q
      · cases h
      · dsimp only at h
        obtain ⟨e1, e2, e3⟩ := nbF_yes hn
        injection h with h
        rw [e1, ← h]
        unfold rcM edgeB
        have h1 := e3 a (by simp)
        have h2 := e3 c (by simp)
        have h3 := e3 d (by simp)
        rw [if_pos (by simp [fits, h1, h2, h3])]
        simp
theorem rcM_rdM1 {m : E3} (h1 : 0 ≤ m.1 ∧ m.1 ≤ 1000000) (h2 : 0 ≤ m.2.1 ∧ m.2.1 ≤ 1000000) (h3 : 0 ≤ m.2.2 ∧ m.2.2 ≤ 1000000) : rdM1 (rcM m) = some m := by
  obtain ⟨a, c, d⟩ := m
  dsimp only at h1 h2 h3
  have e : rcM (a, c, d) = 3 :: [a, c, d].flatMap enc := by
    unfold rcM edgeB
    rw [if_pos (by simp [fits, h1, h2, h3])]
    simp
  have hN := nbF_enc (tag := 3) (ns := [a, c, d]) (by omega) (by simp) (fun n hn => by
    simp only [List.mem_cons, List.not_mem_nil, or_false] at hn
    rcases hn with rfl | rfl | rfl <;> omega)
  unfold rdM1
  rw [e]
  rw [show [a, c, d].length = 3 from rfl] at hN
  rw [hN]
theorem rdAllV_eq : ∀ {bs : List (List Int)} {L : List (Int × Bool)}, rdAll rdV1 bs = some L → bs = List.zipWith rcV (vsOf L) (gsOf L)
  | [], L, h => by rw [rdAll] at h; injection h with h; rw [← h]; rfl
  | b :: bs, L, h => by
    rw [rdAll] at h
    cases hb : rdV1 b with
    | none => rw [hb] at h; cases h
    | some x =>
      rw [hb] at h
      cases hr : rdAll rdV1 bs with
      | none => rw [hr] at h; cases h
      | some ys =>
        rw [hr] at h
        injection h with h
        obtain ⟨v, g⟩ := x
        rw [← h, rdV1_rcV hb]
        unfold vsOf gsOf
        rw [List.map_cons, List.map_cons, List.zipWith_cons_cons]
        congr 1
        exact rdAllV_eq hr
theorem rdAllM_eq : ∀ {bs : List (List Int)} {L : List E3}, rdAll rdM1 bs = some L → bs = L.map rcM
  | [], L, h => by rw [rdAll] at h; injection h with h; rw [← h]; rfl
  | b :: bs, L, h => by
    rw [rdAll] at h
    cases hb : rdM1 b with
    | none => rw [hb] at h; cases h
    | some x =>
      rw [hb] at h
      cases hr : rdAll rdM1 bs with
      | none => rw [hr] at h; cases h
      | some ys =>
        rw [hr] at h
        injection h with h
        rw [← h, rdM1_rcM hb, List.map_cons]
        congr 1
        exact rdAllM_eq hr
theorem rdAllV_yes : ∀ {vs : List Int} {gs : List Bool}, gs.length = vs.length → (∀ v ∈ vs, -1 ≤ v ∧ v ≤ 999999) → rdAll rdV1 (List.zipWith rcV vs gs) = some (vs.zip gs)
  | [], gs, _, _ => by simp [rdAll]
  | v :: vs, [], h, _ => by simp at h
  | v :: vs, g :: gs, h, hv => by
    have h0 := hv v (List.mem_cons_self ..)
    rw [List.zipWith_cons_cons, rdAll, rcV_rdV1 h0.1 h0.2, rdAllV_yes (by simpa using h) (fun z hz => hv z (List.mem_cons_of_mem _ hz))]
    rfl
theorem rdAllM_yes : ∀ {ms : List E3}, (∀ m ∈ ms, (0 ≤ m.1 ∧ m.1 ≤ 1000000) ∧ (0 ≤ m.2.1 ∧ m.2.1 ≤ 1000000) ∧ (0 ≤ m.2.2 ∧ m.2.2 ≤ 1000000)) → rdAll rdM1 (ms.map rcM) = some ms
  | [], _ => rfl
  | m :: ms, h => by
    have h0 := h m (List.mem_cons_self ..)
    rw [List.map_cons, rdAll, rcM_rdM1 h0.1 h0.2.1 h0.2.2, rdAllM_yes (fun z hz => h z (List.mem_cons_of_mem _ hz))]
theorem nbF_end : nbF 4 0 [4] = (some [], true) := nbF_enc (tag := 4) (ns := []) (by omega) (by simp) (fun n hn => absurd hn (by simp))
structure CkI (D : List (List Int)) (r : Int) (m w : Nat) (L : List (Int × Bool)) (M : List E3) : Prop where
  head : ∃ b, D[0]? = some b ∧ nbF 1 3 b = (some [r, (m : Int), (w : Int)], true)
  len : m + w + 2 ≤ D.length
  vals : rdAll rdV1 ((D.drop 1).take m) = some L
  msgs : rdAll rdM1 ((D.drop (1 + m)).take w) = some M
  fin : ∃ b, D[1 + m + w]? = some b ∧ nbF 4 0 b = (some [], true)
theorem Ck.ckI {D : List (List Int)} {s : Sta} (h : Ck D s) : CkI D s.r s.vs.length s.ms.length (s.vs.zip s.gs) s.ms := by
  have hF := Sta.okF h.1
  have hgl := hF.gl
  have h1 := hF.many
  have h2 := hF.ml
  have h3 := hF.r0
  have h4 := hF.r1
  have hz : (List.zipWith rcV s.vs s.gs).length = s.vs.length := by simp; omega
  obtain ⟨t, ht⟩ := h.2
  refine ⟨⟨rcH s, h.get rfl, ?_⟩, by have := h.len; omega, ?_, ?_, ⟨[4], h.get ?_, nbF_end⟩⟩
  · have e : rcH s = 1 :: [s.r, (s.vs.length : Int), (s.ms.length : Int)].flatMap enc := by unfold rcH; simp
    rw [e]
    exact nbF_enc (tag := 1) (ns := [s.r, (s.vs.length : Int), (s.ms.length : Int)]) (by omega) (by simp) (fun n hn => by
      simp only [List.mem_cons, List.not_mem_nil, or_false] at hn
      rcases hn with rfl | rfl | rfl <;> omega)
  · rw [← ht]
    unfold ckB
    rw [List.cons_append, List.drop_one, List.tail_cons, List.append_assoc, List.take_left' hz]
    exact rdAllV_yes hgl hF.vin
  · rw [← ht]
    unfold ckB
    rw [List.cons_append, Nat.add_comm 1, List.drop_succ_cons, List.append_assoc, List.drop_left' hz, List.append_assoc, List.take_left' (by simp)]
    exact rdAllM_yes fun m hm => by have := hF.min m hm; omega
  · unfold ckB
    rw [show 1 + s.vs.length + s.ms.length = (s.vs.length + s.ms.length) + 1 by omega, List.getElem?_cons_succ, List.getElem?_append_right (by omega), hz, List.getElem?_append_right (by simp)]
    simp
theorem CkI.ck {D : List (List Int)} {r : Int} {m w : Nat} {L : List (Int × Bool)} {M : List E3} (h : CkI D r m w L M) (hok : Sta.ok ⟨r, vsOf L, gsOf L, M⟩ = true) : Ck D ⟨r, vsOf L, gsOf L, M⟩ := by
  obtain ⟨⟨b, hb1, hb2⟩, hl, hv, hm, ⟨c, hc1, hc2⟩⟩ := h
  have lv := rdAll_len hv
  have lm := rdAll_len hm
  have ev := rdAllV_eq hv
  have em := rdAllM_eq hm
  have eb := (nbF_yes hb2).1
  have ec := (nbF_yes hc2).1
  rw [List.length_take, List.length_drop] at lv lm
  have hLm : L.length = m := by omega
  have hMw : M.length = w := by omega
  refine ⟨hok, ?_⟩
  have eH : rcH ⟨r, vsOf L, gsOf L, M⟩ = b := by
    rw [eb]
    unfold rcH
    dsimp only
    rw [vsOf_len, hLm, hMw]
    simp
  unfold ckB
  rw [eH]
  dsimp only
  rw [← ev, ← em]
  have ec' : c = [4] := by rw [ec]; rfl
  subst ec'
  refine ⟨D.drop (1 + m + w + 1), ?_⟩
  have hD0 : D = b :: D.drop 1 := by
    cases D with
    | nil => cases hb1
    | cons x D => simp only [List.getElem?_cons_zero, Option.some.injEq] at hb1; rw [hb1]; rfl
  have hDv : D.drop 1 = (D.drop 1).take m ++ D.drop (1 + m) := by
    conv => lhs; rw [← List.take_append_drop m (D.drop 1), List.drop_drop]
  have hDm : D.drop (1 + m) = (D.drop (1 + m)).take w ++ D.drop (1 + m + w) := by
    conv => lhs; rw [← List.take_append_drop w (D.drop (1 + m)), List.drop_drop]
  have hDe : D.drop (1 + m + w) = [4] :: D.drop (1 + m + w + 1) := by
    have hlt : 1 + m + w < D.length := by omega
    rw [List.drop_eq_getElem_cons hlt]
    rw [List.getElem?_eq_getElem hlt] at hc1
    injection hc1 with hc1
    rw [hc1]
  conv => rhs; rw [hD0, hDv, hDm, hDe]
  simp
end Go.Proofs.Ytmkecjamfippfaa.Abs
