/- Checkpoints by states: numbers behind a tag, by the program. No statement of the seat is proved here. -/
import Derived.Lib.Hide
import Derived.Test.YtmkecjamfippfaaRxTy
import Derived.Test.YtmkecjamfippfaaRxGStaCk
import Derived.Test.YtmkecjamfippfaaRxAImE
set_option linter.unusedSimpArgs false
set_option linter.unusedVariables false
namespace Go.Proofs.Ytmkecjamfippfaa.Abs
open Go.RowKit
open R (val row ref)
def rdN (xs : List Int) : Nat → Nat → List Int → Option (List Int × Nat)
  | 0, p, acc => some (acc, p)
  | k + 1, p, acc => if p < xs.length then (if (numF 3 0 0 1 xs p).2.1 then rdN xs k (numF 3 0 0 1 xs p).2.2 (acc ++ [(numF 3 0 0 1 xs p).1]) else none) else none
def nbE (b : List Int) : Option (List Int × Nat) → Option (List Int) × Bool
  | some (ns, p) => (some ns, decide (p = b.length))
  | none => (none, false)
def nbF (tag : Int) (k : Nat) (b : List Int) : Option (List Int) × Bool :=
  if bodyOk b = true ∧ b.head? = some tag then nbE b (rdN b k 1 []) else (none, false)
def nbRes : Option (List Int) × Bool → Res
  | (some ns, q) => .tup [.one (row false 1 (ints ns)), .one (bool q)]
  | (none, _) => .tup [.one (row true 1 []), .one (bool false)]
set_option maxRecDepth 100000 in
set_option maxHeartbeats 4000000 in
theorem f_numberEnd (m1 m2 nil : Bool) (xs : List Int) (hx : xs.length ≤ 2000) :
    FnS Try.prog 119 [.one (.ptr 1000000000 0 0 0)] (brH 1000000000 m1 m2 nil xs xs.length) (.tup true [iP 0, .one (bool false)]) (brH 1000000000 m1 m2 nil xs xs.length) := by
  have K := f_next m1 m2 nil xs xs.length hx hx
  rw [if_neg (by omega), show decide (xs.length < xs.length) = false by simp, List.getElem?_eq_none (by omega)] at K
  dsimp only at K
  unfold brH at *
  refine fnS_of (l := [.tmp 2, .tmp 3]) Try.func119 (by kernel_rfl) rfl Try.ntmps119 rfl rfl ?_; simp only [dEnv, Nat.reduceAdd]
  repeat' (first|(with_reducible first|refine aw_seq ?_|refine thn_normal ?_|refine thn_ret ?_|refine thn_exit ?_|refine blk_normal ?_|refine blk_ret ?_|refine blk_hit ?_|refine blk_miss rfl ?_|refine aw_block ?_|refine aw_ret ?_|refine aw_skip ?_|refine aw_exit ?_|refine w_nil ?_|refine x_nil (by kernel_rfl) ?_)|refine aw_region ?_|refine aw_region_draw (by kernel_rfl) ?_|refine aw_yes rfl ?_|refine aw_no rfl ?_|((with_reducible refine w_seq ?_);first|refine r_q tbOk rfl rfl rfl rfl ?_|refine r_e tbOk rfl rfl rfl rfl rfl ?_|refine r_yes tbOk rfl rfl rfl rfl rfl rfl ?_|refine w_no rfl rfl (lookO_spec rfl) rfl rfl rfl ?_|refine w_un rfl rfl (lookO_spec rfl) rfl rfl ?_)|((with_reducible refine w_drw ?_);first|refine rx_q tbOk rfl rfl rfl rfl ?_|refine rx_e tbOk rfl rfl rfl rfl rfl ?_|refine rx_yes tbOk rfl rfl rfl rfl rfl rfl ?_|refine x_no rfl rfl (lookO_spec rfl) rfl rfl rfl ?_|refine x_un rfl rfl (lookO_spec rfl) rfl rfl ?_)|((first|refine aw_ways rfl ?_ ?_|refine r_split rfl rfl rfl ?_ ?_) <;> intro hg_ <;> fail_if_success (exact Bool.noConfusion hg_)) <;> (try simp only [prn] at hg_) <;> (try first|contradiction|(exfalso;omega)))
  refine aw_loopI (fun x : Nat => x = 0) (fun x => mkS 44 [(6, .one (.r true (int (x : Int)))), (0, .one (.ptr 1000000000 0 0 0))] [(1000000000, .var 134 [.r m1 (row nil 1 (ints xs)), .r m2 (int (xs.length : Int))])]) (fun x => x) 0 rfl (by (refine weak_ren [] rfl ?_ ?_ <;> repeat' (first|exact trivial|refine subR_cons rfl ?_ ?_|refine subHR_cons rfl ?_ ?_|rfl|(refine d_int ?_;(first|rfl|omega|(rw [IntWalk.i64_in _ (by omega)] <;> omega)|(simp;done)|(simp;omega)))|(refine d_bool ?_;(first|(simp_all;done)|(rw [Bool.eq_iff_iff];simp_all;done)|(rw [Bool.eq_iff_iff];simp_all;omega)|(rw [Bool.eq_iff_iff];simp;omega)))))) ?_
  rintro x rfl
  repeat' (first|(with_reducible first|refine aw_seq ?_|refine thn_normal ?_|refine thn_ret ?_|refine thn_exit ?_|refine blk_normal ?_|refine blk_ret ?_|refine blk_hit ?_|refine blk_miss rfl ?_|refine aw_block ?_|refine aw_ret ?_|refine aw_skip ?_|refine aw_exit ?_|refine w_nil ?_|refine x_nil (by kernel_rfl) ?_)|refine aw_region ?_|refine aw_region_draw (by kernel_rfl) ?_|refine aw_yes rfl ?_|refine aw_no rfl ?_|((with_reducible refine w_seq ?_);first|refine r_q tbOk rfl rfl rfl rfl ?_|refine r_e tbOk rfl rfl rfl rfl rfl ?_|refine r_yes tbOk rfl rfl rfl rfl rfl rfl ?_|refine w_no rfl rfl (lookO_spec rfl) rfl rfl rfl ?_|refine w_un rfl rfl (lookO_spec rfl) rfl rfl ?_)|((with_reducible refine w_drw ?_);first|refine rx_q tbOk rfl rfl rfl rfl ?_|refine rx_e tbOk rfl rfl rfl rfl rfl ?_|refine rx_yes tbOk rfl rfl rfl rfl rfl rfl ?_|refine x_no rfl rfl (lookO_spec rfl) rfl rfl rfl ?_|refine x_un rfl rfl (lookO_spec rfl) rfl rfl ?_)|((first|refine' w_e rfl ?xa ?xb ?xc ?xe ?_|refine' v_e rfl ?xa ?xb ?xc ?xe ?_);(case xa => exact at_dst 15 rfl (e_callS [] K rfl ⟨asD_ren (evO_spec rfl), trivial⟩ (by (repeat' (first|exact trivial|refine subHR_cons rfl ?_ ?_|rfl))) rfl));(case xb => rfl);(case xc => rfl);(case xe => rfl);try dsimp only [P0.d, Res.d, List.map_cons, List.map_nil, List.set_cons_zero, List.set_cons_succ, Nat.reduceAdd])|((first|refine aw_ways rfl ?_ ?_|refine r_split rfl rfl rfl ?_ ?_) <;> intro hg_ <;> fail_if_success (exact Bool.noConfusion hg_)) <;> (try simp only [prn] at hg_) <;> (try first|contradiction|(exfalso;omega)))
  all_goals first
    | exact ret_D [] rfl (by (repeat' (first|exact trivial|refine subHR_cons rfl ?_ ?_|rfl))) (retD_tup2 (rv_tmp rfl (dres_int rfl)) (rv_tmp rfl (dres_bool rfl)) rfl)
    | (exfalso; omega)
    | trace_state
theorem f_numberAny (m1 m2 nil : Bool) (xs : List Int) (p : Nat) (hx : bytesOk xs = true) (hp : p ≤ xs.length) :
    ∃ n ok p' m2', FnS Try.prog 119 [.one (.ptr 1000000000 0 0 0)] (brH 1000000000 m1 m2 nil xs p) (.tup true [iP n, .one (bool ok)]) (brH 1000000000 m1 m2' nil xs p') ∧ p' ≤ xs.length ∧ ∀ k acc, rdN xs (k + 1) p acc = if ok then rdN xs k p' (acc ++ [n]) else none := by
  by_cases h : p < xs.length
  · exact ⟨_, _, _, _, f_number m1 m2 nil xs p hx h, numF_bd 3 0 0 1 p hp, fun k acc => by rw [rdN, if_pos h]⟩
  · obtain rfl : p = xs.length := by omega
    exact ⟨0, false, _, m2, f_numberEnd m1 m2 nil xs (bytesOk_len hx), hp, fun k acc => by rw [rdN, if_neg h]; rfl⟩
set_option maxRecDepth 100000 in
set_option maxHeartbeats 8000000 in
theorem f_numbersNo (nil : Bool) (b : List Int) (tag k : Int) (h : ¬ (bodyOk b = true ∧ b.head? = some tag)) : Fn Try.prog 88 [.one (row nil 1 (ints b)), iP tag, iP k] (.tup [.one (row true 1 []), .one (bool false)]) := by
  have KB := f_implBodyOk nil b
  cases hb : bodyOk b
  · rw [hb] at KB
    refine fn_of (l := [.tmp 6, .tmp 7]) Try.func88 (by kernel_rfl) rfl Try.ntmps88 rfl rfl ?_; simp only [argEnv, P0.d, Nat.reduceAdd]
    repeat' (first|(with_reducible first|refine aw_seq ?_|refine thn_normal ?_|refine thn_ret ?_|refine thn_exit ?_|refine blk_normal ?_|refine blk_ret ?_|refine blk_hit ?_|refine blk_miss rfl ?_|refine aw_block ?_|refine aw_ret ?_|refine aw_skip ?_|refine aw_exit ?_|refine w_nil ?_|refine x_nil (by kernel_rfl) ?_)|refine aw_region ?_|refine aw_region_draw (by kernel_rfl) ?_|refine aw_yes rfl ?_|refine aw_no rfl ?_|((with_reducible refine w_seq ?_);first|refine r_q tbOk rfl rfl rfl rfl ?_|refine r_e tbOk rfl rfl rfl rfl rfl ?_|refine r_yes tbOk rfl rfl rfl rfl rfl rfl ?_|refine w_no rfl rfl (lookO_spec rfl) rfl rfl rfl ?_|refine w_un rfl rfl (lookO_spec rfl) rfl rfl ?_)|((with_reducible refine w_drw ?_);first|refine rx_q tbOk rfl rfl rfl rfl ?_|refine rx_e tbOk rfl rfl rfl rfl rfl ?_|refine rx_yes tbOk rfl rfl rfl rfl rfl rfl ?_|refine x_no rfl rfl (lookO_spec rfl) rfl rfl rfl ?_|refine x_un rfl rfl (lookO_spec rfl) rfl rfl ?_)|((first|refine' w_q rfl rfl ?xa rfl ?_|refine' v_q rfl rfl ?xa rfl ?_|refine' w_yes rfl rfl (lookO_spec rfl) rfl ?xa rfl ?_|refine' v_yes rfl rfl (lookO_spec rfl) rfl ?xa rfl ?_);case xa => exact k_call KB rfl ⟨asA_r (evO_spec rfl), trivial⟩)|((first|refine aw_ways rfl ?_ ?_|refine r_split rfl rfl rfl ?_ ?_) <;> intro hg_ <;> fail_if_success (exact Bool.noConfusion hg_)) <;> (try simp only [prn] at hg_) <;> (try first|contradiction|(exfalso;omega)))
    all_goals first
      | exact ret_2 (rv_tmp rfl (dres_one cres_nil)) (rv_tmp rfl (dres_bool rfl))
      | trace_state
  · rw [hb] at KB
    cases b with
    | nil => cases hb
    | cons z b =>
      have hz : z ≠ tag := fun e => h ⟨hb, by rw [e]; rfl⟩
      have hx2 : (ints (z :: b))[(0 : Int).toNat]? = some (iP z) := rfl
      have hl : (ints (z :: b)).length = b.length + 1 := by rw [ints_len]; rfl
      refine fn_of (l := [.tmp 6, .tmp 7]) Try.func88 (by kernel_rfl) rfl Try.ntmps88 rfl rfl ?_; simp only [argEnv, P0.d, Nat.reduceAdd]
      repeat' (first|(with_reducible first|refine aw_seq ?_|refine thn_normal ?_|refine thn_ret ?_|refine thn_exit ?_|refine blk_normal ?_|refine blk_ret ?_|refine blk_hit ?_|refine blk_miss rfl ?_|refine aw_block ?_|refine aw_ret ?_|refine aw_skip ?_|refine aw_exit ?_|refine w_nil ?_|refine x_nil (by kernel_rfl) ?_)|refine aw_region ?_|refine aw_region_draw (by kernel_rfl) ?_|refine aw_yes rfl ?_|refine aw_no rfl ?_|((with_reducible refine w_seq ?_);first|refine r_q tbOk rfl rfl rfl rfl ?_|refine r_e tbOk rfl rfl rfl rfl rfl ?_|refine r_yes tbOk rfl rfl rfl rfl rfl rfl ?_|refine w_no rfl rfl (lookO_spec rfl) rfl rfl rfl ?_|refine w_un rfl rfl (lookO_spec rfl) rfl rfl ?_)|((with_reducible refine w_drw ?_);first|refine rx_q tbOk rfl rfl rfl rfl ?_|refine rx_e tbOk rfl rfl rfl rfl rfl ?_|refine rx_yes tbOk rfl rfl rfl rfl rfl rfl ?_|refine x_no rfl rfl (lookO_spec rfl) rfl rfl rfl ?_|refine x_un rfl rfl (lookO_spec rfl) rfl rfl ?_)|((first|refine' w_q rfl rfl ?xa rfl ?_|refine' v_q rfl rfl ?xa rfl ?_|refine' w_yes rfl rfl (lookO_spec rfl) rfl ?xa rfl ?_|refine' v_yes rfl rfl (lookO_spec rfl) rfl ?xa rfl ?_);case xa => first|exact k_call KB rfl ⟨asA_r (evO_spec rfl), trivial⟩|exact k_index tbOk rfl rfl rfl rfl (by omega) hx2)|((first|refine aw_ways rfl ?_ ?_|refine r_split rfl rfl rfl ?_ ?_) <;> intro hg_ <;> fail_if_success (exact Bool.noConfusion hg_)) <;> (try simp only [prn] at hg_) <;> (try first|contradiction|(exfalso;omega)))
      all_goals first
        | exact ret_2 (rv_tmp rfl (dres_one cres_nil)) (rv_tmp rfl (dres_bool rfl))
        | (exfalso; simp_all; done)
        | trace_state
theorem fill_next {acc : List Int} {k : Nat} {n : Int} (h : acc.length < k) : (ints (acc ++ List.replicate (k - acc.length) 0)).set acc.length (iP n) = ints ((acc ++ [n]) ++ List.replicate (k - (acc.length + 1)) 0) := by
  have e : k - acc.length = (k - (acc.length + 1)) + 1 := by omega
  rw [e, List.replicate_succ]
  unfold ints
  simp [List.set_append]
set_option maxRecDepth 100000 in
set_option maxHeartbeats 8000000 in
theorem f_numbersYes (nil : Bool) (b : List Int) (tag : Int) (k : Nat) (hk3 : k ≤ 3) (hb : bodyOk b = true) (hh : b.head? = some tag) : Fn Try.prog 88 [.one (row nil 1 (ints b)), iP tag, iP (k : Int)] (nbRes (nbF tag k b)) := by
  have KB := f_implBodyOk nil b
  rw [hb] at KB
  have hby : bytesOk b = true := by unfold bodyOk at hb; simp only [Bool.and_eq_true] at hb; exact hb.1.1
  have hbl : 1 ≤ b.length := by unfold bodyOk at hb; simp at hb; omega
  obtain ⟨RR, hRR⟩ : ∃ RR, RR = rdN b k 1 [] := ⟨_, rfl⟩
  have hX : nbF tag k b = nbE b RR := by rw [hRR]; unfold nbF; rw [if_pos ⟨hb, hh⟩]
  rw [hX]
  clear hX
  have hx2 : (ints b)[(0 : Int).toNat]? = some (iP tag) := by
    cases b with
    | nil => cases hh
    | cons z b => simp only [List.head?_cons, Option.some.injEq] at hh; rw [← hh]; rfl
  have hlb := ints_len b
  clear hb hh
  refine fn_of (l := [.tmp 6, .tmp 7]) Try.func88 (by kernel_rfl) rfl Try.ntmps88 rfl rfl ?_; simp only [argEnv, P0.d, Nat.reduceAdd]
  repeat' (first|(with_reducible first|refine aw_seq ?_|refine thn_normal ?_|refine thn_ret ?_|refine thn_exit ?_|refine blk_normal ?_|refine blk_ret ?_|refine blk_hit ?_|refine blk_miss rfl ?_|refine aw_block ?_|refine aw_ret ?_|refine aw_skip ?_|refine aw_exit ?_|refine w_nil ?_|refine x_nil (by kernel_rfl) ?_)|refine aw_region ?_|refine aw_region_draw (by kernel_rfl) ?_|refine aw_yes rfl ?_|refine aw_no rfl ?_|((with_reducible refine w_seq ?_);first|refine r_q tbOk rfl rfl rfl rfl ?_|refine r_e tbOk rfl rfl rfl rfl rfl ?_|refine r_yes tbOk rfl rfl rfl rfl rfl rfl ?_|refine w_no rfl rfl (lookO_spec rfl) rfl rfl rfl ?_|refine w_un rfl rfl (lookO_spec rfl) rfl rfl ?_)|((with_reducible refine w_drw ?_);first|refine rx_q tbOk rfl rfl rfl rfl ?_|refine rx_e tbOk rfl rfl rfl rfl rfl ?_|refine rx_yes tbOk rfl rfl rfl rfl rfl rfl ?_|refine x_no rfl rfl (lookO_spec rfl) rfl rfl rfl ?_|refine x_un rfl rfl (lookO_spec rfl) rfl rfl ?_)|((first|refine' w_q rfl rfl ?xa rfl ?_|refine' v_q rfl rfl ?xa rfl ?_|refine' w_yes rfl rfl (lookO_spec rfl) rfl ?xa rfl ?_|refine' v_yes rfl rfl (lookO_spec rfl) rfl ?xa rfl ?_);case xa => first|exact k_call KB rfl ⟨asA_r (evO_spec rfl), trivial⟩|exact k_index tbOk rfl rfl rfl rfl (by omega) hx2)|((first|refine' w_e rfl ?xa ?xb ?xc ?xe ?_|refine' v_e rfl ?xa ?xb ?xc ?xe ?_);(case xa => exact e_make tlOk rfl rfl rfl rfl rfl rfl (c := k) rfl rfl (by omega) (by simp only [maxLen];omega));(case xb => rfl);(case xc => rfl);(case xe => rfl);try dsimp only [P0.d, Res.d, List.map_cons, List.map_nil, List.set_cons_zero, List.set_cons_succ, Nat.reduceAdd])|((first|refine aw_ways rfl ?_ ?_|refine r_split rfl rfl rfl ?_ ?_) <;> intro hg_ <;> fail_if_success (exact Bool.noConfusion hg_)) <;> (try simp only [prn] at hg_) <;> (try first|contradiction|(exfalso;omega)))
  obtain ⟨F, hFs⟩ : ∃ F : Nat × Bool × List Int → St, ∀ p m2 acc, F (p, m2, acc) = mkS 45 [(29, .one (.r true (int (acc.length : Int)))), (28, .one (.r true (int (k : Int)))), (9, .one (.own 100 0 k 1)), (8, .one (.ptr 8 0 0 0))] [(100, .sl 3 1 true (ints (acc ++ List.replicate (k - acc.length) 0))), (8, .var 134 [.r false (row nil 1 (ints b)), .r m2 (int (p : Int))])] := ⟨fun x => mkS 45 [(29, .one (.r true (int (x.2.2.length : Int)))), (28, .one (.r true (int (k : Int)))), (9, .one (.own 100 0 k 1)), (8, .one (.ptr 8 0 0 0))] [(100, .sl 3 1 true (ints (x.2.2 ++ List.replicate (k - x.2.2.length) 0))), (8, .var 134 [.r false (row nil 1 (ints b)), .r x.2.1 (int (x.1 : Int))])], fun _ _ _ => rfl⟩
  refine aw_loopI (fun x : Nat × Bool × List Int => x.1 ≤ b.length ∧ x.2.2.length ≤ k ∧ RR = rdN b (k - x.2.2.length) x.1 x.2.2) F (fun x => k - x.2.2.length) (1, true, []) ⟨hbl, Nat.zero_le _, hRR⟩ (by
    rw [hFs]
    (refine weak_ren [(100, 26)] rfl ?_ ?_ <;> repeat' (first|exact trivial|refine subR_cons rfl ?_ ?_|refine subHR_cons rfl ?_ ?_|rfl|(refine d_int ?_;(first|rfl|omega|(rw [IntWalk.i64_in _ (by omega)] <;> omega)|(simp;done)|(simp;omega)))|(refine d_bool ?_;(first|(simp_all;done)|(rw [Bool.eq_iff_iff];simp_all;done)|(rw [Bool.eq_iff_iff];simp_all;omega)|(rw [Bool.eq_iff_iff];simp;omega)))|exact ob_sl rfl (by unfold ints;simp)))) ?_
  rintro ⟨p, m2, acc⟩ ⟨hp, hacc, hE⟩
  dsimp only at hp hacc hE
  have hlr : (ints (acc ++ List.replicate (k - acc.length) 0)).length = k := by rw [ints_len]; simp; omega
  clear hRR hx2
  by_cases hlt : acc.length < k
  · obtain ⟨n, ok, p', m2', KN, hp', hstep⟩ := f_numberAny false m2 nil b p hby hp
    rw [show k - acc.length = (k - (acc.length + 1)) + 1 by omega, hstep] at hE
    have hnext := fill_next (n := n) hlt
    cases ok
    · rw [if_neg (by decide)] at hE
      rw [hE, hFs]
      unfold nbE nbRes brH at *
      dsimp only
      clear hFs hE hstep KB hnext
      repeat' (first|(with_reducible first|refine aw_seq ?_|refine thn_normal ?_|refine thn_ret ?_|refine thn_exit ?_|refine blk_normal ?_|refine blk_ret ?_|refine blk_hit ?_|refine blk_miss rfl ?_|refine aw_block ?_|refine aw_ret ?_|refine aw_skip ?_|refine aw_exit ?_|refine w_nil ?_|refine x_nil (by kernel_rfl) ?_)|refine aw_region ?_|refine aw_region_draw (by kernel_rfl) ?_|refine aw_yes rfl ?_|refine aw_no rfl ?_|((with_reducible refine w_seq ?_);first|refine r_q tbOk rfl rfl rfl rfl ?_|refine r_e tbOk rfl rfl rfl rfl rfl ?_|refine r_yes tbOk rfl rfl rfl rfl rfl rfl ?_|refine w_no rfl rfl (lookO_spec rfl) rfl rfl rfl ?_|refine w_un rfl rfl (lookO_spec rfl) rfl rfl ?_)|((with_reducible refine w_drw ?_);first|refine rx_q tbOk rfl rfl rfl rfl ?_|refine rx_e tbOk rfl rfl rfl rfl rfl ?_|refine rx_yes tbOk rfl rfl rfl rfl rfl rfl ?_|refine x_no rfl rfl (lookO_spec rfl) rfl rfl rfl ?_|refine x_un rfl rfl (lookO_spec rfl) rfl rfl ?_)|((first|refine' w_e rfl ?xa ?xb ?xc ?xe ?_|refine' v_e rfl ?xa ?xb ?xc ?xe ?_);(case xa => exact at_dst 33 rfl (e_callS [(1000000000, 8)] KN rfl ⟨asD_ren (evO_spec rfl), trivial⟩ (by (repeat' (first|exact trivial|refine subHR_cons rfl ?_ ?_|rfl))) rfl));(case xb => rfl);(case xc => rfl);(case xe => rfl);try dsimp only [P0.d, Res.d, List.map_cons, List.map_nil, List.set_cons_zero, List.set_cons_succ, Nat.reduceAdd])|((first|refine aw_ways rfl ?_ ?_|refine r_split rfl rfl rfl ?_ ?_) <;> intro hg_ <;> fail_if_success (exact Bool.noConfusion hg_)) <;> (try simp only [prn] at hg_) <;> (try first|contradiction|(exfalso;omega)))
      all_goals first
        | exact ret_2 (rv_tmp rfl (dres_one cres_nil)) (rv_tmp rfl (dres_bool rfl))
        | (exfalso; omega)
        | trace_state
    · rw [if_pos rfl] at hE
      have hfin : ∀ s' : St, Weak s' (F (p', m2', acc ++ [n])) → ∃ x' : Nat × Bool × List Int, (x'.1 ≤ b.length ∧ x'.2.2.length ≤ k ∧ RR = rdN b (k - x'.2.2.length) x'.1 x'.2.2) ∧ Weak s' (F x') ∧ k - x'.2.2.length < k - acc.length := fun s' h => ⟨(p', m2', acc ++ [n]), ⟨hp', by simp; omega, by rw [hE]; simp⟩, h, by simp; omega⟩
      rw [hFs] at hfin ⊢
      have hw1 : IntKind.i64.wrap ((acc.length : Int) + 1) = ((acc ++ [n]).length : Int) := by rw [IntWalk.i64_in _ (by omega)]; simp
      have hls : (acc ++ [n]).length = acc.length + 1 := by simp
      rw [hls, ← hnext] at hfin
      rw [hls] at hw1
      clear hFs hE hstep KB hnext
      generalize ints (acc ++ List.replicate (k - acc.length) 0) = els at *
      unfold brH at *
      repeat' (first|(with_reducible first|refine aw_seq ?_|refine thn_normal ?_|refine thn_ret ?_|refine thn_exit ?_|refine blk_normal ?_|refine blk_ret ?_|refine blk_hit ?_|refine blk_miss rfl ?_|refine aw_block ?_|refine aw_ret ?_|refine aw_skip ?_|refine aw_exit ?_|refine w_nil ?_|refine x_nil (by kernel_rfl) ?_)|refine aw_region ?_|refine aw_region_draw (by kernel_rfl) ?_|refine aw_yes rfl ?_|refine aw_no rfl ?_|((with_reducible refine w_seq ?_);first|refine r_q tbOk rfl rfl rfl rfl ?_|refine r_e tbOk rfl rfl rfl rfl rfl ?_|refine r_yes tbOk rfl rfl rfl rfl rfl rfl ?_|refine w_no rfl rfl (lookO_spec rfl) rfl rfl rfl ?_|refine w_un rfl rfl (lookO_spec rfl) rfl rfl ?_)|((with_reducible refine w_drw ?_);first|refine rx_q tbOk rfl rfl rfl rfl ?_|refine rx_e tbOk rfl rfl rfl rfl rfl ?_|refine rx_yes tbOk rfl rfl rfl rfl rfl rfl ?_|refine x_no rfl rfl (lookO_spec rfl) rfl rfl rfl ?_|refine x_un rfl rfl (lookO_spec rfl) rfl rfl ?_)|((first|refine' w_q rfl rfl ?xa rfl ?_|refine' v_q rfl rfl ?xa rfl ?_|refine' w_yes rfl rfl (lookO_spec rfl) rfl ?xa rfl ?_|refine' v_yes rfl rfl (lookO_spec rfl) rfl ?xa rfl ?_);case xa => exact k_indexO tbOk rfl rfl rfl rfl (by omega) (by omega))|((first|refine' w_e rfl ?xa ?xb ?xc ?xe ?_|refine' v_e rfl ?xa ?xb ?xc ?xe ?_);(case xa => first|exact at_dst 33 rfl (e_callS [(1000000000, 8)] KN rfl ⟨asD_ren (evO_spec rfl), trivial⟩ (by (repeat' (first|exact trivial|refine subHR_cons rfl ?_ ?_|rfl))) rfl)|exact e_storeS tbOk rfl rfl rfl rfl rfl rfl rfl rfl (by omega));(case xb => rfl);(case xc => rfl);(case xe => rfl);try dsimp only [P0.d, Res.d, List.map_cons, List.map_nil, List.set_cons_zero, List.set_cons_succ, Nat.reduceAdd])|((first|refine aw_ways rfl ?_ ?_|refine r_split rfl rfl rfl ?_ ?_) <;> intro hg_ <;> fail_if_success (exact Bool.noConfusion hg_)) <;> (try simp only [prn] at hg_) <;> (try first|contradiction|(exfalso;omega)))
      all_goals first
        | (refine hfin _ ?_
           (refine weak_ren [] rfl ?_ ?_ <;> repeat' (first|exact trivial|refine subR_cons rfl ?_ ?_|refine subHR_cons rfl ?_ ?_|rfl|(refine d_int ?_;(first|rfl|omega|(rw [IntWalk.i64_in _ (by omega)] <;> omega)|(simp;done)|(simp;omega)))|(refine d_bool ?_;(first|(simp_all;done)|(rw [Bool.eq_iff_iff];simp_all;done)|(rw [Bool.eq_iff_iff];simp_all;omega)|(rw [Bool.eq_iff_iff];simp;omega)))|exact d_int hw1|exact ob_sl rfl (by rw [Nat.zero_add, Int.toNat_natCast]))))
        | (exfalso; omega)
        | trace_state
  · have hke : acc.length = k := by omega
    have KD := f_brDone false m2 nil b p
    subst hke
    rw [Nat.sub_self, rdN] at hE
    rw [hE, hFs]
    unfold nbE nbRes brH at *
    dsimp only
    rw [Nat.sub_self, List.replicate_zero, List.append_nil]
    have hla := (ints_len acc).symm
    clear hFs hE KB hlr
    repeat' (first|(with_reducible first|refine aw_seq ?_|refine thn_normal ?_|refine thn_ret ?_|refine thn_exit ?_|refine blk_normal ?_|refine blk_ret ?_|refine blk_hit ?_|refine blk_miss rfl ?_|refine aw_block ?_|refine aw_ret ?_|refine aw_skip ?_|refine aw_exit ?_|refine w_nil ?_|refine x_nil (by kernel_rfl) ?_)|refine aw_region ?_|refine aw_region_draw (by kernel_rfl) ?_|refine aw_yes rfl ?_|refine aw_no rfl ?_|((with_reducible refine w_seq ?_);first|refine r_q tbOk rfl rfl rfl rfl ?_|refine r_e tbOk rfl rfl rfl rfl rfl ?_|refine r_yes tbOk rfl rfl rfl rfl rfl rfl ?_|refine w_no rfl rfl (lookO_spec rfl) rfl rfl rfl ?_|refine w_un rfl rfl (lookO_spec rfl) rfl rfl ?_)|((with_reducible refine w_drw ?_);first|refine rx_q tbOk rfl rfl rfl rfl ?_|refine rx_e tbOk rfl rfl rfl rfl rfl ?_|refine rx_yes tbOk rfl rfl rfl rfl rfl rfl ?_|refine x_no rfl rfl (lookO_spec rfl) rfl rfl rfl ?_|refine x_un rfl rfl (lookO_spec rfl) rfl rfl ?_)|((first|refine' w_e rfl ?xa ?xb ?xc ?xe ?_|refine' v_e rfl ?xa ?xb ?xc ?xe ?_);(case xa => exact at_dst 44 rfl (e_callS [(1000000000, 8)] KD rfl ⟨asD_ren (evO_spec rfl), trivial⟩ (by (repeat' (first|exact trivial|refine subHR_cons rfl ?_ ?_|rfl))) rfl));(case xb => rfl);(case xc => rfl);(case xe => rfl);try dsimp only [P0.d, Res.d, List.map_cons, List.map_nil, List.set_cons_zero, List.set_cons_succ, Nat.reduceAdd])|((first|refine aw_ways rfl ?_ ?_|refine r_split rfl rfl rfl ?_ ?_) <;> intro hg_ <;> fail_if_success (exact Bool.noConfusion hg_)) <;> (try simp only [prn] at hg_) <;> (try first|contradiction|(exfalso;omega)))
    all_goals first
      | exact ret_2 (rv_tmp rfl (dres_one (cres_own0 (lookHO_spec rfl) hla))) (rv_tmp rfl (dres_bool rfl))
      | (exfalso; omega)
      | trace_state
theorem f_numbersBehind (nil : Bool) (b : List Int) (tag : Int) (k : Nat) (hk3 : k ≤ 3) : Fn Try.prog 88 [.one (row nil 1 (ints b)), iP tag, iP (k : Int)] (nbRes (nbF tag k b)) := by
  by_cases h : bodyOk b = true ∧ b.head? = some tag
  · exact f_numbersYes nil b tag k hk3 h.1 h.2
  · have e : nbF tag k b = (none, false) := by unfold nbF; rw [if_neg h]
    rw [e]
    exact f_numbersNo nil b tag k h
end Go.Proofs.Ytmkecjamfippfaa.Abs
set_option linter.unusedSimpArgs false
set_option linter.unusedVariables false
namespace Go.Proofs.Ytmkecjamfippfaa.Abs
open Go.RowKit
open R (val row ref)
theorem numF_yes {xs : List Int} {p : Nat} (hb : ∀ z ∈ xs, 0 ≤ z ∧ z ≤ 255) (hp : p ≤ xs.length) (h : (numF 3 0 0 1 xs p).2.1 = true) :
    (xs.drop p).take ((numF 3 0 0 1 xs p).2.2 - p) = enc (numF 3 0 0 1 xs p).1 ∧ p < (numF 3 0 0 1 xs p).2.2 ∧ (numF 3 0 0 1 xs p).2.2 ≤ xs.length ∧ 0 ≤ (numF 3 0 0 1 xs p).1 ∧ (numF 3 0 0 1 xs p).1 ≤ 1000000 := by
  have hd := numF_dec 3 0 0 1 xs p
  rw [if_pos h] at hd
  have hc := dec_canon (l := xs.drop p) (fun z hz => hb z (List.mem_of_mem_drop hz)) hd
  have hbd := numF_bd (xs := xs) 3 0 0 1 p hp
  obtain ⟨c1, c2, c3, c4, c5⟩ := hc
  rw [Nat.zero_add] at c1 c3
  exact ⟨c1, by omega, hbd, c4, c5⟩
theorem numF_enc {xs : List Int} {p : Nat} {n : Int} {r : List Int} (h0 : 0 ≤ n) (h1 : n ≤ 1000000) (hx : xs.drop p = enc n ++ r) : (numF 3 0 0 1 xs p).2.1 = true ∧ (numF 3 0 0 1 xs p).1 = n ∧ (numF 3 0 0 1 xs p).2.2 = p + (enc n).length := by
  have hd := numF_dec 3 0 0 1 xs p
  have he := dec_enc h0 h1 r
  rw [← hx] at he
  unfold dec at he
  rw [he] at hd
  have hp := enc_pos h0 h1
  split at hd
  · rename_i ht
    injection hd with hd
    injection hd with e1 e2
    exact ⟨ht, e1.symm, by omega⟩
  · cases hd
theorem rdN_yes {xs : List Int} (hb : ∀ z ∈ xs, 0 ≤ z ∧ z ≤ 255) : ∀ (k p : Nat) (acc ns : List Int) (q : Nat), p ≤ xs.length → rdN xs k p acc = some (ns, q) →
    ∃ ms, ns = acc ++ ms ∧ ms.length = k ∧ (∀ n ∈ ms, 0 ≤ n ∧ n ≤ 1000000) ∧ xs.drop p = ms.flatMap enc ++ xs.drop q ∧ p ≤ q ∧ q ≤ xs.length
  | 0, p, acc, ns, q, hp, h => by
    rw [rdN] at h
    injection h with h
    injection h with e1 e2
    exact ⟨[], by rw [← e1]; simp, rfl, fun n hn => absurd hn (by simp), by rw [e2]; rfl, by omega, by omega⟩
  | k + 1, p, acc, ns, q, hp, h => by
    rw [rdN] at h
    split at h
    · split at h
      · rename_i hlt hok
        obtain ⟨c1, c2, c3, c4, c5⟩ := numF_yes hb hp hok
        obtain ⟨ms, e1, e2, e3, e4, e5, e6⟩ := rdN_yes hb k _ _ _ _ c3 h
        refine ⟨(numF 3 0 0 1 xs p).1 :: ms, by rw [e1]; simp, by simp [e2], fun n hn => ?_, ?_, by omega, e6⟩
        · rcases List.mem_cons.1 hn with h' | h'
          · rw [h']; exact ⟨c4, c5⟩
          · exact e3 n h'
        · rw [List.flatMap_cons, ← c1, List.append_assoc, ← e4]
          have : (numF 3 0 0 1 xs p).2.2 = p + ((numF 3 0 0 1 xs p).2.2 - p) := by omega
          conv => rhs; rhs; rw [this, ← List.drop_drop]
          rw [List.take_append_drop]
      · cases h
    · cases h
theorem rdN_enc {xs : List Int} : ∀ (ms : List Int) (p : Nat) (acc r : List Int), (∀ n ∈ ms, 0 ≤ n ∧ n ≤ 1000000) → xs.drop p = ms.flatMap enc ++ r → rdN xs ms.length p acc = some (acc ++ ms, p + (ms.flatMap enc).length)
  | [], p, acc, r, _, _ => by simp [rdN]
  | n :: ms, p, acc, r, hn, hx => by
    have h0 := hn n (List.mem_cons_self ..)
    rw [List.flatMap_cons, List.append_assoc] at hx
    obtain ⟨c1, c2, c3⟩ := numF_enc h0.1 h0.2 hx
    have hp := enc_pos h0.1 h0.2
    have hl := congrArg List.length hx
    rw [List.length_drop, List.length_append] at hl
    have hd : xs.drop (p + (enc n).length) = ms.flatMap enc ++ r := by
      rw [← List.drop_drop, hx, List.drop_left]
    have ih := rdN_enc ms (p + (enc n).length) (acc ++ [n]) r (fun m hm => hn m (List.mem_cons_of_mem _ hm)) hd
    rw [List.length_cons, rdN, if_pos (by omega), if_pos c1, c2, c3, ih]
    simp; omega
theorem bodyOk_by {b : List Int} (h : bodyOk b = true) : ∀ z ∈ b, 0 ≤ z ∧ z ≤ 255 := fun z hz => by
  unfold bodyOk at h
  simp only [Bool.and_eq_true] at h
  obtain ⟨i, hi, rfl⟩ := List.getElem_of_mem hz
  exact bytesOk_get h.1.1 i hi
theorem nbF_yes {tag : Int} {k : Nat} {b ns : List Int} (h : nbF tag k b = (some ns, true)) : b = tag :: ns.flatMap enc ∧ ns.length = k ∧ ∀ n ∈ ns, 0 ≤ n ∧ n ≤ 1000000 := by
  unfold nbF at h
  split at h
  · rename_i hc
    obtain ⟨hb, hh⟩ := hc
    cases b with
    | nil => cases hh
    | cons z b =>
      simp only [List.head?_cons, Option.some.injEq] at hh
      subst hh
      cases hr : rdN (z :: b) k 1 [] with
      | none => rw [hr] at h; cases h
      | some x =>
        obtain ⟨ms, q⟩ := x
        rw [hr] at h
        simp only [nbE, Prod.mk.injEq, Option.some.injEq, decide_eq_true_eq] at h
        obtain ⟨rfl, hq⟩ := h
        obtain ⟨ms', e1, e2, e3, e4, e5, e6⟩ := rdN_yes (bodyOk_by hb) k 1 [] ms q (by simp) hr
        rw [List.nil_append] at e1
        subst e1
        rw [hq, List.drop_of_length_le (Nat.le_refl _), List.append_nil] at e4
        refine ⟨?_, e2, e3⟩
        simp only [List.drop_one, List.tail_cons] at e4
        rw [← e4]
  · cases h
theorem enc_flat_bytes {ns : List Int} : ∀ z ∈ ns.flatMap enc, 0 ≤ z ∧ z ≤ 255 := fun z hz => by
  rw [List.mem_flatMap] at hz
  obtain ⟨n, _, h⟩ := hz
  exact enc_bytes n z h
theorem enc_flat_len : ∀ ns : List Int, (ns.flatMap enc).length ≤ 3 * ns.length
  | [] => by simp
  | n :: ns => by
    have := enc_flat_len ns
    have := enc_len n
    rw [List.flatMap_cons, List.length_append, List.length_cons]
    omega
theorem nbF_enc {tag : Int} {ns : List Int} (ht : 0 ≤ tag ∧ tag ≤ 255) (hk : ns.length ≤ 3) (hn : ∀ n ∈ ns, 0 ≤ n ∧ n ≤ 1000000) : nbF tag ns.length (tag :: ns.flatMap enc) = (some ns, true) := by
  have hl := enc_flat_len ns
  have hb : bodyOk (tag :: ns.flatMap enc) = true := by
    unfold bodyOk
    have h1 : bytesOk (tag :: ns.flatMap enc) = true := bytesOk_of (fun z hz => by
      rcases List.mem_cons.1 hz with h | h
      · rw [h]; exact ht
      · exact enc_flat_bytes z h) (by rw [List.length_cons]; omega)
    rw [h1]
    simp only [Bool.true_and, Bool.and_eq_true, decide_eq_true_eq, List.length_cons]
    omega
  unfold nbF
  rw [if_pos ⟨hb, rfl⟩, rdN_enc ns 1 [] [] hn (by rw [List.append_nil]; rfl)]
  unfold nbE
  rw [List.nil_append]
  have e : 1 + (ns.flatMap enc).length = (tag :: ns.flatMap enc).length := by rw [List.length_cons]; omega
  simp only [e, decide_true]
theorem nbF_len {tag : Int} {k : Nat} {b ns : List Int} {q : Bool} (h : nbF tag k b = (some ns, q)) : ns.length = k := by
  unfold nbF at h
  split at h
  · rename_i hc
    cases hr : rdN b k 1 [] with
    | none => rw [hr] at h; cases h
    | some x =>
      obtain ⟨ms, p⟩ := x
      rw [hr] at h
      simp only [nbE, Prod.mk.injEq, Option.some.injEq] at h
      have hbl : 1 ≤ b.length := by
        have := hc.1
        unfold bodyOk at this; simp at this; omega
      obtain ⟨ms', e1, e2, _⟩ := rdN_yes (bodyOk_by hc.1) k 1 [] ms p hbl hr
      rw [← h.1, e1]; simpa using e2
  · cases h
end Go.Proofs.Ytmkecjamfippfaa.Abs
