/- Reading graphs by states: the program's reader of bytes, ReadGraph. No statement of the seat is proved here. -/
import Derived.Lib.Hide
import Derived.Test.YtmkecjamfippfaaRxTy
import Derived.Test.YtmkecjamfippfaaRxASpCD
import Derived.Test.YtmkecjamfippfaaRxAScanJ
set_option linter.unusedSimpArgs false
set_option linter.unusedVariables false
namespace Go.Proofs.Ytmkecjamfippfaa.Abs
open Go.RowKit
open R (val row ref)
def brH (k : Nat) (m1 m2 nil : Bool) (xs : List Int) (i : Nat) : List (Nat × Ob) := [(k, .var 134 [.r m1 (row nil 1 (ints xs)), .r m2 (int (i : Int))])]
def numF : Nat → Nat → Int → Int → List Int → Nat → Int × Bool × Nat
  | 0, _, _, _, _, i => (0, false, i)
  | f + 1, d, n, s, xs, i => match xs[i]? with
    | none => (0, false, i)
    | some b => if 128 ≤ b then numF f (d + 1) (n + (b - 128) * s) (s * 128) xs (i + 1) else if b = 0 ∧ 0 < d then (0, false, i + 1) else (n + b * s, decide (n + b * s ≤ 1000000), i + 1)
theorem numF_dec : ∀ (f d : Nat) (n s : Int) (xs : List Int) (i : Nat), decF f d n s (xs.drop i) = if (numF f d n s xs i).2.1 = true then some ((numF f d n s xs i).1, d + ((numF f d n s xs i).2.2 - i)) else none
  | 0, d, n, s, xs, i => by simp [decF, numF]
  | f + 1, d, n, s, xs, i => by
    cases hx : xs[i]? with
    | none =>
      have : xs.length ≤ i := by simpa using hx
      rw [List.drop_of_length_le this]
      simp [decF, numF, hx]
    | some b =>
      obtain ⟨hi, hb⟩ := List.getElem?_eq_some_iff.1 hx
      rw [List.drop_eq_getElem_cons hi, hb]
      simp only [decF, numF, hx]
      by_cases h1 : 128 ≤ b
      · rw [if_pos h1, if_pos h1, numF_dec f (d + 1)]
        have hle : ∀ (f d : Nat) (n s : Int) (i : Nat), i ≤ (numF f d n s xs i).2.2 := by
          intro f
          induction f with
          | zero => intro d n s i; exact Nat.le_refl _
          | succ f ih =>
            intro d n s i
            simp only [numF]
            split
            · exact Nat.le_refl _
            · split
              · exact Nat.le_trans (Nat.le_succ i) (ih _ _ _ _)
              · split <;> exact Nat.le_succ i
        have := hle f (d + 1) (n + (b - 128) * s) (s * 128) (i + 1)
        by_cases h2 : (numF f (d + 1) (n + (b - 128) * s) (s * 128) xs (i + 1)).2.1 = true
        · rw [if_pos h2, if_pos h2]
          congr 2
          omega
        · rw [if_neg h2, if_neg h2]
      · rw [if_neg h1, if_neg h1]
        by_cases h2 : b = 0 ∧ 0 < d
        · rw [if_pos h2, if_pos h2]; simp
        · rw [if_neg h2, if_neg h2]
          by_cases h3 : n + b * s ≤ 1000000
          · rw [if_pos h3]; simp [h3]
          · rw [if_neg h3]; simp [h3]
theorem numF_bd {xs : List Int} : ∀ (f d : Nat) (n s : Int) (i : Nat), i ≤ xs.length → (numF f d n s xs i).2.2 ≤ xs.length
  | 0, _, _, _, i, h => h
  | f + 1, d, n, s, i, h => by
    simp only [numF]
    split
    · exact h
    · rename_i b hx
      have hi : i < xs.length := (List.getElem?_eq_some_iff.1 hx).1
      split
      · exact numF_bd f _ _ _ _ (by omega)
      · split <;> exact hi
theorem retD_tup2 {P : Program} {s : St} {a b : ResultVar} {x y : P0} {ρ : List (Nat × Nat)} (h1 : RvOk P s a x) (h2 : RvOk P s b y) (hv : ([x, y].all fun x => match x with | .one (.val _) => true | _ => false) = true) : ∃ d0, RetD P s [a, b] d0 ∧ DImp d0 (D.ren ρ (.tup true [x, y])) :=
  ⟨.tup true [x, y], by cases a <;> exact .inl ⟨_, rfl, rfl, ⟨h1, h2, trivial⟩, hv⟩, imp_refl rfl⟩
set_option maxRecDepth 100000 in
set_option maxHeartbeats 2000000 in
theorem f_next (m1 m2 nil : Bool) (xs : List Int) (i : Nat) (hx : xs.length ≤ 2000) (hi : i ≤ 2000) :
    FnS Try.prog 132 [.one (.ptr 1000000000 0 0 0)] (brH 1000000000 m1 m2 nil xs i) (.tup true [iP (match xs[i]? with | some b => b | none => 0), .one (bool (decide (i < xs.length)))]) (if i < xs.length then brH 1000000000 m1 true nil xs (i + 1) else brH 1000000000 m1 m2 nil xs i) := by
  have hl := ints_len xs
  unfold brH
  by_cases h : i < xs.length
  · rw [if_pos h, List.getElem?_eq_getElem h]
    dsimp only
    rw [show decide (i < xs.length) = true by simp [h]]
    have hix := ints_at h
    have hw : IntKind.i64.wrap ((i : Int) + 1) = ((i + 1 : Nat) : Int) := by rw [IntWalk.i64_in _ (by omega)]; omega
    generalize xs[i] = z at *
    refine fnS_of (l := [.tmp 2, .tmp 3]) Try.func132 (by kernel_rfl) rfl Try.ntmps132 rfl rfl ?_; simp only [dEnv, Nat.reduceAdd]
    repeat' (first|(with_reducible first|refine aw_seq ?_|refine thn_normal ?_|refine thn_ret ?_|refine thn_exit ?_|refine blk_normal ?_|refine blk_ret ?_|refine blk_hit ?_|refine blk_miss rfl ?_|refine aw_block ?_|refine aw_ret ?_|refine aw_skip ?_|refine aw_exit ?_|refine w_nil ?_|refine x_nil (by kernel_rfl) ?_)|refine aw_region ?_|refine aw_region_draw (by kernel_rfl) ?_|refine aw_yes rfl ?_|refine aw_no rfl ?_|((with_reducible refine w_seq ?_);first|refine r_q tbOk rfl rfl rfl rfl ?_|refine r_e tbOk rfl rfl rfl rfl rfl ?_|refine r_yes tbOk rfl rfl rfl rfl rfl rfl ?_|refine w_no rfl rfl (lookO_spec rfl) rfl rfl rfl ?_|refine w_un rfl rfl (lookO_spec rfl) rfl rfl ?_)|((with_reducible refine w_drw ?_);first|refine rx_q tbOk rfl rfl rfl rfl ?_|refine rx_e tbOk rfl rfl rfl rfl rfl ?_|refine rx_yes tbOk rfl rfl rfl rfl rfl rfl ?_|refine x_no rfl rfl (lookO_spec rfl) rfl rfl rfl ?_|refine x_un rfl rfl (lookO_spec rfl) rfl rfl ?_)|((first|refine' w_q rfl rfl ?xa rfl ?_|refine' v_q rfl rfl ?xa rfl ?_|refine' w_yes rfl rfl (lookO_spec rfl) rfl ?xa rfl ?_|refine' v_yes rfl rfl (lookO_spec rfl) rfl ?xa rfl ?_);case xa => exact k_index tbOk rfl rfl rfl rfl (by omega) (by exact hix))|((first|refine aw_ways rfl ?_ ?_|refine r_split rfl rfl rfl ?_ ?_) <;> intro hg_ <;> fail_if_success (exact Bool.noConfusion hg_)) <;> (try simp only [prn] at hg_) <;> (try first|contradiction|(exfalso;omega)))
    all_goals first
      | exact ret_D [] rfl (by (repeat' (first|exact trivial|refine subHR_cons rfl ?_ ?_|rfl|exact var2 rfl (cell_int hw)))) (retD_tup2 (rv_tmp rfl (dres_int rfl)) (rv_tmp rfl (dres_bool rfl)) rfl)
      | trace_state
  · rw [if_neg h, List.getElem?_eq_none (by omega)]
    dsimp only
    rw [show decide (i < xs.length) = false by simp [h]]
    refine fnS_of (l := [.tmp 2, .tmp 3]) Try.func132 (by kernel_rfl) rfl Try.ntmps132 rfl rfl ?_; simp only [dEnv, Nat.reduceAdd]
    repeat' (first|(with_reducible first|refine aw_seq ?_|refine thn_normal ?_|refine thn_ret ?_|refine thn_exit ?_|refine blk_normal ?_|refine blk_ret ?_|refine blk_hit ?_|refine blk_miss rfl ?_|refine aw_block ?_|refine aw_ret ?_|refine aw_skip ?_|refine aw_exit ?_|refine w_nil ?_|refine x_nil (by kernel_rfl) ?_)|refine aw_region ?_|refine aw_region_draw (by kernel_rfl) ?_|refine aw_yes rfl ?_|refine aw_no rfl ?_|((with_reducible refine w_seq ?_);first|refine r_q tbOk rfl rfl rfl rfl ?_|refine r_e tbOk rfl rfl rfl rfl rfl ?_|refine r_yes tbOk rfl rfl rfl rfl rfl rfl ?_|refine w_no rfl rfl (lookO_spec rfl) rfl rfl rfl ?_|refine w_un rfl rfl (lookO_spec rfl) rfl rfl ?_)|((with_reducible refine w_drw ?_);first|refine rx_q tbOk rfl rfl rfl rfl ?_|refine rx_e tbOk rfl rfl rfl rfl rfl ?_|refine rx_yes tbOk rfl rfl rfl rfl rfl rfl ?_|refine x_no rfl rfl (lookO_spec rfl) rfl rfl rfl ?_|refine x_un rfl rfl (lookO_spec rfl) rfl rfl ?_)|((first|refine aw_ways rfl ?_ ?_|refine r_split rfl rfl rfl ?_ ?_) <;> intro hg_ <;> fail_if_success (exact Bool.noConfusion hg_)) <;> (try simp only [prn] at hg_) <;> (try first|contradiction|(exfalso;omega)))
    all_goals first
      | exact ret_D [] rfl (by (repeat' (first|exact trivial|refine subHR_cons rfl ?_ ?_|rfl))) (retD_tup2 (rv_tmp rfl (dres_int rfl)) (rv_tmp rfl (dres_bool rfl)) rfl)
      | trace_state
set_option maxRecDepth 100000 in
set_option maxHeartbeats 4000000 in
theorem f_number (m1 m2 nil : Bool) (xs : List Int) (i : Nat) (hx : bytesOk xs = true) (hi : i < xs.length) :
    FnS Try.prog 119 [.one (.ptr 1000000000 0 0 0)] (brH 1000000000 m1 m2 nil xs i) (.tup true [iP (numF 3 0 0 1 xs i).1, .one (bool (numF 3 0 0 1 xs i).2.1)]) (brH 1000000000 m1 true nil xs (numF 3 0 0 1 xs i).2.2) := by
  have hl := bytesOk_len hx
  have hli := ints_len xs
  have KN := fun (m2 : Bool) (i : Nat) (h : i ≤ 2000) => f_next m1 m2 nil xs i hl h
  obtain ⟨J, hJ⟩ : ∃ J, J = numF 3 0 0 1 xs i := ⟨_, rfl⟩
  rw [← hJ]
  unfold brH at *
  refine fnS_of (l := [.tmp 2, .tmp 3]) Try.func119 (by kernel_rfl) rfl Try.ntmps119 rfl rfl ?_; simp only [dEnv, Nat.reduceAdd]
  repeat' (first|(with_reducible first|refine aw_seq ?_|refine thn_normal ?_|refine thn_ret ?_|refine thn_exit ?_|refine blk_normal ?_|refine blk_ret ?_|refine blk_hit ?_|refine blk_miss rfl ?_|refine aw_block ?_|refine aw_ret ?_|refine aw_skip ?_|refine aw_exit ?_|refine w_nil ?_|refine x_nil (by kernel_rfl) ?_)|refine aw_region ?_|refine aw_region_draw (by kernel_rfl) ?_|refine aw_yes rfl ?_|refine aw_no rfl ?_|((with_reducible refine w_seq ?_);first|refine r_q tbOk rfl rfl rfl rfl ?_|refine r_e tbOk rfl rfl rfl rfl rfl ?_|refine r_yes tbOk rfl rfl rfl rfl rfl rfl ?_|refine w_no rfl rfl (lookO_spec rfl) rfl rfl rfl ?_|refine w_un rfl rfl (lookO_spec rfl) rfl rfl ?_)|((with_reducible refine w_drw ?_);first|refine rx_q tbOk rfl rfl rfl rfl ?_|refine rx_e tbOk rfl rfl rfl rfl rfl ?_|refine rx_yes tbOk rfl rfl rfl rfl rfl rfl ?_|refine x_no rfl rfl (lookO_spec rfl) rfl rfl rfl ?_|refine x_un rfl rfl (lookO_spec rfl) rfl rfl ?_)|((first|refine aw_ways rfl ?_ ?_|refine r_split rfl rfl rfl ?_ ?_) <;> intro hg_ <;> fail_if_success (exact Bool.noConfusion hg_)) <;> (try simp only [prn] at hg_) <;> (try first|contradiction|(exfalso;omega)))
  refine aw_loopI (fun x : Nat × Int × Int × Nat × Bool => (x.1 = 0 ∧ x.2.1 = 0 ∧ x.2.2.1 = 1 ∧ x.2.2.2.1 = i ∧ J = numF 3 0 0 1 xs i) ∨ (x.1 = 1 ∧ 0 ≤ x.2.1 ∧ x.2.1 ≤ 127 ∧ x.2.2.1 = 128 ∧ x.2.2.2.1 ≤ xs.length ∧ x.2.2.2.2 = true ∧ J = numF 2 1 x.2.1 128 xs x.2.2.2.1) ∨ (x.1 = 2 ∧ 0 ≤ x.2.1 ∧ x.2.1 ≤ 16383 ∧ x.2.2.1 = 16384 ∧ x.2.2.2.1 ≤ xs.length ∧ x.2.2.2.2 = true ∧ J = numF 1 2 x.2.1 16384 xs x.2.2.2.1) ∨ (x.1 = 3 ∧ x.2.2.2.2 = true ∧ J = (0, false, x.2.2.2.1)))
    (fun x => mkS 44 [(6, .one (.r true (int x.1))), (5, .one (.r true (int x.2.2.1))), (4, .one (.r true (int x.2.1))), (0, .one (.ptr 1000000000 0 0 0))] [(1000000000, .var 134 [.r m1 (row nil 1 (ints xs)), .r x.2.2.2.2 (int (x.2.2.2.1 : Int))])]) (fun x => 4 - x.1) (0, 0, 1, i, m2) (.inl ⟨rfl, rfl, rfl, rfl, hJ⟩) (by (refine weak_ren [] rfl ?_ ?_ <;> repeat' (first|exact trivial|refine subR_cons rfl ?_ ?_|refine subHR_cons rfl ?_ ?_|rfl|(refine d_int ?_;(first|rfl|omega|(rw [IntWalk.i64_in _ (by omega)] <;> omega)|(simp;done)|(simp;omega)))|(refine d_bool ?_;(first|(simp_all;done)|(rw [Bool.eq_iff_iff];simp_all;done)|(rw [Bool.eq_iff_iff];simp_all;omega)|(rw [Bool.eq_iff_iff];simp;omega)))))) ?_
  rintro ⟨d, n, s, p, mm⟩ hI
  dsimp only at hI ⊢
  rcases hI with ⟨rfl, rfl, rfl, rfl, hE⟩ | ⟨rfl, hn0, hn1, rfl, hp, rfl, hE⟩ | ⟨rfl, hn0, hn1, rfl, hp, rfl, hE⟩ | ⟨rfl, rfl, hE⟩
  · have K := KN mm p (by omega)
    simp only [numF] at hE
    by_cases hlt : p < xs.length
    · obtain ⟨z0, z1⟩ := bytesOk_get hx p hlt
      rw [List.getElem?_eq_getElem hlt] at hE K
      rw [if_pos hlt, show decide (p < xs.length) = true by simp [hlt]] at K
      dsimp only at hE K
      generalize xs[p] = z at *
      have hw0 : IntKind.i64.wrap (z - 128) = z - 128 := IntWalk.i64_in _ (by omega)
      have hw1 : IntKind.i64.wrap ((z - 128) * 1) = (z - 128) * 1 := IntWalk.i64_in _ (by omega)
      have hw2 : IntKind.i64.wrap (0 + (z - 128) * 1) = 0 + (z - 128) * 1 := IntWalk.i64_in _ (by omega)
      have hw3 : IntKind.i64.wrap ((1 : Int) * 128) = 1 * 128 := by decide
      have hw4 : IntKind.i64.wrap (((0 : Nat) : Int) + 1) = ((0 + 1 : Nat) : Int) := by decide
      have hw5 : IntKind.i64.wrap (z * 1) = z * 1 := IntWalk.i64_in _ (by omega)
      have hw6 : IntKind.i64.wrap (0 + z * 1) = 0 + z * 1 := IntWalk.i64_in _ (by omega)
      by_cases hb : 128 ≤ z
      · rw [if_pos hb] at hE
        clear KN
        repeat' (first|(with_reducible first|refine aw_seq ?_|refine thn_normal ?_|refine thn_ret ?_|refine thn_exit ?_|refine blk_normal ?_|refine blk_ret ?_|refine blk_hit ?_|refine blk_miss rfl ?_|refine aw_block ?_|refine aw_ret ?_|refine aw_skip ?_|refine aw_exit ?_|refine w_nil ?_|refine x_nil (by kernel_rfl) ?_)|refine aw_region ?_|refine aw_region_draw (by kernel_rfl) ?_|refine aw_yes rfl ?_|refine aw_no rfl ?_|((with_reducible refine w_seq ?_);first|refine r_q tbOk rfl rfl rfl rfl ?_|refine r_e tbOk rfl rfl rfl rfl rfl ?_|refine r_yes tbOk rfl rfl rfl rfl rfl rfl ?_|refine w_no rfl rfl (lookO_spec rfl) rfl rfl rfl ?_|refine w_un rfl rfl (lookO_spec rfl) rfl rfl ?_)|((with_reducible refine w_drw ?_);first|refine rx_q tbOk rfl rfl rfl rfl ?_|refine rx_e tbOk rfl rfl rfl rfl rfl ?_|refine rx_yes tbOk rfl rfl rfl rfl rfl rfl ?_|refine x_no rfl rfl (lookO_spec rfl) rfl rfl rfl ?_|refine x_un rfl rfl (lookO_spec rfl) rfl rfl ?_)|((first|refine' w_e rfl ?xa ?xb ?xc ?xe ?_|refine' v_e rfl ?xa ?xb ?xc ?xe ?_);(case xa => exact at_dst 15 rfl (e_callS [] K rfl ⟨asD_ren (evO_spec rfl), trivial⟩ (by (repeat' (first|exact trivial|refine subHR_cons rfl ?_ ?_|rfl))) rfl));(case xb => rfl);(case xc => rfl);(case xe => rfl);try dsimp only [P0.d, Res.d, List.map_cons, List.map_nil, List.set_cons_zero, List.set_cons_succ, Nat.reduceAdd])|((first|refine aw_ways rfl ?_ ?_|refine r_split rfl rfl rfl ?_ ?_) <;> intro hg_ <;> fail_if_success (exact Bool.noConfusion hg_)) <;> (try simp only [prn] at hg_) <;> (try first|contradiction|(exfalso;omega)))
        all_goals first
          | (exfalso; omega)
          | (refine ⟨(0 + 1, 0 + (z - 128) * 1, 1 * 128, p + 1, true), .inr (.inl ⟨rfl, by dsimp only; omega, by dsimp only; omega, rfl, by dsimp only; omega, rfl, hE⟩), ?_, by dsimp only; omega⟩
             (refine weak_ren [] rfl ?_ ?_ <;> repeat' (first|exact trivial|refine subR_cons rfl ?_ ?_|refine subHR_cons rfl ?_ ?_|rfl|(refine d_int ?_;(first|rfl|omega|(rw [IntWalk.i64_in _ (by omega)] <;> omega)|(simp;done)|(simp;omega)))|(refine d_bool ?_;(first|(simp_all;done)|(rw [Bool.eq_iff_iff];simp_all;done)|(rw [Bool.eq_iff_iff];simp_all;omega)|(rw [Bool.eq_iff_iff];simp;omega)))|exact d_int (by rw [hw0, hw1, hw2])|exact d_int hw3|exact d_int hw4)))
          | trace_state
      · rw [if_neg hb] at hE
        by_cases hz : z = 0 ∧ 0 < 0
        · rw [if_pos hz] at hE
          obtain ⟨hz1, hz2⟩ := hz
          subst hz1 hE
          clear KN
          repeat' (first|(with_reducible first|refine aw_seq ?_|refine thn_normal ?_|refine thn_ret ?_|refine thn_exit ?_|refine blk_normal ?_|refine blk_ret ?_|refine blk_hit ?_|refine blk_miss rfl ?_|refine aw_block ?_|refine aw_ret ?_|refine aw_skip ?_|refine aw_exit ?_|refine w_nil ?_|refine x_nil (by kernel_rfl) ?_)|refine aw_region ?_|refine aw_region_draw (by kernel_rfl) ?_|refine aw_yes rfl ?_|refine aw_no rfl ?_|((with_reducible refine w_seq ?_);first|refine r_q tbOk rfl rfl rfl rfl ?_|refine r_e tbOk rfl rfl rfl rfl rfl ?_|refine r_yes tbOk rfl rfl rfl rfl rfl rfl ?_|refine w_no rfl rfl (lookO_spec rfl) rfl rfl rfl ?_|refine w_un rfl rfl (lookO_spec rfl) rfl rfl ?_)|((with_reducible refine w_drw ?_);first|refine rx_q tbOk rfl rfl rfl rfl ?_|refine rx_e tbOk rfl rfl rfl rfl rfl ?_|refine rx_yes tbOk rfl rfl rfl rfl rfl rfl ?_|refine x_no rfl rfl (lookO_spec rfl) rfl rfl rfl ?_|refine x_un rfl rfl (lookO_spec rfl) rfl rfl ?_)|((first|refine' w_e rfl ?xa ?xb ?xc ?xe ?_|refine' v_e rfl ?xa ?xb ?xc ?xe ?_);(case xa => exact at_dst 15 rfl (e_callS [] K rfl ⟨asD_ren (evO_spec rfl), trivial⟩ (by (repeat' (first|exact trivial|refine subHR_cons rfl ?_ ?_|rfl))) rfl));(case xb => rfl);(case xc => rfl);(case xe => rfl);try dsimp only [P0.d, Res.d, List.map_cons, List.map_nil, List.set_cons_zero, List.set_cons_succ, Nat.reduceAdd])|((first|refine aw_ways rfl ?_ ?_|refine r_split rfl rfl rfl ?_ ?_) <;> intro hg_ <;> fail_if_success (exact Bool.noConfusion hg_)) <;> (try simp only [prn] at hg_) <;> (try first|contradiction|(exfalso;omega)))
          all_goals first
            | (exfalso; omega)
            | exact ret_D [] rfl (by (repeat' (first|exact trivial|refine subHR_cons rfl ?_ ?_|rfl))) (retD_tup2 (rv_tmp rfl (dres_int rfl)) (rv_tmp rfl (dres_bool rfl)) rfl)
            | trace_state
        · rw [if_neg hz] at hE
          subst hE
          clear KN
          repeat' (first|(with_reducible first|refine aw_seq ?_|refine thn_normal ?_|refine thn_ret ?_|refine thn_exit ?_|refine blk_normal ?_|refine blk_ret ?_|refine blk_hit ?_|refine blk_miss rfl ?_|refine aw_block ?_|refine aw_ret ?_|refine aw_skip ?_|refine aw_exit ?_|refine w_nil ?_|refine x_nil (by kernel_rfl) ?_)|refine aw_region ?_|refine aw_region_draw (by kernel_rfl) ?_|refine aw_yes rfl ?_|refine aw_no rfl ?_|((with_reducible refine w_seq ?_);first|refine r_q tbOk rfl rfl rfl rfl ?_|refine r_e tbOk rfl rfl rfl rfl rfl ?_|refine r_yes tbOk rfl rfl rfl rfl rfl rfl ?_|refine w_no rfl rfl (lookO_spec rfl) rfl rfl rfl ?_|refine w_un rfl rfl (lookO_spec rfl) rfl rfl ?_)|((with_reducible refine w_drw ?_);first|refine rx_q tbOk rfl rfl rfl rfl ?_|refine rx_e tbOk rfl rfl rfl rfl rfl ?_|refine rx_yes tbOk rfl rfl rfl rfl rfl rfl ?_|refine x_no rfl rfl (lookO_spec rfl) rfl rfl rfl ?_|refine x_un rfl rfl (lookO_spec rfl) rfl rfl ?_)|((first|refine' w_e rfl ?xa ?xb ?xc ?xe ?_|refine' v_e rfl ?xa ?xb ?xc ?xe ?_);(case xa => exact at_dst 15 rfl (e_callS [] K rfl ⟨asD_ren (evO_spec rfl), trivial⟩ (by (repeat' (first|exact trivial|refine subHR_cons rfl ?_ ?_|rfl))) rfl));(case xb => rfl);(case xc => rfl);(case xe => rfl);try dsimp only [P0.d, Res.d, List.map_cons, List.map_nil, List.set_cons_zero, List.set_cons_succ, Nat.reduceAdd])|((first|refine aw_ways rfl ?_ ?_|refine r_split rfl rfl rfl ?_ ?_) <;> intro hg_ <;> fail_if_success (exact Bool.noConfusion hg_)) <;> (try simp only [prn] at hg_) <;> (try first|contradiction|(exfalso;omega)))
          all_goals first
            | (exfalso; omega)
            | exact ret_D [] rfl (by (repeat' (first|exact trivial|refine subHR_cons rfl ?_ ?_|rfl))) (retD_tup2 (rv_tmp rfl (dres_int (by rw [hw5, hw6]))) (rv_tmp rfl (dres_bool (by rw [hw5, hw6]))) rfl)
            | trace_state
    · exfalso; omega
  · have K := KN true p (by omega)
    simp only [numF] at hE
    by_cases hlt : p < xs.length
    · obtain ⟨z0, z1⟩ := bytesOk_get hx p hlt
      rw [List.getElem?_eq_getElem hlt] at hE K
      rw [if_pos hlt, show decide (p < xs.length) = true by simp [hlt]] at K
      dsimp only at hE K
      generalize xs[p] = z at *
      have hw0 : IntKind.i64.wrap (z - 128) = z - 128 := IntWalk.i64_in _ (by omega)
      have hw1 : IntKind.i64.wrap ((z - 128) * 128) = (z - 128) * 128 := IntWalk.i64_in _ (by omega)
      have hw2 : IntKind.i64.wrap (n + (z - 128) * 128) = n + (z - 128) * 128 := IntWalk.i64_in _ (by omega)
      have hw3 : IntKind.i64.wrap ((128 : Int) * 128) = 128 * 128 := by decide
      have hw4 : IntKind.i64.wrap (((1 : Nat) : Int) + 1) = ((1 + 1 : Nat) : Int) := by decide
      have hw5 : IntKind.i64.wrap (z * 128) = z * 128 := IntWalk.i64_in _ (by omega)
      have hw6 : IntKind.i64.wrap (n + z * 128) = n + z * 128 := IntWalk.i64_in _ (by omega)
      by_cases hb : 128 ≤ z
      · rw [if_pos hb] at hE
        clear KN
        repeat' (first|(with_reducible first|refine aw_seq ?_|refine thn_normal ?_|refine thn_ret ?_|refine thn_exit ?_|refine blk_normal ?_|refine blk_ret ?_|refine blk_hit ?_|refine blk_miss rfl ?_|refine aw_block ?_|refine aw_ret ?_|refine aw_skip ?_|refine aw_exit ?_|refine w_nil ?_|refine x_nil (by kernel_rfl) ?_)|refine aw_region ?_|refine aw_region_draw (by kernel_rfl) ?_|refine aw_yes rfl ?_|refine aw_no rfl ?_|((with_reducible refine w_seq ?_);first|refine r_q tbOk rfl rfl rfl rfl ?_|refine r_e tbOk rfl rfl rfl rfl rfl ?_|refine r_yes tbOk rfl rfl rfl rfl rfl rfl ?_|refine w_no rfl rfl (lookO_spec rfl) rfl rfl rfl ?_|refine w_un rfl rfl (lookO_spec rfl) rfl rfl ?_)|((with_reducible refine w_drw ?_);first|refine rx_q tbOk rfl rfl rfl rfl ?_|refine rx_e tbOk rfl rfl rfl rfl rfl ?_|refine rx_yes tbOk rfl rfl rfl rfl rfl rfl ?_|refine x_no rfl rfl (lookO_spec rfl) rfl rfl rfl ?_|refine x_un rfl rfl (lookO_spec rfl) rfl rfl ?_)|((first|refine' w_e rfl ?xa ?xb ?xc ?xe ?_|refine' v_e rfl ?xa ?xb ?xc ?xe ?_);(case xa => exact at_dst 15 rfl (e_callS [] K rfl ⟨asD_ren (evO_spec rfl), trivial⟩ (by (repeat' (first|exact trivial|refine subHR_cons rfl ?_ ?_|rfl))) rfl));(case xb => rfl);(case xc => rfl);(case xe => rfl);try dsimp only [P0.d, Res.d, List.map_cons, List.map_nil, List.set_cons_zero, List.set_cons_succ, Nat.reduceAdd])|((first|refine aw_ways rfl ?_ ?_|refine r_split rfl rfl rfl ?_ ?_) <;> intro hg_ <;> fail_if_success (exact Bool.noConfusion hg_)) <;> (try simp only [prn] at hg_) <;> (try first|contradiction|(exfalso;omega)))
        all_goals first
          | (exfalso; omega)
          | (refine ⟨(1 + 1, n + (z - 128) * 128, 128 * 128, p + 1, true), .inr (.inr (.inl ⟨rfl, by dsimp only; omega, by dsimp only; omega, rfl, by dsimp only; omega, rfl, hE⟩)), ?_, by dsimp only; omega⟩
             (refine weak_ren [] rfl ?_ ?_ <;> repeat' (first|exact trivial|refine subR_cons rfl ?_ ?_|refine subHR_cons rfl ?_ ?_|rfl|(refine d_int ?_;(first|rfl|omega|(rw [IntWalk.i64_in _ (by omega)] <;> omega)|(simp;done)|(simp;omega)))|(refine d_bool ?_;(first|(simp_all;done)|(rw [Bool.eq_iff_iff];simp_all;done)|(rw [Bool.eq_iff_iff];simp_all;omega)|(rw [Bool.eq_iff_iff];simp;omega)))|exact d_int (by rw [hw0, hw1, hw2])|exact d_int hw3|exact d_int hw4)))
          | trace_state
      · rw [if_neg hb] at hE
        by_cases hz : z = 0 ∧ 0 < 1
        · rw [if_pos hz] at hE
          obtain ⟨hz1, hz2⟩ := hz
          subst hz1 hE
          clear KN
          repeat' (first|(with_reducible first|refine aw_seq ?_|refine thn_normal ?_|refine thn_ret ?_|refine thn_exit ?_|refine blk_normal ?_|refine blk_ret ?_|refine blk_hit ?_|refine blk_miss rfl ?_|refine aw_block ?_|refine aw_ret ?_|refine aw_skip ?_|refine aw_exit ?_|refine w_nil ?_|refine x_nil (by kernel_rfl) ?_)|refine aw_region ?_|refine aw_region_draw (by kernel_rfl) ?_|refine aw_yes rfl ?_|refine aw_no rfl ?_|((with_reducible refine w_seq ?_);first|refine r_q tbOk rfl rfl rfl rfl ?_|refine r_e tbOk rfl rfl rfl rfl rfl ?_|refine r_yes tbOk rfl rfl rfl rfl rfl rfl ?_|refine w_no rfl rfl (lookO_spec rfl) rfl rfl rfl ?_|refine w_un rfl rfl (lookO_spec rfl) rfl rfl ?_)|((with_reducible refine w_drw ?_);first|refine rx_q tbOk rfl rfl rfl rfl ?_|refine rx_e tbOk rfl rfl rfl rfl rfl ?_|refine rx_yes tbOk rfl rfl rfl rfl rfl rfl ?_|refine x_no rfl rfl (lookO_spec rfl) rfl rfl rfl ?_|refine x_un rfl rfl (lookO_spec rfl) rfl rfl ?_)|((first|refine' w_e rfl ?xa ?xb ?xc ?xe ?_|refine' v_e rfl ?xa ?xb ?xc ?xe ?_);(case xa => exact at_dst 15 rfl (e_callS [] K rfl ⟨asD_ren (evO_spec rfl), trivial⟩ (by (repeat' (first|exact trivial|refine subHR_cons rfl ?_ ?_|rfl))) rfl));(case xb => rfl);(case xc => rfl);(case xe => rfl);try dsimp only [P0.d, Res.d, List.map_cons, List.map_nil, List.set_cons_zero, List.set_cons_succ, Nat.reduceAdd])|((first|refine aw_ways rfl ?_ ?_|refine r_split rfl rfl rfl ?_ ?_) <;> intro hg_ <;> fail_if_success (exact Bool.noConfusion hg_)) <;> (try simp only [prn] at hg_) <;> (try first|contradiction|(exfalso;omega)))
          all_goals first
            | (exfalso; omega)
            | exact ret_D [] rfl (by (repeat' (first|exact trivial|refine subHR_cons rfl ?_ ?_|rfl))) (retD_tup2 (rv_tmp rfl (dres_int rfl)) (rv_tmp rfl (dres_bool rfl)) rfl)
            | trace_state
        · rw [if_neg hz] at hE
          subst hE
          clear KN
          repeat' (first|(with_reducible first|refine aw_seq ?_|refine thn_normal ?_|refine thn_ret ?_|refine thn_exit ?_|refine blk_normal ?_|refine blk_ret ?_|refine blk_hit ?_|refine blk_miss rfl ?_|refine aw_block ?_|refine aw_ret ?_|refine aw_skip ?_|refine aw_exit ?_|refine w_nil ?_|refine x_nil (by kernel_rfl) ?_)|refine aw_region ?_|refine aw_region_draw (by kernel_rfl) ?_|refine aw_yes rfl ?_|refine aw_no rfl ?_|((with_reducible refine w_seq ?_);first|refine r_q tbOk rfl rfl rfl rfl ?_|refine r_e tbOk rfl rfl rfl rfl rfl ?_|refine r_yes tbOk rfl rfl rfl rfl rfl rfl ?_|refine w_no rfl rfl (lookO_spec rfl) rfl rfl rfl ?_|refine w_un rfl rfl (lookO_spec rfl) rfl rfl ?_)|((with_reducible refine w_drw ?_);first|refine rx_q tbOk rfl rfl rfl rfl ?_|refine rx_e tbOk rfl rfl rfl rfl rfl ?_|refine rx_yes tbOk rfl rfl rfl rfl rfl rfl ?_|refine x_no rfl rfl (lookO_spec rfl) rfl rfl rfl ?_|refine x_un rfl rfl (lookO_spec rfl) rfl rfl ?_)|((first|refine' w_e rfl ?xa ?xb ?xc ?xe ?_|refine' v_e rfl ?xa ?xb ?xc ?xe ?_);(case xa => exact at_dst 15 rfl (e_callS [] K rfl ⟨asD_ren (evO_spec rfl), trivial⟩ (by (repeat' (first|exact trivial|refine subHR_cons rfl ?_ ?_|rfl))) rfl));(case xb => rfl);(case xc => rfl);(case xe => rfl);try dsimp only [P0.d, Res.d, List.map_cons, List.map_nil, List.set_cons_zero, List.set_cons_succ, Nat.reduceAdd])|((first|refine aw_ways rfl ?_ ?_|refine r_split rfl rfl rfl ?_ ?_) <;> intro hg_ <;> fail_if_success (exact Bool.noConfusion hg_)) <;> (try simp only [prn] at hg_) <;> (try first|contradiction|(exfalso;omega)))
          all_goals first
            | (exfalso; omega)
            | exact ret_D [] rfl (by (repeat' (first|exact trivial|refine subHR_cons rfl ?_ ?_|rfl))) (retD_tup2 (rv_tmp rfl (dres_int (by rw [hw5, hw6]))) (rv_tmp rfl (dres_bool (by rw [hw5, hw6]))) rfl)
            | trace_state
    · rw [List.getElem?_eq_none (by omega)] at hE K
      rw [if_neg hlt, show decide (p < xs.length) = false by simp [hlt]] at K
      dsimp only at hE K
      subst hE
      clear KN
      repeat' (first|(with_reducible first|refine aw_seq ?_|refine thn_normal ?_|refine thn_ret ?_|refine thn_exit ?_|refine blk_normal ?_|refine blk_ret ?_|refine blk_hit ?_|refine blk_miss rfl ?_|refine aw_block ?_|refine aw_ret ?_|refine aw_skip ?_|refine aw_exit ?_|refine w_nil ?_|refine x_nil (by kernel_rfl) ?_)|refine aw_region ?_|refine aw_region_draw (by kernel_rfl) ?_|refine aw_yes rfl ?_|refine aw_no rfl ?_|((with_reducible refine w_seq ?_);first|refine r_q tbOk rfl rfl rfl rfl ?_|refine r_e tbOk rfl rfl rfl rfl rfl ?_|refine r_yes tbOk rfl rfl rfl rfl rfl rfl ?_|refine w_no rfl rfl (lookO_spec rfl) rfl rfl rfl ?_|refine w_un rfl rfl (lookO_spec rfl) rfl rfl ?_)|((with_reducible refine w_drw ?_);first|refine rx_q tbOk rfl rfl rfl rfl ?_|refine rx_e tbOk rfl rfl rfl rfl rfl ?_|refine rx_yes tbOk rfl rfl rfl rfl rfl rfl ?_|refine x_no rfl rfl (lookO_spec rfl) rfl rfl rfl ?_|refine x_un rfl rfl (lookO_spec rfl) rfl rfl ?_)|((first|refine' w_e rfl ?xa ?xb ?xc ?xe ?_|refine' v_e rfl ?xa ?xb ?xc ?xe ?_);(case xa => exact at_dst 15 rfl (e_callS [] K rfl ⟨asD_ren (evO_spec rfl), trivial⟩ (by (repeat' (first|exact trivial|refine subHR_cons rfl ?_ ?_|rfl))) rfl));(case xb => rfl);(case xc => rfl);(case xe => rfl);try dsimp only [P0.d, Res.d, List.map_cons, List.map_nil, List.set_cons_zero, List.set_cons_succ, Nat.reduceAdd])|((first|refine aw_ways rfl ?_ ?_|refine r_split rfl rfl rfl ?_ ?_) <;> intro hg_ <;> fail_if_success (exact Bool.noConfusion hg_)) <;> (try simp only [prn] at hg_) <;> (try first|contradiction|(exfalso;omega)))
      all_goals first
        | (exfalso; omega)
        | exact ret_D [] rfl (by (repeat' (first|exact trivial|refine subHR_cons rfl ?_ ?_|rfl))) (retD_tup2 (rv_tmp rfl (dres_int rfl)) (rv_tmp rfl (dres_bool rfl)) rfl)
        | trace_state
  · have K := KN true p (by omega)
    simp only [numF] at hE
    by_cases hlt : p < xs.length
    · obtain ⟨z0, z1⟩ := bytesOk_get hx p hlt
      rw [List.getElem?_eq_getElem hlt] at hE K
      rw [if_pos hlt, show decide (p < xs.length) = true by simp [hlt]] at K
      dsimp only at hE K
      generalize xs[p] = z at *
      have hw0 : IntKind.i64.wrap (z - 128) = z - 128 := IntWalk.i64_in _ (by omega)
      have hw1 : IntKind.i64.wrap ((z - 128) * 16384) = (z - 128) * 16384 := IntWalk.i64_in _ (by omega)
      have hw2 : IntKind.i64.wrap (n + (z - 128) * 16384) = n + (z - 128) * 16384 := IntWalk.i64_in _ (by omega)
      have hw3 : IntKind.i64.wrap ((16384 : Int) * 128) = 16384 * 128 := by decide
      have hw4 : IntKind.i64.wrap (((2 : Nat) : Int) + 1) = ((2 + 1 : Nat) : Int) := by decide
      have hw5 : IntKind.i64.wrap (z * 16384) = z * 16384 := IntWalk.i64_in _ (by omega)
      have hw6 : IntKind.i64.wrap (n + z * 16384) = n + z * 16384 := IntWalk.i64_in _ (by omega)
      by_cases hb : 128 ≤ z
      · rw [if_pos hb] at hE
        clear KN
        repeat' (first|(with_reducible first|refine aw_seq ?_|refine thn_normal ?_|refine thn_ret ?_|refine thn_exit ?_|refine blk_normal ?_|refine blk_ret ?_|refine blk_hit ?_|refine blk_miss rfl ?_|refine aw_block ?_|refine aw_ret ?_|refine aw_skip ?_|refine aw_exit ?_|refine w_nil ?_|refine x_nil (by kernel_rfl) ?_)|refine aw_region ?_|refine aw_region_draw (by kernel_rfl) ?_|refine aw_yes rfl ?_|refine aw_no rfl ?_|((with_reducible refine w_seq ?_);first|refine r_q tbOk rfl rfl rfl rfl ?_|refine r_e tbOk rfl rfl rfl rfl rfl ?_|refine r_yes tbOk rfl rfl rfl rfl rfl rfl ?_|refine w_no rfl rfl (lookO_spec rfl) rfl rfl rfl ?_|refine w_un rfl rfl (lookO_spec rfl) rfl rfl ?_)|((with_reducible refine w_drw ?_);first|refine rx_q tbOk rfl rfl rfl rfl ?_|refine rx_e tbOk rfl rfl rfl rfl rfl ?_|refine rx_yes tbOk rfl rfl rfl rfl rfl rfl ?_|refine x_no rfl rfl (lookO_spec rfl) rfl rfl rfl ?_|refine x_un rfl rfl (lookO_spec rfl) rfl rfl ?_)|((first|refine' w_e rfl ?xa ?xb ?xc ?xe ?_|refine' v_e rfl ?xa ?xb ?xc ?xe ?_);(case xa => exact at_dst 15 rfl (e_callS [] K rfl ⟨asD_ren (evO_spec rfl), trivial⟩ (by (repeat' (first|exact trivial|refine subHR_cons rfl ?_ ?_|rfl))) rfl));(case xb => rfl);(case xc => rfl);(case xe => rfl);try dsimp only [P0.d, Res.d, List.map_cons, List.map_nil, List.set_cons_zero, List.set_cons_succ, Nat.reduceAdd])|((first|refine aw_ways rfl ?_ ?_|refine r_split rfl rfl rfl ?_ ?_) <;> intro hg_ <;> fail_if_success (exact Bool.noConfusion hg_)) <;> (try simp only [prn] at hg_) <;> (try first|contradiction|(exfalso;omega)))
        all_goals first
          | (exfalso; omega)
          | (refine ⟨(2 + 1, n + (z - 128) * 16384, 16384 * 128, p + 1, true), .inr (.inr (.inr ⟨rfl, rfl, hE⟩)), ?_, by dsimp only; omega⟩
             (refine weak_ren [] rfl ?_ ?_ <;> repeat' (first|exact trivial|refine subR_cons rfl ?_ ?_|refine subHR_cons rfl ?_ ?_|rfl|(refine d_int ?_;(first|rfl|omega|(rw [IntWalk.i64_in _ (by omega)] <;> omega)|(simp;done)|(simp;omega)))|(refine d_bool ?_;(first|(simp_all;done)|(rw [Bool.eq_iff_iff];simp_all;done)|(rw [Bool.eq_iff_iff];simp_all;omega)|(rw [Bool.eq_iff_iff];simp;omega)))|exact d_int (by rw [hw0, hw1, hw2])|exact d_int hw3|exact d_int hw4)))
          | trace_state
      · rw [if_neg hb] at hE
        by_cases hz : z = 0 ∧ 0 < 2
        · rw [if_pos hz] at hE
          obtain ⟨hz1, hz2⟩ := hz
          subst hz1 hE
          clear KN
          repeat' (first|(with_reducible first|refine aw_seq ?_|refine thn_normal ?_|refine thn_ret ?_|refine thn_exit ?_|refine blk_normal ?_|refine blk_ret ?_|refine blk_hit ?_|refine blk_miss rfl ?_|refine aw_block ?_|refine aw_ret ?_|refine aw_skip ?_|refine aw_exit ?_|refine w_nil ?_|refine x_nil (by kernel_rfl) ?_)|refine aw_region ?_|refine aw_region_draw (by kernel_rfl) ?_|refine aw_yes rfl ?_|refine aw_no rfl ?_|((with_reducible refine w_seq ?_);first|refine r_q tbOk rfl rfl rfl rfl ?_|refine r_e tbOk rfl rfl rfl rfl rfl ?_|refine r_yes tbOk rfl rfl rfl rfl rfl rfl ?_|refine w_no rfl rfl (lookO_spec rfl) rfl rfl rfl ?_|refine w_un rfl rfl (lookO_spec rfl) rfl rfl ?_)|((with_reducible refine w_drw ?_);first|refine rx_q tbOk rfl rfl rfl rfl ?_|refine rx_e tbOk rfl rfl rfl rfl rfl ?_|refine rx_yes tbOk rfl rfl rfl rfl rfl rfl ?_|refine x_no rfl rfl (lookO_spec rfl) rfl rfl rfl ?_|refine x_un rfl rfl (lookO_spec rfl) rfl rfl ?_)|((first|refine' w_e rfl ?xa ?xb ?xc ?xe ?_|refine' v_e rfl ?xa ?xb ?xc ?xe ?_);(case xa => exact at_dst 15 rfl (e_callS [] K rfl ⟨asD_ren (evO_spec rfl), trivial⟩ (by (repeat' (first|exact trivial|refine subHR_cons rfl ?_ ?_|rfl))) rfl));(case xb => rfl);(case xc => rfl);(case xe => rfl);try dsimp only [P0.d, Res.d, List.map_cons, List.map_nil, List.set_cons_zero, List.set_cons_succ, Nat.reduceAdd])|((first|refine aw_ways rfl ?_ ?_|refine r_split rfl rfl rfl ?_ ?_) <;> intro hg_ <;> fail_if_success (exact Bool.noConfusion hg_)) <;> (try simp only [prn] at hg_) <;> (try first|contradiction|(exfalso;omega)))
          all_goals first
            | (exfalso; omega)
            | exact ret_D [] rfl (by (repeat' (first|exact trivial|refine subHR_cons rfl ?_ ?_|rfl))) (retD_tup2 (rv_tmp rfl (dres_int rfl)) (rv_tmp rfl (dres_bool rfl)) rfl)
            | trace_state
        · rw [if_neg hz] at hE
          subst hE
          clear KN
          repeat' (first|(with_reducible first|refine aw_seq ?_|refine thn_normal ?_|refine thn_ret ?_|refine thn_exit ?_|refine blk_normal ?_|refine blk_ret ?_|refine blk_hit ?_|refine blk_miss rfl ?_|refine aw_block ?_|refine aw_ret ?_|refine aw_skip ?_|refine aw_exit ?_|refine w_nil ?_|refine x_nil (by kernel_rfl) ?_)|refine aw_region ?_|refine aw_region_draw (by kernel_rfl) ?_|refine aw_yes rfl ?_|refine aw_no rfl ?_|((with_reducible refine w_seq ?_);first|refine r_q tbOk rfl rfl rfl rfl ?_|refine r_e tbOk rfl rfl rfl rfl rfl ?_|refine r_yes tbOk rfl rfl rfl rfl rfl rfl ?_|refine w_no rfl rfl (lookO_spec rfl) rfl rfl rfl ?_|refine w_un rfl rfl (lookO_spec rfl) rfl rfl ?_)|((with_reducible refine w_drw ?_);first|refine rx_q tbOk rfl rfl rfl rfl ?_|refine rx_e tbOk rfl rfl rfl rfl rfl ?_|refine rx_yes tbOk rfl rfl rfl rfl rfl rfl ?_|refine x_no rfl rfl (lookO_spec rfl) rfl rfl rfl ?_|refine x_un rfl rfl (lookO_spec rfl) rfl rfl ?_)|((first|refine' w_e rfl ?xa ?xb ?xc ?xe ?_|refine' v_e rfl ?xa ?xb ?xc ?xe ?_);(case xa => exact at_dst 15 rfl (e_callS [] K rfl ⟨asD_ren (evO_spec rfl), trivial⟩ (by (repeat' (first|exact trivial|refine subHR_cons rfl ?_ ?_|rfl))) rfl));(case xb => rfl);(case xc => rfl);(case xe => rfl);try dsimp only [P0.d, Res.d, List.map_cons, List.map_nil, List.set_cons_zero, List.set_cons_succ, Nat.reduceAdd])|((first|refine aw_ways rfl ?_ ?_|refine r_split rfl rfl rfl ?_ ?_) <;> intro hg_ <;> fail_if_success (exact Bool.noConfusion hg_)) <;> (try simp only [prn] at hg_) <;> (try first|contradiction|(exfalso;omega)))
          all_goals first
            | (exfalso; omega)
            | exact ret_D [] rfl (by (repeat' (first|exact trivial|refine subHR_cons rfl ?_ ?_|rfl))) (retD_tup2 (rv_tmp rfl (dres_int (by rw [hw5, hw6]))) (rv_tmp rfl (dres_bool (by rw [hw5, hw6]))) rfl)
            | trace_state
    · rw [List.getElem?_eq_none (by omega)] at hE K
      rw [if_neg hlt, show decide (p < xs.length) = false by simp [hlt]] at K
      dsimp only at hE K
      subst hE
      clear KN
      repeat' (first|(with_reducible first|refine aw_seq ?_|refine thn_normal ?_|refine thn_ret ?_|refine thn_exit ?_|refine blk_normal ?_|refine blk_ret ?_|refine blk_hit ?_|refine blk_miss rfl ?_|refine aw_block ?_|refine aw_ret ?_|refine aw_skip ?_|refine aw_exit ?_|refine w_nil ?_|refine x_nil (by kernel_rfl) ?_)|refine aw_region ?_|refine aw_region_draw (by kernel_rfl) ?_|refine aw_yes rfl ?_|refine aw_no rfl ?_|((with_reducible refine w_seq ?_);first|refine r_q tbOk rfl rfl rfl rfl ?_|refine r_e tbOk rfl rfl rfl rfl rfl ?_|refine r_yes tbOk rfl rfl rfl rfl rfl rfl ?_|refine w_no rfl rfl (lookO_spec rfl) rfl rfl rfl ?_|refine w_un rfl rfl (lookO_spec rfl) rfl rfl ?_)|((with_reducible refine w_drw ?_);first|refine rx_q tbOk rfl rfl rfl rfl ?_|refine rx_e tbOk rfl rfl rfl rfl rfl ?_|refine rx_yes tbOk rfl rfl rfl rfl rfl rfl ?_|refine x_no rfl rfl (lookO_spec rfl) rfl rfl rfl ?_|refine x_un rfl rfl (lookO_spec rfl) rfl rfl ?_)|((first|refine' w_e rfl ?xa ?xb ?xc ?xe ?_|refine' v_e rfl ?xa ?xb ?xc ?xe ?_);(case xa => exact at_dst 15 rfl (e_callS [] K rfl ⟨asD_ren (evO_spec rfl), trivial⟩ (by (repeat' (first|exact trivial|refine subHR_cons rfl ?_ ?_|rfl))) rfl));(case xb => rfl);(case xc => rfl);(case xe => rfl);try dsimp only [P0.d, Res.d, List.map_cons, List.map_nil, List.set_cons_zero, List.set_cons_succ, Nat.reduceAdd])|((first|refine aw_ways rfl ?_ ?_|refine r_split rfl rfl rfl ?_ ?_) <;> intro hg_ <;> fail_if_success (exact Bool.noConfusion hg_)) <;> (try simp only [prn] at hg_) <;> (try first|contradiction|(exfalso;omega)))
      all_goals first
        | (exfalso; omega)
        | exact ret_D [] rfl (by (repeat' (first|exact trivial|refine subHR_cons rfl ?_ ?_|rfl))) (retD_tup2 (rv_tmp rfl (dres_int rfl)) (rv_tmp rfl (dres_bool rfl)) rfl)
        | trace_state
  · subst hE
    clear KN
    repeat' (first|(with_reducible first|refine aw_seq ?_|refine thn_normal ?_|refine thn_ret ?_|refine thn_exit ?_|refine blk_normal ?_|refine blk_ret ?_|refine blk_hit ?_|refine blk_miss rfl ?_|refine aw_block ?_|refine aw_ret ?_|refine aw_skip ?_|refine aw_exit ?_|refine w_nil ?_|refine x_nil (by kernel_rfl) ?_)|refine aw_region ?_|refine aw_region_draw (by kernel_rfl) ?_|refine aw_yes rfl ?_|refine aw_no rfl ?_|((with_reducible refine w_seq ?_);first|refine r_q tbOk rfl rfl rfl rfl ?_|refine r_e tbOk rfl rfl rfl rfl rfl ?_|refine r_yes tbOk rfl rfl rfl rfl rfl rfl ?_|refine w_no rfl rfl (lookO_spec rfl) rfl rfl rfl ?_|refine w_un rfl rfl (lookO_spec rfl) rfl rfl ?_)|((with_reducible refine w_drw ?_);first|refine rx_q tbOk rfl rfl rfl rfl ?_|refine rx_e tbOk rfl rfl rfl rfl rfl ?_|refine rx_yes tbOk rfl rfl rfl rfl rfl rfl ?_|refine x_no rfl rfl (lookO_spec rfl) rfl rfl rfl ?_|refine x_un rfl rfl (lookO_spec rfl) rfl rfl ?_)|((first|refine aw_ways rfl ?_ ?_|refine r_split rfl rfl rfl ?_ ?_) <;> intro hg_ <;> fail_if_success (exact Bool.noConfusion hg_)) <;> (try simp only [prn] at hg_) <;> (try first|contradiction|(exfalso;omega)))
    all_goals first
      | (exfalso; omega)
      | exact ret_D [] rfl (by (repeat' (first|exact trivial|refine subHR_cons rfl ?_ ?_|rfl))) (retD_tup2 (rv_tmp rfl (dres_int rfl)) (rv_tmp rfl (dres_bool rfl)) rfl)
      | trace_state
set_option maxRecDepth 100000 in
set_option maxHeartbeats 2000000 in
theorem f_brDone (m1 m2 nil : Bool) (xs : List Int) (i : Nat) : FnS Try.prog 120 [.one (.ptr 1000000000 0 0 0)] (brH 1000000000 m1 m2 nil xs i) (.one (.r true (bool (decide (i = xs.length))))) (brH 1000000000 m1 m2 nil xs i) := by
  have hl := ints_len xs
  unfold brH
  refine fnS_of (l := [.tmp 2]) Try.func120 (by kernel_rfl) rfl Try.ntmps120 rfl rfl ?_; simp only [dEnv, Nat.reduceAdd]
  repeat' (first|(with_reducible first|refine aw_seq ?_|refine thn_normal ?_|refine thn_ret ?_|refine thn_exit ?_|refine blk_normal ?_|refine blk_ret ?_|refine blk_hit ?_|refine blk_miss rfl ?_|refine aw_block ?_|refine aw_ret ?_|refine aw_skip ?_|refine aw_exit ?_|refine w_nil ?_|refine x_nil (by kernel_rfl) ?_)|refine aw_region ?_|refine aw_region_draw (by kernel_rfl) ?_|refine aw_yes rfl ?_|refine aw_no rfl ?_|((with_reducible refine w_seq ?_);first|refine r_q tbOk rfl rfl rfl rfl ?_|refine r_e tbOk rfl rfl rfl rfl rfl ?_|refine r_yes tbOk rfl rfl rfl rfl rfl rfl ?_|refine w_no rfl rfl (lookO_spec rfl) rfl rfl rfl ?_|refine w_un rfl rfl (lookO_spec rfl) rfl rfl ?_)|((with_reducible refine w_drw ?_);first|refine rx_q tbOk rfl rfl rfl rfl ?_|refine rx_e tbOk rfl rfl rfl rfl rfl ?_|refine rx_yes tbOk rfl rfl rfl rfl rfl rfl ?_|refine x_no rfl rfl (lookO_spec rfl) rfl rfl rfl ?_|refine x_un rfl rfl (lookO_spec rfl) rfl rfl ?_)|((first|refine aw_ways rfl ?_ ?_|refine r_split rfl rfl rfl ?_ ?_) <;> intro hg_ <;> fail_if_success (exact Bool.noConfusion hg_)) <;> (try simp only [prn] at hg_) <;> (try first|contradiction|(exfalso;omega)))
  all_goals first
    | exact ret_D [] rfl (by (repeat' (first|exact trivial|refine subHR_cons rfl ?_ ?_|rfl))) (retD_bool rfl rfl (by rw [hl, Bool.eq_iff_iff];simp;omega))
    | trace_state
end Go.Proofs.Ytmkecjamfippfaa.Abs
