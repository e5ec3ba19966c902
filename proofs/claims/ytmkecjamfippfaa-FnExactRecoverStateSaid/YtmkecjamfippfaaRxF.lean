/- Checkpoints by states: reading one record list by the reference. No statement of the seat is proved here. -/
import Derived.Lib.Hide
import Derived.Test.YtmkecjamfippfaaRxE
set_option linter.unusedSimpArgs false
set_option linter.unusedVariables false
namespace Go.Proofs.Ytmkecjamfippfaa.Abs
open Go.RowKit
open R (val row ref)

abbrev stateR (x : Sta) : P0 := stateP x.r x.vs.isEmpty x.vs x.gs.isEmpty x.gs x.ms.isEmpty x.ms
theorem cown {k n m sz : Nat} (h : n = m) : Cell.own k 0 n sz = .own k 0 m sz := by rw [h]
theorem var4 {E : TypeId} {a b c d a' b' c' d' : Cell} (h1 : a = a') (h2 : b = b') (h3 : c = c') (h4 : d = d') : Ob.var E [a, b, c, d] = .var E [a', b', c', d'] := by rw [h1, h2, h3, h4]
theorem wantB_len (x : Sta) : (wantB x).length ≤ 1048576 := by
  unfold wantB
  split
  · rename_i ho
    have hF := Sta.okF ho
    rw [ckB_len hF]
    have := hF.many
    have := hF.ml
    omega
  · simp
theorem wantB_ok (x : Sta) : (x.ok = false → wantB x = []) ∧ (x.ok = true → 0 < (wantB x).length ∧ ∀ D, (true && decide (ckB x <+: D)) = decide (wantB x <+: D)) := by
  constructor
  · intro h; unfold wantB; rw [h]; rfl
  · intro h
    have e : wantB x = ckB x := by unfold wantB; rw [h]; rfl
    rw [e]
    exact ⟨by rw [ckB_len (Sta.okF h)]; omega, fun D => by rw [Bool.true_and]⟩
theorem rcdH_form {b : List Int} {n1 i1 n2 i2 n3 i3 : Int} {t1 t2 t3 : Bool} (h1 : decAt (1 :: b) 1 = (if t1 then some (n1, i1) else none)) (h2 : decAt (1 :: b) i1 = (if t2 then some (n2, i2) else none)) (h3 : decAt (1 :: b) i2 = (if t3 then some (n3, i3) else none)) :
    rcdH (1 :: b) = if t1 && t2 && t3 then some (n1, n2, n3) else none := by
  unfold rcdH
  rw [List.head?_cons, if_pos rfl, h1]
  cases t1
  · rfl
  · simp only [if_true]
    rw [h2]
    cases t2
    · rfl
    · simp only [if_true]
      rw [h3]
      cases t3 <;> rfl
theorem rcdH_no {b : List Int} (h : b.head? ≠ some 1) : rcdH b = none := by unfold rcdH; rw [if_neg h]
set_option maxRecDepth 100000 in
set_option maxHeartbeats 8000000 in
theorem f_l18ReadZ (nil : Bool) (L : List (List Int)) (at_ : Nat) (hat : at_ < L.length) (hh : L[at_].head? ≠ some 1) : Fn Try.prog 38 [.one (row nil 1 (rowsI L)), iP (at_ : Int)] (.tup [stateP 0 true [] true [] true [], iP 0, .one (bool false)]) := by
  have hlenL := rowsI_len L
  have hx := rowsI_at hat
  generalize L[at_] = b at *
  cases b with
  | nil =>
    refine fn_of (l := [.cell 4 28, .tmp 5, .tmp 6]) Try.func38 (by kernel_rfl) rfl Try.ntmps38 rfl rfl ?_; simp only [argEnv, P0.d, Nat.reduceAdd]
    repeat' (first|(with_reducible first|refine aw_seq ?_|refine thn_normal ?_|refine thn_ret ?_|refine thn_exit ?_|refine blk_normal ?_|refine blk_ret ?_|refine blk_hit ?_|refine blk_miss rfl ?_|refine aw_block ?_|refine aw_ret ?_|refine aw_skip ?_|refine aw_exit ?_|refine w_nil ?_|refine x_nil (by kernel_rfl) ?_)|refine aw_region ?_|refine aw_region_draw (by kernel_rfl) ?_|refine aw_yes rfl ?_|refine aw_no rfl ?_|((with_reducible refine w_seq ?_); first|refine r_q tbOk rfl rfl rfl rfl ?_|refine r_e tbOk rfl rfl rfl rfl rfl ?_|refine r_yes tbOk rfl rfl rfl rfl rfl rfl ?_|refine w_no rfl rfl (lookO_spec rfl) rfl rfl rfl ?_|refine w_un rfl rfl (lookO_spec rfl) rfl rfl ?_)|((with_reducible refine w_drw ?_); first|refine rx_q tbOk rfl rfl rfl rfl ?_|refine rx_e tbOk rfl rfl rfl rfl rfl ?_|refine rx_yes tbOk rfl rfl rfl rfl rfl rfl ?_|refine x_no rfl rfl (lookO_spec rfl) rfl rfl rfl ?_|refine x_un rfl rfl (lookO_spec rfl) rfl rfl ?_)|((first|refine' w_q rfl rfl ?xa rfl ?_|refine' v_q rfl rfl ?xa rfl ?_|refine' w_yes rfl rfl (lookO_spec rfl) rfl ?xa rfl ?_|refine' v_yes rfl rfl (lookO_spec rfl) rfl ?xa rfl ?_); case xa => exact k_index tbOk rfl rfl rfl rfl (by omega) hx)|((first|refine aw_ways rfl ?_ ?_|refine r_split rfl rfl rfl ?_ ?_) <;> intro hg_ <;> fail_if_success (exact Bool.noConfusion hg_)) <;> (try simp only [prn] at hg_) <;> (try first|contradiction|(exfalso; omega)))
    all_goals first
      | exact ret_3 (rv_cell rfl rfl (by (with_reducible first | exact ty3 | exact ty4 | exact ty5 | exact ty9 | exact ty17 | exact ty19 | exact ty22 | exact ty24 | exact ty25 | exact ty26 | exact ty28 | exact ty36 | exact ty38 | exact ty40 | exact ty44 | exact ty46 | exact ty48 | exact ty55 | exact ty81 | exact ty84 | exact ty89 | exact ty95 | exact ty98 | exact ty105 | exact ty118 | exact ty122 | exact ty132 | exact ty134 | exact ty137 | exact ty143 | exact ty153 | exact ty155 | exact ty156 | exact ty161)) rfl rfl rfl (dres_agg (by exact ⟨cres_val, cres_nil, cres_nil, cres_nil, trivial⟩))) (rv_tmp rfl (dres_int rfl)) (rv_tmp rfl (dres_bool rfl))
      | (exfalso; simp_all; done)
      | trace_state
  | cons z b =>
    have hz : z ≠ 1 := fun e => hh (by rw [e]; rfl)
    have hx2 : (ints (z :: b))[(0 : Int).toNat]? = some (iP z) := rfl
    refine fn_of (l := [.cell 4 28, .tmp 5, .tmp 6]) Try.func38 (by kernel_rfl) rfl Try.ntmps38 rfl rfl ?_; simp only [argEnv, P0.d, Nat.reduceAdd]
    repeat' (first|(with_reducible first|refine aw_seq ?_|refine thn_normal ?_|refine thn_ret ?_|refine thn_exit ?_|refine blk_normal ?_|refine blk_ret ?_|refine blk_hit ?_|refine blk_miss rfl ?_|refine aw_block ?_|refine aw_ret ?_|refine aw_skip ?_|refine aw_exit ?_|refine w_nil ?_|refine x_nil (by kernel_rfl) ?_)|refine aw_region ?_|refine aw_region_draw (by kernel_rfl) ?_|refine aw_yes rfl ?_|refine aw_no rfl ?_|((with_reducible refine w_seq ?_); first|refine r_q tbOk rfl rfl rfl rfl ?_|refine r_e tbOk rfl rfl rfl rfl rfl ?_|refine r_yes tbOk rfl rfl rfl rfl rfl rfl ?_|refine w_no rfl rfl (lookO_spec rfl) rfl rfl rfl ?_|refine w_un rfl rfl (lookO_spec rfl) rfl rfl ?_)|((with_reducible refine w_drw ?_); first|refine rx_q tbOk rfl rfl rfl rfl ?_|refine rx_e tbOk rfl rfl rfl rfl rfl ?_|refine rx_yes tbOk rfl rfl rfl rfl rfl rfl ?_|refine x_no rfl rfl (lookO_spec rfl) rfl rfl rfl ?_|refine x_un rfl rfl (lookO_spec rfl) rfl rfl ?_)|((first|refine' w_q rfl rfl ?xa rfl ?_|refine' v_q rfl rfl ?xa rfl ?_|refine' w_yes rfl rfl (lookO_spec rfl) rfl ?xa rfl ?_|refine' v_yes rfl rfl (lookO_spec rfl) rfl ?xa rfl ?_); case xa => exact k_index tbOk rfl rfl rfl rfl (by omega) (by first|exact hx|exact hx2))|((first|refine aw_ways rfl ?_ ?_|refine r_split rfl rfl rfl ?_ ?_) <;> intro hg_ <;> fail_if_success (exact Bool.noConfusion hg_)) <;> (try simp only [prn] at hg_) <;> (try first|contradiction|(exfalso; omega)))
    all_goals first
      | exact ret_3 (rv_cell rfl rfl (by (with_reducible first | exact ty3 | exact ty4 | exact ty5 | exact ty9 | exact ty17 | exact ty19 | exact ty22 | exact ty24 | exact ty25 | exact ty26 | exact ty28 | exact ty36 | exact ty38 | exact ty40 | exact ty44 | exact ty46 | exact ty48 | exact ty55 | exact ty81 | exact ty84 | exact ty89 | exact ty95 | exact ty98 | exact ty105 | exact ty118 | exact ty122 | exact ty132 | exact ty134 | exact ty137 | exact ty143 | exact ty153 | exact ty155 | exact ty156 | exact ty161)) rfl rfl rfl (dres_agg (by exact ⟨cres_val, cres_nil, cres_nil, cres_nil, trivial⟩))) (rv_tmp rfl (dres_int rfl)) (rv_tmp rfl (dres_bool rfl))
      | (exfalso; simp_all; done)
      | trace_state
theorem rdLoop_V {D : List (List Int)} {M f k : Nat} {x : Sta} {c : List Int} {n j : Int} {t : Bool} (hk : k < M) (hc : D.getD (k + 1) [] = c) (f1 : decAt c 1 = if t then some (n, j) else none) :
    rdLoop D M (f + 1) k x = if t = true ∧ j = (c.length : Int) - 1 then rdLoop D M f (k + 1) ⟨x.r, x.vs ++ [n - 1], x.gs ++ [c.getD j.toNat 0 == 1], x.ms⟩ else (x, false) := by
  rw [rdLoop, if_pos hk, hc]
  unfold rcdV
  rw [f1]
  cases t
  · simp
  · simp only [if_true, true_and]
    by_cases h : j = (c.length : Int) - 1
    · rw [if_pos h, if_pos h]
    · rw [if_neg h, if_neg h]
theorem rdLoop_M {D : List (List Int)} {M f k : Nat} {x : Sta} {c : List Int} {e : E3} {t : Bool} (hk : ¬ k < M) (hc : D.getD (k + 1) [] = c) (f1 : readE (c.drop 1) = if t then some e else none) :
    rdLoop D M (f + 1) k x = if t = true then rdLoop D M f (k + 1) ⟨x.r, x.vs, x.gs, x.ms ++ [e]⟩ else (x, false) := by
  rw [rdLoop, if_neg hk, hc, f1]
  cases t <;> simp
theorem hdG {D : List (List Int)} {b : List Int} {n1 i1 n2 i2 n3 i3 : Int} {t1 t2 t3 : Bool} (h1 : decAt (1 :: b) 1 = (if t1 then some (n1, i1) else none)) (h2 : decAt (1 :: b) i1 = (if t2 then some (n2, i2) else none)) (h3 : decAt (1 :: b) i2 = (if t3 then some (n3, i3) else none)) :
    rdRes ((1 :: b) :: D) = if t1 = true ∧ t2 = true ∧ t3 = true ∧ n2 ≤ 16 ∧ n3 ≤ 2000 ∧ n2 + n3 + 1 < (((1 :: b) :: D).length : Int) then rdFin ((1 :: b) :: D) (rdLoop ((1 :: b) :: D) n2.toNat (n2.toNat + n3.toNat) 0 ⟨n1, [], [], []⟩) else (zSta, 0, false) := by
  unfold rdRes
  simp only [rcdH_form h1 h2 h3]
  cases t1 <;> cases t2 <;> cases t3 <;> simp
set_option maxRecDepth 100000 in
set_option maxHeartbeats 16000000 in
theorem f_l18Read1 (nil : Bool) (L : List (List Int)) (at_ : Nat) (hl : L.length ≤ 2000) (hat : at_ < L.length) (hL : ∀ b ∈ L, b.length ≤ 1048576) (hh : L[at_].head? = some 1) :
    Fn Try.prog 38 [.one (row nil 1 (rowsI L)), iP (at_ : Int)] (.tup [stateR (rdRes (L.drop at_)).1, iP (rdRes (L.drop at_)).2.1, .one (bool (rdRes (L.drop at_)).2.2)]) := by
  have hlenL := rowsI_len L
  have hx := rowsI_at hat
  have hD := List.drop_eq_getElem_cons hat
  have hgetD : ∀ k, at_ + (k + 1) < L.length → ∃ c, (L.drop at_).getD (k + 1) [] = c ∧ (rowsI L)[((at_ + 1 + k : Nat) : Int).toNat]? = some (rowP c) ∧ c.length ≤ 1048576 := fun k hk => ⟨L[at_ + (k + 1)], by rw [List.getD_eq_getElem?_getD, List.getElem?_drop, List.getElem?_eq_getElem hk]; rfl, by rw [show at_ + 1 + k = at_ + (k + 1) by omega]; exact rowsI_at hk, hL _ (List.getElem_mem hk)⟩
  obtain ⟨b, hb⟩ : ∃ b, L[at_] = 1 :: b := by
    cases hc : L[at_] with
    | nil => rw [hc] at hh; cases hh
    | cons z b => rw [hc] at hh; simp only [List.head?_cons, Option.some.injEq] at hh; exact ⟨b, by rw [hh]⟩
  rw [hb] at hx hD
  have hx2 : (ints (1 :: b))[(0 : Int).toNat]? = some (iP 1) := rfl
  have hlD : (L.drop at_).length = L.length - at_ := List.length_drop ..
  obtain ⟨n1, i1, t1, e1, f1, g1⟩ := decForm (decAt (1 :: b) 1)
  obtain ⟨n2, i2, t2, e2, f2, g2⟩ := decForm (decAt (1 :: b) i1)
  obtain ⟨n3, i3, t3, e3, f3, g3⟩ := decForm (decAt (1 :: b) i2)
  have hX := hdG (D := L.drop (at_ + 1)) f1 f2 f3
  rw [← hD, hlD] at hX
  have hb2 : 0 ≤ n2 ∧ n2 ≤ 1000000 := by
    cases h : t2
    · have := g2 h; omega
    · have := decForm_at f2 h; omega
  have hb3 : 0 ≤ n3 ∧ n3 ≤ 1000000 := by
    cases h : t3
    · have := g3 h; omega
    · have := decForm_at f3 h; omega
  have KD1 := f_specDecode false (1 :: b) 1
  have KD2 := f_specDecode false (1 :: b) i1
  have KD3 := f_specDecode false (1 :: b) i2
  rw [e1] at KD1
  rw [e2] at KD2
  rw [e3] at KD3
  clear e1 e2 e3 f1 f2 f3 g1 g2 g3 hD hlD hh hb
  have hw0 : IntKind.i64.wrap ((at_ : Int) + 1) = ((at_ + 1 + 0 : Nat) : Int) := by rw [IntWalk.i64_in _ (by omega)]; omega
  have hL0 := hL
  clear hL
  obtain ⟨N2, rfl⟩ := Int.eq_ofNat_of_zero_le hb2.1
  obtain ⟨N3, rfl⟩ := Int.eq_ofNat_of_zero_le hb3.1
  have hw1 : IntKind.i64.wrap ((at_ : Int) + (N2 : Int)) = (at_ : Int) + N2 := IntWalk.i64_in _ (by omega)
  have hw2 : IntKind.i64.wrap (IntKind.i64.wrap ((at_ : Int) + (N2 : Int)) + (N3 : Int)) = (at_ : Int) + N2 + N3 := by rw [hw1]; exact IntWalk.i64_in _ (by omega)
  have hw3 : IntKind.i64.wrap (IntKind.i64.wrap (IntKind.i64.wrap ((at_ : Int) + (N2 : Int)) + (N3 : Int)) + 1) = (at_ : Int) + N2 + N3 + 1 := by rw [hw2]; exact IntWalk.i64_in _ (by omega)
  by_cases hg : t1 = true ∧ t2 = true ∧ t3 = true ∧ (N2 : Int) ≤ 16 ∧ (N3 : Int) ≤ 2000 ∧ (N2 : Int) + (N3 : Int) + 1 < ((L.length - at_ : Nat) : Int)
  · rw [if_pos hg] at hX
    rw [hX]
    obtain ⟨rfl, rfl, rfl, q1, q2, q3⟩ := hg
    rw [Int.toNat_natCast, Int.toNat_natCast]
    clear hX
    refine fn_of (l := [.cell 4 28, .tmp 5, .tmp 6]) Try.func38 (by kernel_rfl) rfl Try.ntmps38 rfl rfl ?_; simp only [argEnv, P0.d, Nat.reduceAdd]
    repeat' (first|(with_reducible first|refine aw_seq ?_|refine thn_normal ?_|refine thn_ret ?_|refine thn_exit ?_|refine blk_normal ?_|refine blk_ret ?_|refine blk_hit ?_|refine blk_miss rfl ?_|refine aw_block ?_|refine aw_ret ?_|refine aw_skip ?_|refine aw_exit ?_|refine w_nil ?_|refine x_nil (by kernel_rfl) ?_)|refine aw_region ?_|refine aw_region_draw (by kernel_rfl) ?_|refine aw_yes rfl ?_|refine aw_no rfl ?_|((with_reducible refine w_seq ?_); first|refine r_q tbOk rfl rfl rfl rfl ?_|refine r_e tbOk rfl rfl rfl rfl rfl ?_|refine r_yes tbOk rfl rfl rfl rfl rfl rfl ?_|refine w_no rfl rfl (lookO_spec rfl) rfl rfl rfl ?_|refine w_un rfl rfl (lookO_spec rfl) rfl rfl ?_)|((with_reducible refine w_drw ?_); first|refine rx_q tbOk rfl rfl rfl rfl ?_|refine rx_e tbOk rfl rfl rfl rfl rfl ?_|refine rx_yes tbOk rfl rfl rfl rfl rfl rfl ?_|refine x_no rfl rfl (lookO_spec rfl) rfl rfl rfl ?_|refine x_un rfl rfl (lookO_spec rfl) rfl rfl ?_)|((first|refine' w_q rfl rfl ?xa rfl ?_|refine' v_q rfl rfl ?xa rfl ?_|refine' w_yes rfl rfl (lookO_spec rfl) rfl ?xa rfl ?_|refine' v_yes rfl rfl (lookO_spec rfl) rfl ?xa rfl ?_); case xa => first|exact k_index tbOk rfl rfl rfl rfl (by omega) (by first|exact hx|exact hx2)|exact k_call KD1 rfl ⟨asA_r (evO_spec rfl), asA_r (evO_spec rfl), trivial⟩|exact k_call KD2 rfl ⟨asA_r (evO_spec rfl), asA_r (evO_spec rfl), trivial⟩|exact k_call KD3 rfl ⟨asA_r (evO_spec rfl), asA_r (evO_spec rfl), trivial⟩)|((first|refine aw_ways rfl ?_ ?_|refine r_split rfl rfl rfl ?_ ?_) <;> intro hg_ <;> fail_if_success (exact Bool.noConfusion hg_)) <;> (try simp only [prn] at hg_) <;> (try first|contradiction|(exfalso; omega)))
    -- LOOP
    obtain ⟨F, hF00, hF10, hF01, hF11⟩ : ∃ F : Nat × List Int × List Bool × List E3 → St,
        (∀ k, F (k, [], [], []) = mkS 200 [(17, .one (.r true (int ((at_ + 1 + k : Nat) : Int)))), (14, .one (.r true (int (N3 : Int)))), (11, .one (.r true (int (N2 : Int)))), (7, .one (.ptr 7 0 0 0)), (4, .one (.ptr 4 0 0 0)), (1, .one (.r false (int (at_ : Int)))), (0, .one (.r false (row nil 1 (rowsI L))))] [(7, .var 28 [.r true (int n1), .r true (row true 0 []), .r true (row true 0 []), .r true (row true 0 [])]), (4, .var 28 [.r true (int 0), .r true (row true 0 []), .r true (row true 0 []), .r true (row true 0 [])])]) ∧
        (∀ k vs gs, vs ≠ [] → gs ≠ [] → F (k, vs, gs, []) = mkS 200 [(17, .one (.r true (int ((at_ + 1 + k : Nat) : Int)))), (14, .one (.r true (int (N3 : Int)))), (11, .one (.r true (int (N2 : Int)))), (7, .one (.ptr 7 0 0 0)), (4, .one (.ptr 4 0 0 0)), (1, .one (.r false (int (at_ : Int)))), (0, .one (.r false (row nil 1 (rowsI L))))] [(7, .var 28 [.r true (int n1), .own 101 0 (vs).length 1, .own 102 0 (gs).length 1, .r true (row true 0 [])]), (101, .sl 3 1 true (ints (vs))), (102, .sl 4 1 true (bools (gs))), (4, .var 28 [.r true (int 0), .r true (row true 0 []), .r true (row true 0 []), .r true (row true 0 [])])]) ∧
        (∀ k ms, ms ≠ [] → F (k, [], [], ms) = mkS 200 [(17, .one (.r true (int ((at_ + 1 + k : Nat) : Int)))), (14, .one (.r true (int (N3 : Int)))), (11, .one (.r true (int (N2 : Int)))), (7, .one (.ptr 7 0 0 0)), (4, .one (.ptr 4 0 0 0)), (1, .one (.r false (int (at_ : Int)))), (0, .one (.r false (row nil 1 (rowsI L))))] [(7, .var 28 [.r true (int n1), .r true (row true 0 []), .r true (row true 0 []), .own 103 0 (ms).length 3]), (103, .sl 95 3 true (edges (ms))), (4, .var 28 [.r true (int 0), .r true (row true 0 []), .r true (row true 0 []), .r true (row true 0 [])])]) ∧
        (∀ k vs gs ms, vs ≠ [] → gs ≠ [] → ms ≠ [] → F (k, vs, gs, ms) = mkS 200 [(17, .one (.r true (int ((at_ + 1 + k : Nat) : Int)))), (14, .one (.r true (int (N3 : Int)))), (11, .one (.r true (int (N2 : Int)))), (7, .one (.ptr 7 0 0 0)), (4, .one (.ptr 4 0 0 0)), (1, .one (.r false (int (at_ : Int)))), (0, .one (.r false (row nil 1 (rowsI L))))] [(7, .var 28 [.r true (int n1), .own 101 0 (vs).length 1, .own 102 0 (gs).length 1, .own 103 0 (ms).length 3]), (101, .sl 3 1 true (ints (vs))), (102, .sl 4 1 true (bools (gs))), (103, .sl 95 3 true (edges (ms))), (4, .var 28 [.r true (int 0), .r true (row true 0 []), .r true (row true 0 []), .r true (row true 0 [])])]) := by
      refine ⟨fun y => if y.2.1.isEmpty then (if y.2.2.2.isEmpty then mkS 200 [(17, .one (.r true (int ((at_ + 1 + y.1 : Nat) : Int)))), (14, .one (.r true (int (N3 : Int)))), (11, .one (.r true (int (N2 : Int)))), (7, .one (.ptr 7 0 0 0)), (4, .one (.ptr 4 0 0 0)), (1, .one (.r false (int (at_ : Int)))), (0, .one (.r false (row nil 1 (rowsI L))))] [(7, .var 28 [.r true (int n1), .r true (row true 0 []), .r true (row true 0 []), .r true (row true 0 [])]), (4, .var 28 [.r true (int 0), .r true (row true 0 []), .r true (row true 0 []), .r true (row true 0 [])])] else mkS 200 [(17, .one (.r true (int ((at_ + 1 + y.1 : Nat) : Int)))), (14, .one (.r true (int (N3 : Int)))), (11, .one (.r true (int (N2 : Int)))), (7, .one (.ptr 7 0 0 0)), (4, .one (.ptr 4 0 0 0)), (1, .one (.r false (int (at_ : Int)))), (0, .one (.r false (row nil 1 (rowsI L))))] [(7, .var 28 [.r true (int n1), .r true (row true 0 []), .r true (row true 0 []), .own 103 0 (y.2.2.2).length 3]), (103, .sl 95 3 true (edges (y.2.2.2))), (4, .var 28 [.r true (int 0), .r true (row true 0 []), .r true (row true 0 []), .r true (row true 0 [])])]) else (if y.2.2.2.isEmpty then mkS 200 [(17, .one (.r true (int ((at_ + 1 + y.1 : Nat) : Int)))), (14, .one (.r true (int (N3 : Int)))), (11, .one (.r true (int (N2 : Int)))), (7, .one (.ptr 7 0 0 0)), (4, .one (.ptr 4 0 0 0)), (1, .one (.r false (int (at_ : Int)))), (0, .one (.r false (row nil 1 (rowsI L))))] [(7, .var 28 [.r true (int n1), .own 101 0 (y.2.1).length 1, .own 102 0 (y.2.2.1).length 1, .r true (row true 0 [])]), (101, .sl 3 1 true (ints (y.2.1))), (102, .sl 4 1 true (bools (y.2.2.1))), (4, .var 28 [.r true (int 0), .r true (row true 0 []), .r true (row true 0 []), .r true (row true 0 [])])] else mkS 200 [(17, .one (.r true (int ((at_ + 1 + y.1 : Nat) : Int)))), (14, .one (.r true (int (N3 : Int)))), (11, .one (.r true (int (N2 : Int)))), (7, .one (.ptr 7 0 0 0)), (4, .one (.ptr 4 0 0 0)), (1, .one (.r false (int (at_ : Int)))), (0, .one (.r false (row nil 1 (rowsI L))))] [(7, .var 28 [.r true (int n1), .own 101 0 (y.2.1).length 1, .own 102 0 (y.2.2.1).length 1, .own 103 0 (y.2.2.2).length 3]), (101, .sl 3 1 true (ints (y.2.1))), (102, .sl 4 1 true (bools (y.2.2.1))), (103, .sl 95 3 true (edges (y.2.2.2))), (4, .var 28 [.r true (int 0), .r true (row true 0 []), .r true (row true 0 []), .r true (row true 0 [])])]), fun k => rfl, fun k vs gs h1 h2 => ?_, fun k ms h1 => ?_, fun k vs gs ms h1 h2 h3 => ?_⟩
      · cases vs with
        | nil => exact absurd rfl h1
        | cons v vs => rfl
      · cases ms with
        | nil => exact absurd rfl h1
        | cons v vs => rfl
      · cases vs with
        | nil => exact absurd rfl h1
        | cons v vs => cases ms with
          | nil => exact absurd rfl h3
          | cons v vs => rfl
    have hlD : (L.drop at_).length = L.length - at_ := List.length_drop ..
    obtain ⟨R, hR⟩ : ∃ R, R = rdLoop (L.drop at_) N2 (N2 + N3) 0 ⟨n1, [], [], []⟩ := ⟨_, rfl⟩
    rw [← hR]
    have hall : ∀ b ∈ L, b.length ≤ 1048576 := hL0
    generalize hDD : L.drop at_ = D at *
    have hR2 : ∀ x : Sta, R = (x, false) → rdFin D R = (x, 0, false) := fun x h => by rw [h]; rfl
    have hR3 : ∀ x : Sta, R = (x, true) → rdFin D R = (x, ((wantB x).length : Int), x.ok && decide (ckB x <+: D)) := fun x h => by rw [h]; rfl
    generalize rdFin D R = X at *
    refine aw_loopI (fun y : Nat × List Int × List Bool × List E3 => y.1 ≤ N2 + N3 ∧ R = rdLoop D N2 (N2 + N3 - y.1) y.1 ⟨n1, y.2.1, y.2.2.1, y.2.2.2⟩ ∧ y.2.1.length = min y.1 N2 ∧ y.2.2.1.length = y.2.1.length ∧ y.2.2.2.length = y.1 - N2) F (fun y => N2 + N3 - y.1) (0, [], [], []) ⟨Nat.zero_le _, hR, by simp, rfl, by simp⟩ (by
      rw [hF00]
      (refine weak_ren [] rfl ?_ ?_ <;> repeat' (first|exact trivial|refine subR_cons rfl ?_ ?_|refine subHR_cons rfl ?_ ?_|rfl|(refine d_int ?_; (first|rfl|omega|(rw [IntWalk.i64_in _ (by omega)] <;> omega)|(simp; done)|(simp; omega)))|(refine d_bool ?_; (first|(simp_all; done)|(rw [Bool.eq_iff_iff]; simp_all; done)|(rw [Bool.eq_iff_iff]; simp_all; omega)|(rw [Bool.eq_iff_iff]; simp; omega)))|exact d_int hw0))) ?_
    rintro ⟨k, vs, gs, ms⟩ ⟨hk, hRk, hvl, hgl, hml⟩
    dsimp only at hk hRk hvl hgl hml
    clear hR KD1 KD2 KD3 hx hx2
    by_cases hkt : k < N2 + N3
    · have hf : N2 + N3 - k = (N2 + N3 - (k + 1)) + 1 := by omega
      rw [hf] at hRk
      obtain ⟨c, hc, hxc, hcl⟩ := hgetD k (by omega)
      have hci := ints_len c
      have hwc : IntKind.i64.wrap (((ints c).length : Int) - 1) = (c.length : Int) - 1 := by rw [hci]; exact IntWalk.i64_in _ (by omega)
      have hwk : IntKind.i64.wrap (((at_ + 1 + k : Nat) : Int) + 1) = ((at_ + 1 + (k + 1) : Nat) : Int) := by rw [IntWalk.i64_in _ (by omega)]; omega
      by_cases hkv : k < N2
      · have hms : ms = [] := List.eq_nil_of_length_eq_zero (by omega)
        subst hms
        obtain ⟨n, j, t, e1, f1, g1⟩ := decForm (decAt c 1)
        have KV := f_specDecode false c 1
        rw [e1] at KV
        have hRk2 := hRk.trans (rdLoop_V hkv hc f1)
        dsimp only at hRk2
        clear hRk hgetD e1 hc
        by_cases hgood : t = true ∧ j = (c.length : Int) - 1
        · rw [if_pos hgood] at hRk2
          obtain ⟨rfl, hj⟩ := hgood
          have hb := decForm_at f1 rfl
          have hj0 : 0 ≤ j := by omega
          have hxj := ints_atI (xs := c) (i := j) hj0 (by omega)
          have hwn : IntKind.i64.wrap (n - 1) = n - 1 := IntWalk.i64_in _ (by omega)
          have hfin : ∀ s' : St, Weak s' (F (k + 1, vs ++ [n - 1], gs ++ [c.getD j.toNat 0 == 1], [])) → ∃ y' : Nat × List Int × List Bool × List E3, (y'.1 ≤ N2 + N3 ∧ R = rdLoop D N2 (N2 + N3 - y'.1) y'.1 ⟨n1, y'.2.1, y'.2.2.1, y'.2.2.2⟩ ∧ y'.2.1.length = min y'.1 N2 ∧ y'.2.2.1.length = y'.2.1.length ∧ y'.2.2.2.length = y'.1 - N2) ∧ Weak s' (F y') ∧ N2 + N3 - y'.1 < N2 + N3 - k := fun s' h => ⟨(k + 1, vs ++ [n - 1], gs ++ [c.getD j.toNat 0 == 1], []), ⟨by dsimp only; omega, hRk2, by simp; omega, by simp; omega, by simp; omega⟩, h, by dsimp only; omega⟩
          rw [hF10 _ _ _ (by simp) (by simp)] at hfin
          have happV : ints (vs ++ [n - 1]) = ints vs ++ [.one (int (IntKind.i64.wrap (n - 1)))] := by rw [hwn]; unfold ints; simp
          have happG : bools (gs ++ [c.getD j.toNat 0 == 1]) = bools gs ++ [.one (bool (c.getD j.toNat 0 == 1))] := by unfold bools; simp
          rw [happV, happG] at hfin
          clear happV happG hRk2 f1 g1 hwn hR2 hR3
          generalize c.getD j.toNat 0 = z at *
          cases vs with
          | nil =>
            have hgs : gs = [] := List.eq_nil_of_length_eq_zero (by simpa using hgl)
            subst hgs
            rw [hF00]
            clear hF00 hF01 hF10 hF11
            repeat' (first|(with_reducible first|refine aw_seq ?_|refine thn_normal ?_|refine thn_ret ?_|refine thn_exit ?_|refine blk_normal ?_|refine blk_ret ?_|refine blk_hit ?_|refine blk_miss rfl ?_|refine aw_block ?_|refine aw_ret ?_|refine aw_skip ?_|refine aw_exit ?_|refine w_nil ?_|refine x_nil (by kernel_rfl) ?_)|refine aw_region ?_|refine aw_region_draw (by kernel_rfl) ?_|refine aw_yes rfl ?_|refine aw_no rfl ?_|((with_reducible refine w_seq ?_); first|refine r_q tbOk rfl rfl rfl rfl ?_|refine r_e tbOk rfl rfl rfl rfl rfl ?_|refine r_yes tbOk rfl rfl rfl rfl rfl rfl ?_|refine w_no rfl rfl (lookO_spec rfl) rfl rfl rfl ?_|refine w_un rfl rfl (lookO_spec rfl) rfl rfl ?_)|((with_reducible refine w_drw ?_); first|refine rx_q tbOk rfl rfl rfl rfl ?_|refine rx_e tbOk rfl rfl rfl rfl rfl ?_|refine rx_yes tbOk rfl rfl rfl rfl rfl rfl ?_|refine x_no rfl rfl (lookO_spec rfl) rfl rfl rfl ?_|refine x_un rfl rfl (lookO_spec rfl) rfl rfl ?_)|((first|refine' w_q rfl rfl ?xa rfl ?_|refine' v_q rfl rfl ?xa rfl ?_|refine' w_yes rfl rfl (lookO_spec rfl) rfl ?xa rfl ?_|refine' v_yes rfl rfl (lookO_spec rfl) rfl ?xa rfl ?_); case xa => first|exact k_index tbOk rfl rfl rfl rfl (by first|omega|exact hj0) (by first|exact hxc|exact hxj)|exact k_call KV rfl ⟨asA_r (evO_spec rfl), asA_r (evO_spec rfl), trivial⟩)|((first|refine' w_e rfl ?xa ?xb ?xc ?xe ?_|refine' v_e rfl ?xa ?xb ?xc ?xe ?_); (case xa => first|exact e_build [.tmp 148] tlOk rfl rfl rfl rfl rfl rfl (allN_one rfl) (by simp)|exact e_build [.tmp 158] tlOk rfl rfl rfl rfl rfl rfl (allN_one rfl) (by simp)|exact at_dst 150 rfl (e_append_nil tlOk rfl rfl rfl rfl rfl (slD_plain (slD_own (lookHO_spec rfl) rfl) (by simp [plain1])) (by simp) (by simp only [maxLen, List.length_append, List.length_cons, List.length_nil, ints_len, bools_len]; omega) (by (try simp only [List.length_append, List.length_cons, List.length_nil, ints_len, bools_len]); omega))|exact at_dst 160 rfl (e_append_nil tlOk rfl rfl rfl rfl rfl (slD_plain (slD_own (lookHO_spec rfl) rfl) (by simp [plain1])) (by simp) (by simp only [maxLen, List.length_append, List.length_cons, List.length_nil, ints_len, bools_len]; omega) (by (try simp only [List.length_append, List.length_cons, List.length_nil, ints_len, bools_len]); omega))); (case xb => rfl); (case xc => rfl); (case xe => rfl); try dsimp only [P0.d, Res.d, List.map_cons, List.map_nil, List.set_cons_zero, List.set_cons_succ, Nat.reduceAdd])|((first|refine aw_ways rfl ?_ ?_|refine r_split rfl rfl rfl ?_ ?_) <;> intro hg_ <;> fail_if_success (exact Bool.noConfusion hg_)) <;> (try simp only [prn] at hg_) <;> (try first|contradiction|(exfalso; omega)))
            all_goals first
              | (refine hfin _ ?_
                 (refine weak_ren [(101, 150), (102, 160)] rfl ?_ ?_ <;> repeat' (first|exact trivial|refine subR_cons rfl ?_ ?_|refine subHR_cons rfl ?_ ?_|rfl|(refine d_int ?_; (first|rfl|omega|(rw [IntWalk.i64_in _ (by omega)] <;> omega)|(simp; done)|(simp; omega)))|(refine d_bool ?_; (first|(simp_all; done)|(rw [Bool.eq_iff_iff]; simp_all; done)|(rw [Bool.eq_iff_iff]; simp_all; omega)|(rw [Bool.eq_iff_iff]; simp; omega)))|exact d_int hwk|exact ob_sl rfl rfl|exact d_own (by simp))))
              | (exfalso; omega)
              | trace_state
          | cons v vs =>
            have hgs : gs ≠ [] := fun e => by rw [e] at hgl; simp at hgl
            rw [hF10 _ _ _ (by simp) hgs]
            clear hF00 hF01 hF10 hF11 hgs
            generalize v :: vs = VS at *
            have hvi := (ints_len VS).symm
            have hgi := (bools_len gs).symm
            repeat' (first|(with_reducible first|refine aw_seq ?_|refine thn_normal ?_|refine thn_ret ?_|refine thn_exit ?_|refine blk_normal ?_|refine blk_ret ?_|refine blk_hit ?_|refine blk_miss rfl ?_|refine aw_block ?_|refine aw_ret ?_|refine aw_skip ?_|refine aw_exit ?_|refine w_nil ?_|refine x_nil (by kernel_rfl) ?_)|refine aw_region ?_|refine aw_region_draw (by kernel_rfl) ?_|refine aw_yes rfl ?_|refine aw_no rfl ?_|((with_reducible refine w_seq ?_); first|refine r_q tbOk rfl rfl rfl rfl ?_|refine r_e tbOk rfl rfl rfl rfl rfl ?_|refine r_yes tbOk rfl rfl rfl rfl rfl rfl ?_|refine w_no rfl rfl (lookO_spec rfl) rfl rfl rfl ?_|refine w_un rfl rfl (lookO_spec rfl) rfl rfl ?_)|((with_reducible refine w_drw ?_); first|refine rx_q tbOk rfl rfl rfl rfl ?_|refine rx_e tbOk rfl rfl rfl rfl rfl ?_|refine rx_yes tbOk rfl rfl rfl rfl rfl rfl ?_|refine x_no rfl rfl (lookO_spec rfl) rfl rfl rfl ?_|refine x_un rfl rfl (lookO_spec rfl) rfl rfl ?_)|((first|refine' w_q rfl rfl ?xa rfl ?_|refine' v_q rfl rfl ?xa rfl ?_|refine' w_yes rfl rfl (lookO_spec rfl) rfl ?xa rfl ?_|refine' v_yes rfl rfl (lookO_spec rfl) rfl ?xa rfl ?_); case xa => first|exact k_index tbOk rfl rfl rfl rfl (by first|omega|exact hj0) (by first|exact hxc|exact hxj)|exact k_call KV rfl ⟨asA_r (evO_spec rfl), asA_r (evO_spec rfl), trivial⟩)|((first|refine' w_e rfl ?xa ?xb ?xc ?xe ?_|refine' v_e rfl ?xa ?xb ?xc ?xe ?_); (case xa => first|exact e_build [.tmp 148] tlOk rfl rfl rfl rfl rfl rfl (allN_one rfl) (by simp)|exact e_build [.tmp 158] tlOk rfl rfl rfl rfl rfl rfl (allN_one rfl) (by simp)|exact at_dst 150 rfl (e_append tlOk rfl rfl rfl rfl rfl rfl (slD_plain (slD_own (lookHO_spec rfl) rfl) (by simp [plain1])) hvi (by simp only [maxLen, List.length_append, List.length_cons, List.length_nil, ints_len, bools_len]; omega) (by (try simp only [List.length_append, List.length_cons, List.length_nil, ints_len, bools_len]); omega))|exact at_dst 160 rfl (e_append tlOk rfl rfl rfl rfl rfl rfl (slD_plain (slD_own (lookHO_spec rfl) rfl) (by simp [plain1])) hgi (by simp only [maxLen, List.length_append, List.length_cons, List.length_nil, ints_len, bools_len]; omega) (by (try simp only [List.length_append, List.length_cons, List.length_nil, ints_len, bools_len]); omega))); (case xb => rfl); (case xc => rfl); (case xe => rfl); try dsimp only [P0.d, Res.d, List.map_cons, List.map_nil, List.set_cons_zero, List.set_cons_succ, Nat.reduceAdd])|((first|refine aw_ways rfl ?_ ?_|refine r_split rfl rfl rfl ?_ ?_) <;> intro hg_ <;> fail_if_success (exact Bool.noConfusion hg_)) <;> (try simp only [prn] at hg_) <;> (try first|contradiction|(exfalso; omega)))
            all_goals first
              | (refine hfin _ ?_
                 (refine weak_ren [(101, 150), (102, 160)] rfl ?_ ?_ <;> repeat' (first|exact trivial|refine subR_cons rfl ?_ ?_|refine subHR_cons rfl ?_ ?_|rfl|(refine d_int ?_; (first|rfl|omega|(rw [IntWalk.i64_in _ (by omega)] <;> omega)|(simp; done)|(simp; omega)))|(refine d_bool ?_; (first|(simp_all; done)|(rw [Bool.eq_iff_iff]; simp_all; done)|(rw [Bool.eq_iff_iff]; simp_all; omega)|(rw [Bool.eq_iff_iff]; simp; omega)))|exact d_int hwk|exact ob_sl rfl rfl|exact var4 rfl (cown (by simp only [List.length_append, List.length_cons, List.length_nil, ints_len])) (cown (by simp only [List.length_append, List.length_cons, List.length_nil, bools_len])) rfl)))
              | (exfalso; omega)
              | trace_state
        · rw [if_neg hgood] at hRk2
          have hX := hR2 _ hRk2
          rw [hX]
          dsimp only
          clear hX hR2 hR3 hRk2 f1
          cases vs with
          | nil =>
            have hgs : gs = [] := List.eq_nil_of_length_eq_zero (by simpa using hgl)
            subst hgs
            rw [hF00]
            clear hF00 hF01 hF10 hF11
            repeat' (first|(with_reducible first|refine aw_seq ?_|refine thn_normal ?_|refine thn_ret ?_|refine thn_exit ?_|refine blk_normal ?_|refine blk_ret ?_|refine blk_hit ?_|refine blk_miss rfl ?_|refine aw_block ?_|refine aw_ret ?_|refine aw_skip ?_|refine aw_exit ?_|refine w_nil ?_|refine x_nil (by kernel_rfl) ?_)|refine aw_region ?_|refine aw_region_draw (by kernel_rfl) ?_|refine aw_yes rfl ?_|refine aw_no rfl ?_|((with_reducible refine w_seq ?_); first|refine r_q tbOk rfl rfl rfl rfl ?_|refine r_e tbOk rfl rfl rfl rfl rfl ?_|refine r_yes tbOk rfl rfl rfl rfl rfl rfl ?_|refine w_no rfl rfl (lookO_spec rfl) rfl rfl rfl ?_|refine w_un rfl rfl (lookO_spec rfl) rfl rfl ?_)|((with_reducible refine w_drw ?_); first|refine rx_q tbOk rfl rfl rfl rfl ?_|refine rx_e tbOk rfl rfl rfl rfl rfl ?_|refine rx_yes tbOk rfl rfl rfl rfl rfl rfl ?_|refine x_no rfl rfl (lookO_spec rfl) rfl rfl rfl ?_|refine x_un rfl rfl (lookO_spec rfl) rfl rfl ?_)|((first|refine' w_q rfl rfl ?xa rfl ?_|refine' v_q rfl rfl ?xa rfl ?_|refine' w_yes rfl rfl (lookO_spec rfl) rfl ?xa rfl ?_|refine' v_yes rfl rfl (lookO_spec rfl) rfl ?xa rfl ?_); case xa => first|exact k_index tbOk rfl rfl rfl rfl (by first|omega|exact hj0) (by first|exact hxc|exact hxj)|exact k_call KV rfl ⟨asA_r (evO_spec rfl), asA_r (evO_spec rfl), trivial⟩)|((first|refine' w_e rfl ?xa ?xb ?xc ?xe ?_|refine' v_e rfl ?xa ?xb ?xc ?xe ?_); (case xa => first|exact e_build [.tmp 148] tlOk rfl rfl rfl rfl rfl rfl (allN_one rfl) (by simp)|exact e_build [.tmp 158] tlOk rfl rfl rfl rfl rfl rfl (allN_one rfl) (by simp)|exact at_dst 150 rfl (e_append_nil tlOk rfl rfl rfl rfl rfl (slD_plain (slD_own (lookHO_spec rfl) rfl) (by simp [plain1])) (by simp) (by simp only [maxLen, List.length_append, List.length_cons, List.length_nil, ints_len, bools_len]; omega) (by (try simp only [List.length_append, List.length_cons, List.length_nil, ints_len, bools_len]); omega))|exact at_dst 160 rfl (e_append_nil tlOk rfl rfl rfl rfl rfl (slD_plain (slD_own (lookHO_spec rfl) rfl) (by simp [plain1])) (by simp) (by simp only [maxLen, List.length_append, List.length_cons, List.length_nil, ints_len, bools_len]; omega) (by (try simp only [List.length_append, List.length_cons, List.length_nil, ints_len, bools_len]); omega))); (case xb => rfl); (case xc => rfl); (case xe => rfl); try dsimp only [P0.d, Res.d, List.map_cons, List.map_nil, List.set_cons_zero, List.set_cons_succ, Nat.reduceAdd])|((first|refine aw_ways rfl ?_ ?_|refine r_split rfl rfl rfl ?_ ?_) <;> intro hg_ <;> fail_if_success (exact Bool.noConfusion hg_)) <;> (try simp only [prn] at hg_) <;> (try first|contradiction|(exfalso; omega)))
            all_goals first
              | (exfalso; exact hgood ⟨by assumption, by omega⟩)
              | exact ret_3 (rv_cell rfl rfl (by (with_reducible first | exact ty3 | exact ty4 | exact ty5 | exact ty9 | exact ty17 | exact ty19 | exact ty22 | exact ty24 | exact ty25 | exact ty26 | exact ty28 | exact ty36 | exact ty38 | exact ty40 | exact ty44 | exact ty46 | exact ty48 | exact ty55 | exact ty81 | exact ty84 | exact ty89 | exact ty95 | exact ty98 | exact ty105 | exact ty118 | exact ty122 | exact ty132 | exact ty134 | exact ty137 | exact ty143 | exact ty153 | exact ty155 | exact ty156 | exact ty161)) rfl rfl rfl (dres_agg (by refine ⟨cres_val, ?_, ?_, ?_, trivial⟩ <;> first | exact cres_nil | exact cres_own0 (lookHO_spec rfl) hvi | exact cres_own0 (lookHO_spec rfl) hgi | exact cres_own0 (lookHO_spec rfl) hmi))) (rv_tmp rfl (dres_int rfl)) (rv_tmp rfl (dres_bool rfl))
              | trace_state
          | cons v vs =>
            have hgs : gs ≠ [] := fun e => by rw [e] at hgl; simp at hgl
            rw [hF10 _ _ _ (by simp) hgs]
            clear hF00 hF01 hF10 hF11
            have hTT : stateR ⟨n1, v :: vs, gs, []⟩ = stateP n1 false (v :: vs) false gs true [] := by
              cases gs with
              | nil => exact absurd rfl hgs
              | cons g gs => rfl
            rw [hTT]
            clear hTT hgs
            generalize v :: vs = VS at *
            have hvi := (ints_len VS).symm
            have hgi := (bools_len gs).symm
            repeat' (first|(with_reducible first|refine aw_seq ?_|refine thn_normal ?_|refine thn_ret ?_|refine thn_exit ?_|refine blk_normal ?_|refine blk_ret ?_|refine blk_hit ?_|refine blk_miss rfl ?_|refine aw_block ?_|refine aw_ret ?_|refine aw_skip ?_|refine aw_exit ?_|refine w_nil ?_|refine x_nil (by kernel_rfl) ?_)|refine aw_region ?_|refine aw_region_draw (by kernel_rfl) ?_|refine aw_yes rfl ?_|refine aw_no rfl ?_|((with_reducible refine w_seq ?_); first|refine r_q tbOk rfl rfl rfl rfl ?_|refine r_e tbOk rfl rfl rfl rfl rfl ?_|refine r_yes tbOk rfl rfl rfl rfl rfl rfl ?_|refine w_no rfl rfl (lookO_spec rfl) rfl rfl rfl ?_|refine w_un rfl rfl (lookO_spec rfl) rfl rfl ?_)|((with_reducible refine w_drw ?_); first|refine rx_q tbOk rfl rfl rfl rfl ?_|refine rx_e tbOk rfl rfl rfl rfl rfl ?_|refine rx_yes tbOk rfl rfl rfl rfl rfl rfl ?_|refine x_no rfl rfl (lookO_spec rfl) rfl rfl rfl ?_|refine x_un rfl rfl (lookO_spec rfl) rfl rfl ?_)|((first|refine' w_q rfl rfl ?xa rfl ?_|refine' v_q rfl rfl ?xa rfl ?_|refine' w_yes rfl rfl (lookO_spec rfl) rfl ?xa rfl ?_|refine' v_yes rfl rfl (lookO_spec rfl) rfl ?xa rfl ?_); case xa => first|exact k_index tbOk rfl rfl rfl rfl (by first|omega|exact hj0) (by first|exact hxc|exact hxj)|exact k_call KV rfl ⟨asA_r (evO_spec rfl), asA_r (evO_spec rfl), trivial⟩)|((first|refine' w_e rfl ?xa ?xb ?xc ?xe ?_|refine' v_e rfl ?xa ?xb ?xc ?xe ?_); (case xa => first|exact e_build [.tmp 148] tlOk rfl rfl rfl rfl rfl rfl (allN_one rfl) (by simp)|exact e_build [.tmp 158] tlOk rfl rfl rfl rfl rfl rfl (allN_one rfl) (by simp)|exact at_dst 150 rfl (e_append tlOk rfl rfl rfl rfl rfl rfl (slD_plain (slD_own (lookHO_spec rfl) rfl) (by simp [plain1])) hvi (by simp only [maxLen, List.length_append, List.length_cons, List.length_nil, ints_len, bools_len]; omega) (by (try simp only [List.length_append, List.length_cons, List.length_nil, ints_len, bools_len]); omega))|exact at_dst 160 rfl (e_append tlOk rfl rfl rfl rfl rfl rfl (slD_plain (slD_own (lookHO_spec rfl) rfl) (by simp [plain1])) hgi (by simp only [maxLen, List.length_append, List.length_cons, List.length_nil, ints_len, bools_len]; omega) (by (try simp only [List.length_append, List.length_cons, List.length_nil, ints_len, bools_len]); omega))); (case xb => rfl); (case xc => rfl); (case xe => rfl); try dsimp only [P0.d, Res.d, List.map_cons, List.map_nil, List.set_cons_zero, List.set_cons_succ, Nat.reduceAdd])|((first|refine aw_ways rfl ?_ ?_|refine r_split rfl rfl rfl ?_ ?_) <;> intro hg_ <;> fail_if_success (exact Bool.noConfusion hg_)) <;> (try simp only [prn] at hg_) <;> (try first|contradiction|(exfalso; omega)))
            all_goals first
              | (exfalso; exact hgood ⟨by assumption, by omega⟩)
              | exact ret_3 (rv_cell rfl rfl (by (with_reducible first | exact ty3 | exact ty4 | exact ty5 | exact ty9 | exact ty17 | exact ty19 | exact ty22 | exact ty24 | exact ty25 | exact ty26 | exact ty28 | exact ty36 | exact ty38 | exact ty40 | exact ty44 | exact ty46 | exact ty48 | exact ty55 | exact ty81 | exact ty84 | exact ty89 | exact ty95 | exact ty98 | exact ty105 | exact ty118 | exact ty122 | exact ty132 | exact ty134 | exact ty137 | exact ty143 | exact ty153 | exact ty155 | exact ty156 | exact ty161)) rfl rfl rfl (dres_agg (by refine ⟨cres_val, ?_, ?_, ?_, trivial⟩ <;> first | exact cres_nil | exact cres_own0 (lookHO_spec rfl) hvi | exact cres_own0 (lookHO_spec rfl) hgi | exact cres_own0 (lookHO_spec rfl) hmi))) (rv_tmp rfl (dres_int rfl)) (rv_tmp rfl (dres_bool rfl))
              | trace_state
      · obtain ⟨e, t, e1, f1⟩ := edgeForm (readE (c.drop 1))
        have hsl : ((ints c).drop (min 1 c.length)).take ((ints c).length - min 1 c.length) = ints (c.drop 1) := by
          cases c with
          | nil => rfl
          | cons z c => rw [show min 1 (z :: c).length = 1 by simp, ints_len]; unfold ints; simp [List.take_of_length_le]
        have hmin : Abs.D.one (Cell.r true (int (if ((ints c).length : Int) < 1 then ((ints c).length : Int) else 1))) = Abs.D.one (.r true (int ((min 1 c.length : Nat) : Int))) := by
          rw [hci]; congr 3; split <;> omega
        have KM := f_specReadEdge false (c.drop 1)
        rw [e1, ← hsl] at KM
        have hRk2 := hRk.trans (rdLoop_M hkv hc f1)
        dsimp only at hRk2
        clear hRk hgetD e1 hc f1 hsl
        have hmn : min 1 c.length ≤ (ints c).length := by rw [hci]; omega
        cases t
        · rw [if_neg (by decide)] at hRk2
          have hX := hR2 _ hRk2
          rw [hX]
          dsimp only
          clear hX hR2 hR3 hRk2
          obtain ⟨e1, e2, e3⟩ := e
          by_cases hvs : vs = []
          · have hgs : gs = [] := by subst hvs; exact List.eq_nil_of_length_eq_zero (by simpa using hgl)
            subst hvs hgs
            by_cases hms : ms = []
            · subst hms
              rw [hF00]
              clear hF00 hF01 hF10 hF11
              have hTT : stateR ⟨n1, [], [], []⟩ = stateP n1 true [] true [] true [] := rfl
              rw [hTT]
              clear hTT
              repeat' (first|(with_reducible first|refine aw_seq ?_|refine thn_normal ?_|refine thn_ret ?_|refine thn_exit ?_|refine blk_normal ?_|refine blk_ret ?_|refine blk_hit ?_|refine blk_miss rfl ?_|refine aw_block ?_|refine aw_ret ?_|refine aw_skip ?_|refine aw_exit ?_|refine w_nil ?_|refine x_nil (by kernel_rfl) ?_)|refine aw_region ?_|refine aw_region_draw (by kernel_rfl) ?_|refine aw_yes rfl ?_|refine aw_no rfl ?_|((with_reducible refine w_seq ?_); first|refine r_q tbOk rfl rfl rfl rfl ?_|refine r_e tbOk rfl rfl rfl rfl rfl ?_|refine r_yes tbOk rfl rfl rfl rfl rfl rfl ?_|refine w_no rfl rfl (lookO_spec rfl) rfl rfl rfl ?_|refine w_un rfl rfl (lookO_spec rfl) rfl rfl ?_)|((with_reducible refine w_drw ?_); first|refine rx_q tbOk rfl rfl rfl rfl ?_|refine rx_e tbOk rfl rfl rfl rfl rfl ?_|refine rx_yes tbOk rfl rfl rfl rfl rfl rfl ?_|refine x_no rfl rfl (lookO_spec rfl) rfl rfl rfl ?_|refine x_un rfl rfl (lookO_spec rfl) rfl rfl ?_)|((first|refine' w_q rfl rfl ?xa rfl ?_|refine' v_q rfl rfl ?xa rfl ?_|refine' w_yes rfl rfl (lookO_spec rfl) rfl ?xa rfl ?_|refine' v_yes rfl rfl (lookO_spec rfl) rfl ?xa rfl ?_); case xa => first|exact k_index tbOk rfl rfl rfl rfl (by omega) hxc|exact k_slice (a := min 1 c.length) (b := (ints c).length) tbOk rfl rfl rfl ⟨_, (evO_spec rfl).trans hmin⟩ rfl hmn (Nat.le_refl _)|exact k_call KM rfl ⟨asA_r (evO_spec rfl), trivial⟩)|((first|refine' w_e rfl ?xa ?xb ?xc ?xe ?_|refine' v_e rfl ?xa ?xb ?xc ?xe ?_); (case xa => first|exact e_build [.tmp 182] tlOk rfl rfl rfl rfl rfl rfl (allN_one rfl) (by simp)|exact at_dst 184 rfl (e_append_nil tlOk rfl rfl rfl rfl rfl (slD_plain (slD_own (lookHO_spec rfl) rfl) (edge1_plain _ _ _)) (by simp) (by simp only [maxLen, List.length_append, List.length_cons, List.length_nil, edges_len]; omega) (by (try simp only [List.length_append, List.length_cons, List.length_nil, edges_len]); omega))); (case xb => rfl); (case xc => rfl); (case xe => rfl); try dsimp only [P0.d, Res.d, List.map_cons, List.map_nil, List.set_cons_zero, List.set_cons_succ, Nat.reduceAdd])|((first|refine aw_ways rfl ?_ ?_|refine r_split rfl rfl rfl ?_ ?_) <;> intro hg_ <;> fail_if_success (exact Bool.noConfusion hg_)) <;> (try simp only [prn] at hg_) <;> (try first|contradiction|(exfalso; omega)))
              all_goals first
                | exact ret_3 (rv_cell rfl rfl (by (with_reducible first | exact ty3 | exact ty4 | exact ty5 | exact ty9 | exact ty17 | exact ty19 | exact ty22 | exact ty24 | exact ty25 | exact ty26 | exact ty28 | exact ty36 | exact ty38 | exact ty40 | exact ty44 | exact ty46 | exact ty48 | exact ty55 | exact ty81 | exact ty84 | exact ty89 | exact ty95 | exact ty98 | exact ty105 | exact ty118 | exact ty122 | exact ty132 | exact ty134 | exact ty137 | exact ty143 | exact ty153 | exact ty155 | exact ty156 | exact ty161)) rfl rfl rfl (dres_agg (by refine ⟨cres_val, ?_, ?_, ?_, trivial⟩ <;> first | exact cres_nil | exact cres_own0 (lookHO_spec rfl) hvi | exact cres_own0 (lookHO_spec rfl) hgi | exact cres_own0 (lookHO_spec rfl) hmi))) (rv_tmp rfl (dres_int rfl)) (rv_tmp rfl (dres_bool rfl))
                | (exfalso; simp_all; done)
                | trace_state
            · have hmf : ms.isEmpty = false := by cases ms with
                | nil => exact absurd rfl hms
                | cons v w => rfl
              have hmi := (edges_len ms).symm
              rw [hF01 _ _ hms]
              clear hF00 hF01 hF10 hF11
              have hTT : stateR ⟨n1, [], [], ms⟩ = stateP n1 true [] true [] false ms := (by show stateP _ _ _ _ _ _ _ = _; rw [hmf]; first | rfl | skip)
              rw [hTT]
              clear hTT
              repeat' (first|(with_reducible first|refine aw_seq ?_|refine thn_normal ?_|refine thn_ret ?_|refine thn_exit ?_|refine blk_normal ?_|refine blk_ret ?_|refine blk_hit ?_|refine blk_miss rfl ?_|refine aw_block ?_|refine aw_ret ?_|refine aw_skip ?_|refine aw_exit ?_|refine w_nil ?_|refine x_nil (by kernel_rfl) ?_)|refine aw_region ?_|refine aw_region_draw (by kernel_rfl) ?_|refine aw_yes rfl ?_|refine aw_no rfl ?_|((with_reducible refine w_seq ?_); first|refine r_q tbOk rfl rfl rfl rfl ?_|refine r_e tbOk rfl rfl rfl rfl rfl ?_|refine r_yes tbOk rfl rfl rfl rfl rfl rfl ?_|refine w_no rfl rfl (lookO_spec rfl) rfl rfl rfl ?_|refine w_un rfl rfl (lookO_spec rfl) rfl rfl ?_)|((with_reducible refine w_drw ?_); first|refine rx_q tbOk rfl rfl rfl rfl ?_|refine rx_e tbOk rfl rfl rfl rfl rfl ?_|refine rx_yes tbOk rfl rfl rfl rfl rfl rfl ?_|refine x_no rfl rfl (lookO_spec rfl) rfl rfl rfl ?_|refine x_un rfl rfl (lookO_spec rfl) rfl rfl ?_)|((first|refine' w_q rfl rfl ?xa rfl ?_|refine' v_q rfl rfl ?xa rfl ?_|refine' w_yes rfl rfl (lookO_spec rfl) rfl ?xa rfl ?_|refine' v_yes rfl rfl (lookO_spec rfl) rfl ?xa rfl ?_); case xa => first|exact k_index tbOk rfl rfl rfl rfl (by omega) hxc|exact k_slice (a := min 1 c.length) (b := (ints c).length) tbOk rfl rfl rfl ⟨_, (evO_spec rfl).trans hmin⟩ rfl hmn (Nat.le_refl _)|exact k_call KM rfl ⟨asA_r (evO_spec rfl), trivial⟩)|((first|refine' w_e rfl ?xa ?xb ?xc ?xe ?_|refine' v_e rfl ?xa ?xb ?xc ?xe ?_); (case xa => first|exact e_build [.tmp 182] tlOk rfl rfl rfl rfl rfl rfl (allN_one rfl) (by simp)|exact at_dst 184 rfl (e_append tlOk rfl rfl rfl rfl rfl rfl (slD_plain (slD_own (lookHO_spec rfl) rfl) (edge1_plain _ _ _)) hmi (by simp only [maxLen, List.length_append, List.length_cons, List.length_nil, edges_len]; omega) (by (try simp only [List.length_append, List.length_cons, List.length_nil, edges_len]); omega))); (case xb => rfl); (case xc => rfl); (case xe => rfl); try dsimp only [P0.d, Res.d, List.map_cons, List.map_nil, List.set_cons_zero, List.set_cons_succ, Nat.reduceAdd])|((first|refine aw_ways rfl ?_ ?_|refine r_split rfl rfl rfl ?_ ?_) <;> intro hg_ <;> fail_if_success (exact Bool.noConfusion hg_)) <;> (try simp only [prn] at hg_) <;> (try first|contradiction|(exfalso; omega)))
              all_goals first
                | exact ret_3 (rv_cell rfl rfl (by (with_reducible first | exact ty3 | exact ty4 | exact ty5 | exact ty9 | exact ty17 | exact ty19 | exact ty22 | exact ty24 | exact ty25 | exact ty26 | exact ty28 | exact ty36 | exact ty38 | exact ty40 | exact ty44 | exact ty46 | exact ty48 | exact ty55 | exact ty81 | exact ty84 | exact ty89 | exact ty95 | exact ty98 | exact ty105 | exact ty118 | exact ty122 | exact ty132 | exact ty134 | exact ty137 | exact ty143 | exact ty153 | exact ty155 | exact ty156 | exact ty161)) rfl rfl rfl (dres_agg (by refine ⟨cres_val, ?_, ?_, ?_, trivial⟩ <;> first | exact cres_nil | exact cres_own0 (lookHO_spec rfl) hvi | exact cres_own0 (lookHO_spec rfl) hgi | exact cres_own0 (lookHO_spec rfl) hmi))) (rv_tmp rfl (dres_int rfl)) (rv_tmp rfl (dres_bool rfl))
                | (exfalso; simp_all; done)
                | trace_state
          · have hgs : gs ≠ [] := fun e => hvs (by rw [e] at hgl; exact List.eq_nil_of_length_eq_zero (by simpa using hgl.symm))
            have hvf : vs.isEmpty = false := by cases vs with
              | nil => exact absurd rfl hvs
              | cons v w => rfl
            have hgf : gs.isEmpty = false := by cases gs with
              | nil => exact absurd rfl hgs
              | cons v w => rfl
            have hvi := (ints_len vs).symm
            have hgi := (bools_len gs).symm
            by_cases hms : ms = []
            · subst hms
              rw [hF10 _ _ _ hvs hgs]
              clear hF00 hF01 hF10 hF11
              have hTT : stateR ⟨n1, vs, gs, []⟩ = stateP n1 false vs false gs true [] := (by show stateP _ _ _ _ _ _ _ = _; rw [hvf, hgf]; first | rfl | skip)
              rw [hTT]
              clear hTT
              repeat' (first|(with_reducible first|refine aw_seq ?_|refine thn_normal ?_|refine thn_ret ?_|refine thn_exit ?_|refine blk_normal ?_|refine blk_ret ?_|refine blk_hit ?_|refine blk_miss rfl ?_|refine aw_block ?_|refine aw_ret ?_|refine aw_skip ?_|refine aw_exit ?_|refine w_nil ?_|refine x_nil (by kernel_rfl) ?_)|refine aw_region ?_|refine aw_region_draw (by kernel_rfl) ?_|refine aw_yes rfl ?_|refine aw_no rfl ?_|((with_reducible refine w_seq ?_); first|refine r_q tbOk rfl rfl rfl rfl ?_|refine r_e tbOk rfl rfl rfl rfl rfl ?_|refine r_yes tbOk rfl rfl rfl rfl rfl rfl ?_|refine w_no rfl rfl (lookO_spec rfl) rfl rfl rfl ?_|refine w_un rfl rfl (lookO_spec rfl) rfl rfl ?_)|((with_reducible refine w_drw ?_); first|refine rx_q tbOk rfl rfl rfl rfl ?_|refine rx_e tbOk rfl rfl rfl rfl rfl ?_|refine rx_yes tbOk rfl rfl rfl rfl rfl rfl ?_|refine x_no rfl rfl (lookO_spec rfl) rfl rfl rfl ?_|refine x_un rfl rfl (lookO_spec rfl) rfl rfl ?_)|((first|refine' w_q rfl rfl ?xa rfl ?_|refine' v_q rfl rfl ?xa rfl ?_|refine' w_yes rfl rfl (lookO_spec rfl) rfl ?xa rfl ?_|refine' v_yes rfl rfl (lookO_spec rfl) rfl ?xa rfl ?_); case xa => first|exact k_index tbOk rfl rfl rfl rfl (by omega) hxc|exact k_slice (a := min 1 c.length) (b := (ints c).length) tbOk rfl rfl rfl ⟨_, (evO_spec rfl).trans hmin⟩ rfl hmn (Nat.le_refl _)|exact k_call KM rfl ⟨asA_r (evO_spec rfl), trivial⟩)|((first|refine' w_e rfl ?xa ?xb ?xc ?xe ?_|refine' v_e rfl ?xa ?xb ?xc ?xe ?_); (case xa => first|exact e_build [.tmp 182] tlOk rfl rfl rfl rfl rfl rfl (allN_one rfl) (by simp)|exact at_dst 184 rfl (e_append_nil tlOk rfl rfl rfl rfl rfl (slD_plain (slD_own (lookHO_spec rfl) rfl) (edge1_plain _ _ _)) (by simp) (by simp only [maxLen, List.length_append, List.length_cons, List.length_nil, edges_len]; omega) (by (try simp only [List.length_append, List.length_cons, List.length_nil, edges_len]); omega))); (case xb => rfl); (case xc => rfl); (case xe => rfl); try dsimp only [P0.d, Res.d, List.map_cons, List.map_nil, List.set_cons_zero, List.set_cons_succ, Nat.reduceAdd])|((first|refine aw_ways rfl ?_ ?_|refine r_split rfl rfl rfl ?_ ?_) <;> intro hg_ <;> fail_if_success (exact Bool.noConfusion hg_)) <;> (try simp only [prn] at hg_) <;> (try first|contradiction|(exfalso; omega)))
              all_goals first
                | exact ret_3 (rv_cell rfl rfl (by (with_reducible first | exact ty3 | exact ty4 | exact ty5 | exact ty9 | exact ty17 | exact ty19 | exact ty22 | exact ty24 | exact ty25 | exact ty26 | exact ty28 | exact ty36 | exact ty38 | exact ty40 | exact ty44 | exact ty46 | exact ty48 | exact ty55 | exact ty81 | exact ty84 | exact ty89 | exact ty95 | exact ty98 | exact ty105 | exact ty118 | exact ty122 | exact ty132 | exact ty134 | exact ty137 | exact ty143 | exact ty153 | exact ty155 | exact ty156 | exact ty161)) rfl rfl rfl (dres_agg (by refine ⟨cres_val, ?_, ?_, ?_, trivial⟩ <;> first | exact cres_nil | exact cres_own0 (lookHO_spec rfl) hvi | exact cres_own0 (lookHO_spec rfl) hgi | exact cres_own0 (lookHO_spec rfl) hmi))) (rv_tmp rfl (dres_int rfl)) (rv_tmp rfl (dres_bool rfl))
                | (exfalso; simp_all; done)
                | trace_state
            · have hmf : ms.isEmpty = false := by cases ms with
                | nil => exact absurd rfl hms
                | cons v w => rfl
              have hmi := (edges_len ms).symm
              rw [hF11 _ _ _ _ hvs hgs hms]
              clear hF00 hF01 hF10 hF11
              have hTT : stateR ⟨n1, vs, gs, ms⟩ = stateP n1 false vs false gs false ms := (by show stateP _ _ _ _ _ _ _ = _; rw [hvf, hgf, hmf]; first | rfl | skip)
              rw [hTT]
              clear hTT
              repeat' (first|(with_reducible first|refine aw_seq ?_|refine thn_normal ?_|refine thn_ret ?_|refine thn_exit ?_|refine blk_normal ?_|refine blk_ret ?_|refine blk_hit ?_|refine blk_miss rfl ?_|refine aw_block ?_|refine aw_ret ?_|refine aw_skip ?_|refine aw_exit ?_|refine w_nil ?_|refine x_nil (by kernel_rfl) ?_)|refine aw_region ?_|refine aw_region_draw (by kernel_rfl) ?_|refine aw_yes rfl ?_|refine aw_no rfl ?_|((with_reducible refine w_seq ?_); first|refine r_q tbOk rfl rfl rfl rfl ?_|refine r_e tbOk rfl rfl rfl rfl rfl ?_|refine r_yes tbOk rfl rfl rfl rfl rfl rfl ?_|refine w_no rfl rfl (lookO_spec rfl) rfl rfl rfl ?_|refine w_un rfl rfl (lookO_spec rfl) rfl rfl ?_)|((with_reducible refine w_drw ?_); first|refine rx_q tbOk rfl rfl rfl rfl ?_|refine rx_e tbOk rfl rfl rfl rfl rfl ?_|refine rx_yes tbOk rfl rfl rfl rfl rfl rfl ?_|refine x_no rfl rfl (lookO_spec rfl) rfl rfl rfl ?_|refine x_un rfl rfl (lookO_spec rfl) rfl rfl ?_)|((first|refine' w_q rfl rfl ?xa rfl ?_|refine' v_q rfl rfl ?xa rfl ?_|refine' w_yes rfl rfl (lookO_spec rfl) rfl ?xa rfl ?_|refine' v_yes rfl rfl (lookO_spec rfl) rfl ?xa rfl ?_); case xa => first|exact k_index tbOk rfl rfl rfl rfl (by omega) hxc|exact k_slice (a := min 1 c.length) (b := (ints c).length) tbOk rfl rfl rfl ⟨_, (evO_spec rfl).trans hmin⟩ rfl hmn (Nat.le_refl _)|exact k_call KM rfl ⟨asA_r (evO_spec rfl), trivial⟩)|((first|refine' w_e rfl ?xa ?xb ?xc ?xe ?_|refine' v_e rfl ?xa ?xb ?xc ?xe ?_); (case xa => first|exact e_build [.tmp 182] tlOk rfl rfl rfl rfl rfl rfl (allN_one rfl) (by simp)|exact at_dst 184 rfl (e_append tlOk rfl rfl rfl rfl rfl rfl (slD_plain (slD_own (lookHO_spec rfl) rfl) (edge1_plain _ _ _)) hmi (by simp only [maxLen, List.length_append, List.length_cons, List.length_nil, edges_len]; omega) (by (try simp only [List.length_append, List.length_cons, List.length_nil, edges_len]); omega))); (case xb => rfl); (case xc => rfl); (case xe => rfl); try dsimp only [P0.d, Res.d, List.map_cons, List.map_nil, List.set_cons_zero, List.set_cons_succ, Nat.reduceAdd])|((first|refine aw_ways rfl ?_ ?_|refine r_split rfl rfl rfl ?_ ?_) <;> intro hg_ <;> fail_if_success (exact Bool.noConfusion hg_)) <;> (try simp only [prn] at hg_) <;> (try first|contradiction|(exfalso; omega)))
              all_goals first
                | exact ret_3 (rv_cell rfl rfl (by (with_reducible first | exact ty3 | exact ty4 | exact ty5 | exact ty9 | exact ty17 | exact ty19 | exact ty22 | exact ty24 | exact ty25 | exact ty26 | exact ty28 | exact ty36 | exact ty38 | exact ty40 | exact ty44 | exact ty46 | exact ty48 | exact ty55 | exact ty81 | exact ty84 | exact ty89 | exact ty95 | exact ty98 | exact ty105 | exact ty118 | exact ty122 | exact ty132 | exact ty134 | exact ty137 | exact ty143 | exact ty153 | exact ty155 | exact ty156 | exact ty161)) rfl rfl rfl (dres_agg (by refine ⟨cres_val, ?_, ?_, ?_, trivial⟩ <;> first | exact cres_nil | exact cres_own0 (lookHO_spec rfl) hvi | exact cres_own0 (lookHO_spec rfl) hgi | exact cres_own0 (lookHO_spec rfl) hmi))) (rv_tmp rfl (dres_int rfl)) (rv_tmp rfl (dres_bool rfl))
                | (exfalso; simp_all; done)
                | trace_state
        · rw [if_pos rfl] at hRk2
          have hfin : ∀ s' : St, Weak s' (F (k + 1, vs, gs, ms ++ [e])) → ∃ y' : Nat × List Int × List Bool × List E3, (y'.1 ≤ N2 + N3 ∧ R = rdLoop D N2 (N2 + N3 - y'.1) y'.1 ⟨n1, y'.2.1, y'.2.2.1, y'.2.2.2⟩ ∧ y'.2.1.length = min y'.1 N2 ∧ y'.2.2.1.length = y'.2.1.length ∧ y'.2.2.2.length = y'.1 - N2) ∧ Weak s' (F y') ∧ N2 + N3 - y'.1 < N2 + N3 - k := fun s' h => ⟨(k + 1, vs, gs, ms ++ [e]), ⟨by dsimp only; omega, hRk2, by dsimp only; omega, hgl, by simp; omega⟩, h, by dsimp only; omega⟩
          have happM : edges (ms ++ [e]) = edges ms ++ [edgeP e] := by unfold edges; simp
          clear hRk2 hR2 hR3
          by_cases hvs : vs = []
          · have hgs : gs = [] := by subst hvs; exact List.eq_nil_of_length_eq_zero (by simpa using hgl)
            subst hvs hgs
            by_cases hms : ms = []
            · subst hms
              rw [hF01 _ _ (by simp), happM] at hfin
              rw [hF00]
              clear hF00 hF01 hF10 hF11 happM
              obtain ⟨e1, e2, e3⟩ := e
              repeat' (first|(with_reducible first|refine aw_seq ?_|refine thn_normal ?_|refine thn_ret ?_|refine thn_exit ?_|refine blk_normal ?_|refine blk_ret ?_|refine blk_hit ?_|refine blk_miss rfl ?_|refine aw_block ?_|refine aw_ret ?_|refine aw_skip ?_|refine aw_exit ?_|refine w_nil ?_|refine x_nil (by kernel_rfl) ?_)|refine aw_region ?_|refine aw_region_draw (by kernel_rfl) ?_|refine aw_yes rfl ?_|refine aw_no rfl ?_|((with_reducible refine w_seq ?_); first|refine r_q tbOk rfl rfl rfl rfl ?_|refine r_e tbOk rfl rfl rfl rfl rfl ?_|refine r_yes tbOk rfl rfl rfl rfl rfl rfl ?_|refine w_no rfl rfl (lookO_spec rfl) rfl rfl rfl ?_|refine w_un rfl rfl (lookO_spec rfl) rfl rfl ?_)|((with_reducible refine w_drw ?_); first|refine rx_q tbOk rfl rfl rfl rfl ?_|refine rx_e tbOk rfl rfl rfl rfl rfl ?_|refine rx_yes tbOk rfl rfl rfl rfl rfl rfl ?_|refine x_no rfl rfl (lookO_spec rfl) rfl rfl rfl ?_|refine x_un rfl rfl (lookO_spec rfl) rfl rfl ?_)|((first|refine' w_q rfl rfl ?xa rfl ?_|refine' v_q rfl rfl ?xa rfl ?_|refine' w_yes rfl rfl (lookO_spec rfl) rfl ?xa rfl ?_|refine' v_yes rfl rfl (lookO_spec rfl) rfl ?xa rfl ?_); case xa => first|exact k_index tbOk rfl rfl rfl rfl (by omega) hxc|exact k_slice (a := min 1 c.length) (b := (ints c).length) tbOk rfl rfl rfl ⟨_, (evO_spec rfl).trans hmin⟩ rfl hmn (Nat.le_refl _)|exact k_call KM rfl ⟨asA_r (evO_spec rfl), trivial⟩)|((first|refine' w_e rfl ?xa ?xb ?xc ?xe ?_|refine' v_e rfl ?xa ?xb ?xc ?xe ?_); (case xa => first|exact e_build [.tmp 182] tlOk rfl rfl rfl rfl rfl rfl (allN_one rfl) (by simp)|exact at_dst 184 rfl (e_append_nil tlOk rfl rfl rfl rfl rfl (slD_plain (slD_own (lookHO_spec rfl) rfl) (edge1_plain _ _ _)) (by simp) (by simp only [maxLen, List.length_append, List.length_cons, List.length_nil, edges_len]; omega) (by (try simp only [List.length_append, List.length_cons, List.length_nil, edges_len]); omega))); (case xb => rfl); (case xc => rfl); (case xe => rfl); try dsimp only [P0.d, Res.d, List.map_cons, List.map_nil, List.set_cons_zero, List.set_cons_succ, Nat.reduceAdd])|((first|refine aw_ways rfl ?_ ?_|refine r_split rfl rfl rfl ?_ ?_) <;> intro hg_ <;> fail_if_success (exact Bool.noConfusion hg_)) <;> (try simp only [prn] at hg_) <;> (try first|contradiction|(exfalso; omega)))
              all_goals first
                | (refine hfin _ ?_
                   (refine weak_ren [(103, 184)] rfl ?_ ?_ <;> repeat' (first|exact trivial|refine subR_cons rfl ?_ ?_|refine subHR_cons rfl ?_ ?_|rfl|(refine d_int ?_; (first|rfl|omega|(rw [IntWalk.i64_in _ (by omega)] <;> omega)|(simp; done)|(simp; omega)))|(refine d_bool ?_; (first|(simp_all; done)|(rw [Bool.eq_iff_iff]; simp_all; done)|(rw [Bool.eq_iff_iff]; simp_all; omega)|(rw [Bool.eq_iff_iff]; simp; omega)))|exact d_int hwk|exact ob_sl rfl rfl|exact var4 rfl rfl rfl (cown (by simp only [List.length_append, List.length_cons, List.length_nil, edges_len])))))
                | (exfalso; simp_all; done)
                | trace_state
            · have hmf : ms.isEmpty = false := by cases ms with
                | nil => exact absurd rfl hms
                | cons v w => rfl
              have hmi := (edges_len ms).symm
              rw [hF01 _ _ (by simp), happM] at hfin
              rw [hF01 _ _ hms]
              clear hF00 hF01 hF10 hF11 happM
              obtain ⟨e1, e2, e3⟩ := e
              repeat' (first|(with_reducible first|refine aw_seq ?_|refine thn_normal ?_|refine thn_ret ?_|refine thn_exit ?_|refine blk_normal ?_|refine blk_ret ?_|refine blk_hit ?_|refine blk_miss rfl ?_|refine aw_block ?_|refine aw_ret ?_|refine aw_skip ?_|refine aw_exit ?_|refine w_nil ?_|refine x_nil (by kernel_rfl) ?_)|refine aw_region ?_|refine aw_region_draw (by kernel_rfl) ?_|refine aw_yes rfl ?_|refine aw_no rfl ?_|((with_reducible refine w_seq ?_); first|refine r_q tbOk rfl rfl rfl rfl ?_|refine r_e tbOk rfl rfl rfl rfl rfl ?_|refine r_yes tbOk rfl rfl rfl rfl rfl rfl ?_|refine w_no rfl rfl (lookO_spec rfl) rfl rfl rfl ?_|refine w_un rfl rfl (lookO_spec rfl) rfl rfl ?_)|((with_reducible refine w_drw ?_); first|refine rx_q tbOk rfl rfl rfl rfl ?_|refine rx_e tbOk rfl rfl rfl rfl rfl ?_|refine rx_yes tbOk rfl rfl rfl rfl rfl rfl ?_|refine x_no rfl rfl (lookO_spec rfl) rfl rfl rfl ?_|refine x_un rfl rfl (lookO_spec rfl) rfl rfl ?_)|((first|refine' w_q rfl rfl ?xa rfl ?_|refine' v_q rfl rfl ?xa rfl ?_|refine' w_yes rfl rfl (lookO_spec rfl) rfl ?xa rfl ?_|refine' v_yes rfl rfl (lookO_spec rfl) rfl ?xa rfl ?_); case xa => first|exact k_index tbOk rfl rfl rfl rfl (by omega) hxc|exact k_slice (a := min 1 c.length) (b := (ints c).length) tbOk rfl rfl rfl ⟨_, (evO_spec rfl).trans hmin⟩ rfl hmn (Nat.le_refl _)|exact k_call KM rfl ⟨asA_r (evO_spec rfl), trivial⟩)|((first|refine' w_e rfl ?xa ?xb ?xc ?xe ?_|refine' v_e rfl ?xa ?xb ?xc ?xe ?_); (case xa => first|exact e_build [.tmp 182] tlOk rfl rfl rfl rfl rfl rfl (allN_one rfl) (by simp)|exact at_dst 184 rfl (e_append tlOk rfl rfl rfl rfl rfl rfl (slD_plain (slD_own (lookHO_spec rfl) rfl) (edge1_plain _ _ _)) hmi (by simp only [maxLen, List.length_append, List.length_cons, List.length_nil, edges_len]; omega) (by (try simp only [List.length_append, List.length_cons, List.length_nil, edges_len]); omega))); (case xb => rfl); (case xc => rfl); (case xe => rfl); try dsimp only [P0.d, Res.d, List.map_cons, List.map_nil, List.set_cons_zero, List.set_cons_succ, Nat.reduceAdd])|((first|refine aw_ways rfl ?_ ?_|refine r_split rfl rfl rfl ?_ ?_) <;> intro hg_ <;> fail_if_success (exact Bool.noConfusion hg_)) <;> (try simp only [prn] at hg_) <;> (try first|contradiction|(exfalso; omega)))
              all_goals first
                | (refine hfin _ ?_
                   (refine weak_ren [(103, 184)] rfl ?_ ?_ <;> repeat' (first|exact trivial|refine subR_cons rfl ?_ ?_|refine subHR_cons rfl ?_ ?_|rfl|(refine d_int ?_; (first|rfl|omega|(rw [IntWalk.i64_in _ (by omega)] <;> omega)|(simp; done)|(simp; omega)))|(refine d_bool ?_; (first|(simp_all; done)|(rw [Bool.eq_iff_iff]; simp_all; done)|(rw [Bool.eq_iff_iff]; simp_all; omega)|(rw [Bool.eq_iff_iff]; simp; omega)))|exact d_int hwk|exact ob_sl rfl rfl|exact var4 rfl rfl rfl (cown (by simp only [List.length_append, List.length_cons, List.length_nil, edges_len])))))
                | (exfalso; simp_all; done)
                | trace_state
          · have hgs : gs ≠ [] := fun e => hvs (by rw [e] at hgl; exact List.eq_nil_of_length_eq_zero (by simpa using hgl.symm))
            have hvf : vs.isEmpty = false := by cases vs with
              | nil => exact absurd rfl hvs
              | cons v w => rfl
            have hgf : gs.isEmpty = false := by cases gs with
              | nil => exact absurd rfl hgs
              | cons v w => rfl
            have hvi := (ints_len vs).symm
            have hgi := (bools_len gs).symm
            by_cases hms : ms = []
            · subst hms
              rw [hF11 _ _ _ _ hvs hgs (by simp), happM] at hfin
              rw [hF10 _ _ _ hvs hgs]
              clear hF00 hF01 hF10 hF11 happM
              obtain ⟨e1, e2, e3⟩ := e
              repeat' (first|(with_reducible first|refine aw_seq ?_|refine thn_normal ?_|refine thn_ret ?_|refine thn_exit ?_|refine blk_normal ?_|refine blk_ret ?_|refine blk_hit ?_|refine blk_miss rfl ?_|refine aw_block ?_|refine aw_ret ?_|refine aw_skip ?_|refine aw_exit ?_|refine w_nil ?_|refine x_nil (by kernel_rfl) ?_)|refine aw_region ?_|refine aw_region_draw (by kernel_rfl) ?_|refine aw_yes rfl ?_|refine aw_no rfl ?_|((with_reducible refine w_seq ?_); first|refine r_q tbOk rfl rfl rfl rfl ?_|refine r_e tbOk rfl rfl rfl rfl rfl ?_|refine r_yes tbOk rfl rfl rfl rfl rfl rfl ?_|refine w_no rfl rfl (lookO_spec rfl) rfl rfl rfl ?_|refine w_un rfl rfl (lookO_spec rfl) rfl rfl ?_)|((with_reducible refine w_drw ?_); first|refine rx_q tbOk rfl rfl rfl rfl ?_|refine rx_e tbOk rfl rfl rfl rfl rfl ?_|refine rx_yes tbOk rfl rfl rfl rfl rfl rfl ?_|refine x_no rfl rfl (lookO_spec rfl) rfl rfl rfl ?_|refine x_un rfl rfl (lookO_spec rfl) rfl rfl ?_)|((first|refine' w_q rfl rfl ?xa rfl ?_|refine' v_q rfl rfl ?xa rfl ?_|refine' w_yes rfl rfl (lookO_spec rfl) rfl ?xa rfl ?_|refine' v_yes rfl rfl (lookO_spec rfl) rfl ?xa rfl ?_); case xa => first|exact k_index tbOk rfl rfl rfl rfl (by omega) hxc|exact k_slice (a := min 1 c.length) (b := (ints c).length) tbOk rfl rfl rfl ⟨_, (evO_spec rfl).trans hmin⟩ rfl hmn (Nat.le_refl _)|exact k_call KM rfl ⟨asA_r (evO_spec rfl), trivial⟩)|((first|refine' w_e rfl ?xa ?xb ?xc ?xe ?_|refine' v_e rfl ?xa ?xb ?xc ?xe ?_); (case xa => first|exact e_build [.tmp 182] tlOk rfl rfl rfl rfl rfl rfl (allN_one rfl) (by simp)|exact at_dst 184 rfl (e_append_nil tlOk rfl rfl rfl rfl rfl (slD_plain (slD_own (lookHO_spec rfl) rfl) (edge1_plain _ _ _)) (by simp) (by simp only [maxLen, List.length_append, List.length_cons, List.length_nil, edges_len]; omega) (by (try simp only [List.length_append, List.length_cons, List.length_nil, edges_len]); omega))); (case xb => rfl); (case xc => rfl); (case xe => rfl); try dsimp only [P0.d, Res.d, List.map_cons, List.map_nil, List.set_cons_zero, List.set_cons_succ, Nat.reduceAdd])|((first|refine aw_ways rfl ?_ ?_|refine r_split rfl rfl rfl ?_ ?_) <;> intro hg_ <;> fail_if_success (exact Bool.noConfusion hg_)) <;> (try simp only [prn] at hg_) <;> (try first|contradiction|(exfalso; omega)))
              all_goals first
                | (refine hfin _ ?_
                   (refine weak_ren [(103, 184)] rfl ?_ ?_ <;> repeat' (first|exact trivial|refine subR_cons rfl ?_ ?_|refine subHR_cons rfl ?_ ?_|rfl|(refine d_int ?_; (first|rfl|omega|(rw [IntWalk.i64_in _ (by omega)] <;> omega)|(simp; done)|(simp; omega)))|(refine d_bool ?_; (first|(simp_all; done)|(rw [Bool.eq_iff_iff]; simp_all; done)|(rw [Bool.eq_iff_iff]; simp_all; omega)|(rw [Bool.eq_iff_iff]; simp; omega)))|exact d_int hwk|exact ob_sl rfl rfl|exact var4 rfl rfl rfl (cown (by simp only [List.length_append, List.length_cons, List.length_nil, edges_len])))))
                | (exfalso; simp_all; done)
                | trace_state
            · have hmf : ms.isEmpty = false := by cases ms with
                | nil => exact absurd rfl hms
                | cons v w => rfl
              have hmi := (edges_len ms).symm
              rw [hF11 _ _ _ _ hvs hgs (by simp), happM] at hfin
              rw [hF11 _ _ _ _ hvs hgs hms]
              clear hF00 hF01 hF10 hF11 happM
              obtain ⟨e1, e2, e3⟩ := e
              repeat' (first|(with_reducible first|refine aw_seq ?_|refine thn_normal ?_|refine thn_ret ?_|refine thn_exit ?_|refine blk_normal ?_|refine blk_ret ?_|refine blk_hit ?_|refine blk_miss rfl ?_|refine aw_block ?_|refine aw_ret ?_|refine aw_skip ?_|refine aw_exit ?_|refine w_nil ?_|refine x_nil (by kernel_rfl) ?_)|refine aw_region ?_|refine aw_region_draw (by kernel_rfl) ?_|refine aw_yes rfl ?_|refine aw_no rfl ?_|((with_reducible refine w_seq ?_); first|refine r_q tbOk rfl rfl rfl rfl ?_|refine r_e tbOk rfl rfl rfl rfl rfl ?_|refine r_yes tbOk rfl rfl rfl rfl rfl rfl ?_|refine w_no rfl rfl (lookO_spec rfl) rfl rfl rfl ?_|refine w_un rfl rfl (lookO_spec rfl) rfl rfl ?_)|((with_reducible refine w_drw ?_); first|refine rx_q tbOk rfl rfl rfl rfl ?_|refine rx_e tbOk rfl rfl rfl rfl rfl ?_|refine rx_yes tbOk rfl rfl rfl rfl rfl rfl ?_|refine x_no rfl rfl (lookO_spec rfl) rfl rfl rfl ?_|refine x_un rfl rfl (lookO_spec rfl) rfl rfl ?_)|((first|refine' w_q rfl rfl ?xa rfl ?_|refine' v_q rfl rfl ?xa rfl ?_|refine' w_yes rfl rfl (lookO_spec rfl) rfl ?xa rfl ?_|refine' v_yes rfl rfl (lookO_spec rfl) rfl ?xa rfl ?_); case xa => first|exact k_index tbOk rfl rfl rfl rfl (by omega) hxc|exact k_slice (a := min 1 c.length) (b := (ints c).length) tbOk rfl rfl rfl ⟨_, (evO_spec rfl).trans hmin⟩ rfl hmn (Nat.le_refl _)|exact k_call KM rfl ⟨asA_r (evO_spec rfl), trivial⟩)|((first|refine' w_e rfl ?xa ?xb ?xc ?xe ?_|refine' v_e rfl ?xa ?xb ?xc ?xe ?_); (case xa => first|exact e_build [.tmp 182] tlOk rfl rfl rfl rfl rfl rfl (allN_one rfl) (by simp)|exact at_dst 184 rfl (e_append tlOk rfl rfl rfl rfl rfl rfl (slD_plain (slD_own (lookHO_spec rfl) rfl) (edge1_plain _ _ _)) hmi (by simp only [maxLen, List.length_append, List.length_cons, List.length_nil, edges_len]; omega) (by (try simp only [List.length_append, List.length_cons, List.length_nil, edges_len]); omega))); (case xb => rfl); (case xc => rfl); (case xe => rfl); try dsimp only [P0.d, Res.d, List.map_cons, List.map_nil, List.set_cons_zero, List.set_cons_succ, Nat.reduceAdd])|((first|refine aw_ways rfl ?_ ?_|refine r_split rfl rfl rfl ?_ ?_) <;> intro hg_ <;> fail_if_success (exact Bool.noConfusion hg_)) <;> (try simp only [prn] at hg_) <;> (try first|contradiction|(exfalso; omega)))
              all_goals first
                | (refine hfin _ ?_
                   (refine weak_ren [(103, 184)] rfl ?_ ?_ <;> repeat' (first|exact trivial|refine subR_cons rfl ?_ ?_|refine subHR_cons rfl ?_ ?_|rfl|(refine d_int ?_; (first|rfl|omega|(rw [IntWalk.i64_in _ (by omega)] <;> omega)|(simp; done)|(simp; omega)))|(refine d_bool ?_; (first|(simp_all; done)|(rw [Bool.eq_iff_iff]; simp_all; done)|(rw [Bool.eq_iff_iff]; simp_all; omega)|(rw [Bool.eq_iff_iff]; simp; omega)))|exact d_int hwk|exact ob_sl rfl rfl|exact var4 rfl rfl rfl (cown (by simp only [List.length_append, List.length_cons, List.length_nil, edges_len])))))
                | (exfalso; simp_all; done)
                | trace_state
    · obtain rfl : k = N2 + N3 := by omega
      rw [Nat.sub_self, rdLoop] at hRk
      have hX := hR3 _ hRk
      rw [hX]
      dsimp only
      clear hX hR2 hR3 hRk hgetD
      by_cases hvs : vs = []
      · have hgs : gs = [] := by subst hvs; exact List.eq_nil_of_length_eq_zero (by simpa using hgl)
        subst hvs hgs
        by_cases hms : ms = []
        · subst hms
          rw [hF00]
          clear hF00 hF01 hF10 hF11
          have hTT : stateR ⟨n1, [], [], []⟩ = stateP n1 true [] true [] true [] := rfl
          rw [hTT]
          clear hTT
          have KB := f_specStateBodies ⟨n1, [], [], []⟩ true true true (by dsimp only [List.length_nil]; omega) (by dsimp only [List.length_nil]; omega) (by dsimp only [List.length_nil]; omega)
          have hwb : wantB ⟨n1, [], [], []⟩ = if Sta.ok ⟨n1, [], [], []⟩ then ckB ⟨n1, [], [], []⟩ else [] := rfl
          rw [← hwb] at KB
          (try dsimp only at KB)
          have hwl : (wantB ⟨n1, [], [], []⟩).length ≤ 1048576 := wantB_len _
          have KS := fun h => f_l18Same nil false L (wantB ⟨n1, [], [], []⟩) at_ (by omega) hwl (by omega) hall h
          rw [hDD] at KS
          have hwe := wantB_ok ⟨n1, [], [], []⟩
          (try dsimp only at hwe)
          generalize Sta.ok ⟨n1, [], [], []⟩ = ok at *
          generalize wantB ⟨n1, [], [], []⟩ = W at *
          have hwi := rowsI_len W
          clear hwb
          cases ok
          · obtain rfl : W = [] := hwe.1 rfl
            have hwi0 : (rowsI []).length = 0 := rfl
            clear KS hwe
            repeat' (first|(with_reducible first|refine aw_seq ?_|refine thn_normal ?_|refine thn_ret ?_|refine thn_exit ?_|refine blk_normal ?_|refine blk_ret ?_|refine blk_hit ?_|refine blk_miss rfl ?_|refine aw_block ?_|refine aw_ret ?_|refine aw_skip ?_|refine aw_exit ?_|refine w_nil ?_|refine x_nil (by kernel_rfl) ?_)|refine aw_region ?_|refine aw_region_draw (by kernel_rfl) ?_|refine aw_yes rfl ?_|refine aw_no rfl ?_|((with_reducible refine w_seq ?_); first|refine r_q tbOk rfl rfl rfl rfl ?_|refine r_e tbOk rfl rfl rfl rfl rfl ?_|refine r_yes tbOk rfl rfl rfl rfl rfl rfl ?_|refine w_no rfl rfl (lookO_spec rfl) rfl rfl rfl ?_|refine w_un rfl rfl (lookO_spec rfl) rfl rfl ?_)|((with_reducible refine w_drw ?_); first|refine rx_q tbOk rfl rfl rfl rfl ?_|refine rx_e tbOk rfl rfl rfl rfl rfl ?_|refine rx_yes tbOk rfl rfl rfl rfl rfl rfl ?_|refine x_no rfl rfl (lookO_spec rfl) rfl rfl rfl ?_|refine x_un rfl rfl (lookO_spec rfl) rfl rfl ?_)|((first|refine' w_q rfl rfl ?xa rfl ?_|refine' v_q rfl rfl ?xa rfl ?_|refine' w_yes rfl rfl (lookO_spec rfl) rfl ?xa rfl ?_|refine' v_yes rfl rfl (lookO_spec rfl) rfl ?xa rfl ?_); case xa => exact k_call KB rfl ⟨asA_agg (evO_spec rfl) ⟨cAr_r, cAr_nil, cAr_nil, cAr_nil, trivial⟩, trivial⟩)|((first|refine aw_ways rfl ?_ ?_|refine r_split rfl rfl rfl ?_ ?_) <;> intro hg_ <;> fail_if_success (exact Bool.noConfusion hg_)) <;> (try simp only [prn] at hg_) <;> (try first|contradiction|(exfalso; omega)))
            all_goals first
              | exact ret_3 (rv_cell rfl rfl (by (with_reducible first | exact ty3 | exact ty4 | exact ty5 | exact ty9 | exact ty17 | exact ty19 | exact ty22 | exact ty24 | exact ty25 | exact ty26 | exact ty28 | exact ty36 | exact ty38 | exact ty40 | exact ty44 | exact ty46 | exact ty48 | exact ty55 | exact ty81 | exact ty84 | exact ty89 | exact ty95 | exact ty98 | exact ty105 | exact ty118 | exact ty122 | exact ty132 | exact ty134 | exact ty137 | exact ty143 | exact ty153 | exact ty155 | exact ty156 | exact ty161)) rfl rfl rfl (dres_agg (by refine ⟨cres_val, ?_, ?_, ?_, trivial⟩ <;> first | exact cres_nil | exact cres_own0 (lookHO_spec rfl) hvi | exact cres_own0 (lookHO_spec rfl) hgi | exact cres_own0 (lookHO_spec rfl) hmi))) (rv_tmp rfl (dres_int rfl)) (rv_tmp rfl (dres_bool rfl))
              | (exfalso; omega)
              | trace_state
          · obtain ⟨hw1, hw2⟩ := hwe.2 rfl
            have KS2 := KS hw1
            rw [hw2]
            clear KS hwe hw2
            repeat' (first|(with_reducible first|refine aw_seq ?_|refine thn_normal ?_|refine thn_ret ?_|refine thn_exit ?_|refine blk_normal ?_|refine blk_ret ?_|refine blk_hit ?_|refine blk_miss rfl ?_|refine aw_block ?_|refine aw_ret ?_|refine aw_skip ?_|refine aw_exit ?_|refine w_nil ?_|refine x_nil (by kernel_rfl) ?_)|refine aw_region ?_|refine aw_region_draw (by kernel_rfl) ?_|refine aw_yes rfl ?_|refine aw_no rfl ?_|((with_reducible refine w_seq ?_); first|refine r_q tbOk rfl rfl rfl rfl ?_|refine r_e tbOk rfl rfl rfl rfl rfl ?_|refine r_yes tbOk rfl rfl rfl rfl rfl rfl ?_|refine w_no rfl rfl (lookO_spec rfl) rfl rfl rfl ?_|refine w_un rfl rfl (lookO_spec rfl) rfl rfl ?_)|((with_reducible refine w_drw ?_); first|refine rx_q tbOk rfl rfl rfl rfl ?_|refine rx_e tbOk rfl rfl rfl rfl rfl ?_|refine rx_yes tbOk rfl rfl rfl rfl rfl rfl ?_|refine x_no rfl rfl (lookO_spec rfl) rfl rfl rfl ?_|refine x_un rfl rfl (lookO_spec rfl) rfl rfl ?_)|((first|refine' w_q rfl rfl ?xa rfl ?_|refine' v_q rfl rfl ?xa rfl ?_|refine' w_yes rfl rfl (lookO_spec rfl) rfl ?xa rfl ?_|refine' v_yes rfl rfl (lookO_spec rfl) rfl ?xa rfl ?_); case xa => first|exact k_call KB rfl ⟨asA_agg (evO_spec rfl) ⟨cAr_r, cAr_nil, cAr_nil, cAr_nil, trivial⟩, trivial⟩|exact k_call KS2 rfl ⟨asA_r (evO_spec rfl), asA_r (evO_spec rfl), asA_r (evO_spec rfl), trivial⟩)|((first|refine aw_ways rfl ?_ ?_|refine r_split rfl rfl rfl ?_ ?_) <;> intro hg_ <;> fail_if_success (exact Bool.noConfusion hg_)) <;> (try simp only [prn] at hg_) <;> (try first|contradiction|(exfalso; omega)))
            all_goals first
              | exact ret_3 (rv_cell rfl rfl (by (with_reducible first | exact ty3 | exact ty4 | exact ty5 | exact ty9 | exact ty17 | exact ty19 | exact ty22 | exact ty24 | exact ty25 | exact ty26 | exact ty28 | exact ty36 | exact ty38 | exact ty40 | exact ty44 | exact ty46 | exact ty48 | exact ty55 | exact ty81 | exact ty84 | exact ty89 | exact ty95 | exact ty98 | exact ty105 | exact ty118 | exact ty122 | exact ty132 | exact ty134 | exact ty137 | exact ty143 | exact ty153 | exact ty155 | exact ty156 | exact ty161)) rfl rfl rfl (dres_agg (by refine ⟨cres_val, ?_, ?_, ?_, trivial⟩ <;> first | exact cres_nil | exact cres_own0 (lookHO_spec rfl) hvi | exact cres_own0 (lookHO_spec rfl) hgi | exact cres_own0 (lookHO_spec rfl) hmi))) (rv_tmp rfl (dres_int (by rw [hwi]))) (rv_tmp rfl (dres_bool rfl))
              | (exfalso; omega)
              | trace_state
        · have hmf : ms.isEmpty = false := by cases ms with
            | nil => exact absurd rfl hms
            | cons v w => rfl
          have hmi := (edges_len ms).symm
          rw [hF01 _ _ hms]
          clear hF00 hF01 hF10 hF11
          have hTT : stateR ⟨n1, [], [], ms⟩ = stateP n1 true [] true [] false ms := (by show stateP _ _ _ _ _ _ _ = _; rw [hmf]; first | rfl | skip)
          rw [hTT]
          clear hTT
          have KB := f_specStateBodies ⟨n1, [], [], ms⟩ true true false (by dsimp only [List.length_nil]; omega) (by dsimp only [List.length_nil]; omega) (by dsimp only [List.length_nil]; omega)
          have hwb : wantB ⟨n1, [], [], ms⟩ = if Sta.ok ⟨n1, [], [], ms⟩ then ckB ⟨n1, [], [], ms⟩ else [] := rfl
          rw [← hwb] at KB
          (try dsimp only at KB)
          have hwl : (wantB ⟨n1, [], [], ms⟩).length ≤ 1048576 := wantB_len _
          have KS := fun h => f_l18Same nil false L (wantB ⟨n1, [], [], ms⟩) at_ (by omega) hwl (by omega) hall h
          rw [hDD] at KS
          have hwe := wantB_ok ⟨n1, [], [], ms⟩
          (try dsimp only at hwe)
          generalize Sta.ok ⟨n1, [], [], ms⟩ = ok at *
          generalize wantB ⟨n1, [], [], ms⟩ = W at *
          have hwi := rowsI_len W
          clear hwb
          cases ok
          · obtain rfl : W = [] := hwe.1 rfl
            have hwi0 : (rowsI []).length = 0 := rfl
            clear KS hwe
            repeat' (first|(with_reducible first|refine aw_seq ?_|refine thn_normal ?_|refine thn_ret ?_|refine thn_exit ?_|refine blk_normal ?_|refine blk_ret ?_|refine blk_hit ?_|refine blk_miss rfl ?_|refine aw_block ?_|refine aw_ret ?_|refine aw_skip ?_|refine aw_exit ?_|refine w_nil ?_|refine x_nil (by kernel_rfl) ?_)|refine aw_region ?_|refine aw_region_draw (by kernel_rfl) ?_|refine aw_yes rfl ?_|refine aw_no rfl ?_|((with_reducible refine w_seq ?_); first|refine r_q tbOk rfl rfl rfl rfl ?_|refine r_e tbOk rfl rfl rfl rfl rfl ?_|refine r_yes tbOk rfl rfl rfl rfl rfl rfl ?_|refine w_no rfl rfl (lookO_spec rfl) rfl rfl rfl ?_|refine w_un rfl rfl (lookO_spec rfl) rfl rfl ?_)|((with_reducible refine w_drw ?_); first|refine rx_q tbOk rfl rfl rfl rfl ?_|refine rx_e tbOk rfl rfl rfl rfl rfl ?_|refine rx_yes tbOk rfl rfl rfl rfl rfl rfl ?_|refine x_no rfl rfl (lookO_spec rfl) rfl rfl rfl ?_|refine x_un rfl rfl (lookO_spec rfl) rfl rfl ?_)|((first|refine' w_q rfl rfl ?xa rfl ?_|refine' v_q rfl rfl ?xa rfl ?_|refine' w_yes rfl rfl (lookO_spec rfl) rfl ?xa rfl ?_|refine' v_yes rfl rfl (lookO_spec rfl) rfl ?xa rfl ?_); case xa => exact k_call KB rfl ⟨asA_agg (evO_spec rfl) ⟨cAr_r, cAr_nil, cAr_nil, cAr_own0 (lookHO_spec rfl) hmi, trivial⟩, trivial⟩)|((first|refine aw_ways rfl ?_ ?_|refine r_split rfl rfl rfl ?_ ?_) <;> intro hg_ <;> fail_if_success (exact Bool.noConfusion hg_)) <;> (try simp only [prn] at hg_) <;> (try first|contradiction|(exfalso; omega)))
            all_goals first
              | exact ret_3 (rv_cell rfl rfl (by (with_reducible first | exact ty3 | exact ty4 | exact ty5 | exact ty9 | exact ty17 | exact ty19 | exact ty22 | exact ty24 | exact ty25 | exact ty26 | exact ty28 | exact ty36 | exact ty38 | exact ty40 | exact ty44 | exact ty46 | exact ty48 | exact ty55 | exact ty81 | exact ty84 | exact ty89 | exact ty95 | exact ty98 | exact ty105 | exact ty118 | exact ty122 | exact ty132 | exact ty134 | exact ty137 | exact ty143 | exact ty153 | exact ty155 | exact ty156 | exact ty161)) rfl rfl rfl (dres_agg (by refine ⟨cres_val, ?_, ?_, ?_, trivial⟩ <;> first | exact cres_nil | exact cres_own0 (lookHO_spec rfl) hvi | exact cres_own0 (lookHO_spec rfl) hgi | exact cres_own0 (lookHO_spec rfl) hmi))) (rv_tmp rfl (dres_int rfl)) (rv_tmp rfl (dres_bool rfl))
              | (exfalso; omega)
              | trace_state
          · obtain ⟨hw1, hw2⟩ := hwe.2 rfl
            have KS2 := KS hw1
            rw [hw2]
            clear KS hwe hw2
            repeat' (first|(with_reducible first|refine aw_seq ?_|refine thn_normal ?_|refine thn_ret ?_|refine thn_exit ?_|refine blk_normal ?_|refine blk_ret ?_|refine blk_hit ?_|refine blk_miss rfl ?_|refine aw_block ?_|refine aw_ret ?_|refine aw_skip ?_|refine aw_exit ?_|refine w_nil ?_|refine x_nil (by kernel_rfl) ?_)|refine aw_region ?_|refine aw_region_draw (by kernel_rfl) ?_|refine aw_yes rfl ?_|refine aw_no rfl ?_|((with_reducible refine w_seq ?_); first|refine r_q tbOk rfl rfl rfl rfl ?_|refine r_e tbOk rfl rfl rfl rfl rfl ?_|refine r_yes tbOk rfl rfl rfl rfl rfl rfl ?_|refine w_no rfl rfl (lookO_spec rfl) rfl rfl rfl ?_|refine w_un rfl rfl (lookO_spec rfl) rfl rfl ?_)|((with_reducible refine w_drw ?_); first|refine rx_q tbOk rfl rfl rfl rfl ?_|refine rx_e tbOk rfl rfl rfl rfl rfl ?_|refine rx_yes tbOk rfl rfl rfl rfl rfl rfl ?_|refine x_no rfl rfl (lookO_spec rfl) rfl rfl rfl ?_|refine x_un rfl rfl (lookO_spec rfl) rfl rfl ?_)|((first|refine' w_q rfl rfl ?xa rfl ?_|refine' v_q rfl rfl ?xa rfl ?_|refine' w_yes rfl rfl (lookO_spec rfl) rfl ?xa rfl ?_|refine' v_yes rfl rfl (lookO_spec rfl) rfl ?xa rfl ?_); case xa => first|exact k_call KB rfl ⟨asA_agg (evO_spec rfl) ⟨cAr_r, cAr_nil, cAr_nil, cAr_own0 (lookHO_spec rfl) hmi, trivial⟩, trivial⟩|exact k_call KS2 rfl ⟨asA_r (evO_spec rfl), asA_r (evO_spec rfl), asA_r (evO_spec rfl), trivial⟩)|((first|refine aw_ways rfl ?_ ?_|refine r_split rfl rfl rfl ?_ ?_) <;> intro hg_ <;> fail_if_success (exact Bool.noConfusion hg_)) <;> (try simp only [prn] at hg_) <;> (try first|contradiction|(exfalso; omega)))
            all_goals first
              | exact ret_3 (rv_cell rfl rfl (by (with_reducible first | exact ty3 | exact ty4 | exact ty5 | exact ty9 | exact ty17 | exact ty19 | exact ty22 | exact ty24 | exact ty25 | exact ty26 | exact ty28 | exact ty36 | exact ty38 | exact ty40 | exact ty44 | exact ty46 | exact ty48 | exact ty55 | exact ty81 | exact ty84 | exact ty89 | exact ty95 | exact ty98 | exact ty105 | exact ty118 | exact ty122 | exact ty132 | exact ty134 | exact ty137 | exact ty143 | exact ty153 | exact ty155 | exact ty156 | exact ty161)) rfl rfl rfl (dres_agg (by refine ⟨cres_val, ?_, ?_, ?_, trivial⟩ <;> first | exact cres_nil | exact cres_own0 (lookHO_spec rfl) hvi | exact cres_own0 (lookHO_spec rfl) hgi | exact cres_own0 (lookHO_spec rfl) hmi))) (rv_tmp rfl (dres_int (by rw [hwi]))) (rv_tmp rfl (dres_bool rfl))
              | (exfalso; omega)
              | trace_state
      · have hgs : gs ≠ [] := fun e => hvs (by rw [e] at hgl; exact List.eq_nil_of_length_eq_zero (by simpa using hgl.symm))
        have hvf : vs.isEmpty = false := by cases vs with
          | nil => exact absurd rfl hvs
          | cons v w => rfl
        have hgf : gs.isEmpty = false := by cases gs with
          | nil => exact absurd rfl hgs
          | cons v w => rfl
        have hvi := (ints_len vs).symm
        have hgi := (bools_len gs).symm
        by_cases hms : ms = []
        · subst hms
          rw [hF10 _ _ _ hvs hgs]
          clear hF00 hF01 hF10 hF11
          have hTT : stateR ⟨n1, vs, gs, []⟩ = stateP n1 false vs false gs true [] := (by show stateP _ _ _ _ _ _ _ = _; rw [hvf, hgf]; first | rfl | skip)
          rw [hTT]
          clear hTT
          have KB := f_specStateBodies ⟨n1, vs, gs, []⟩ false false true (by dsimp only [List.length_nil]; omega) (by dsimp only [List.length_nil]; omega) (by dsimp only [List.length_nil]; omega)
          have hwb : wantB ⟨n1, vs, gs, []⟩ = if Sta.ok ⟨n1, vs, gs, []⟩ then ckB ⟨n1, vs, gs, []⟩ else [] := rfl
          rw [← hwb] at KB
          (try dsimp only at KB)
          have hwl : (wantB ⟨n1, vs, gs, []⟩).length ≤ 1048576 := wantB_len _
          have KS := fun h => f_l18Same nil false L (wantB ⟨n1, vs, gs, []⟩) at_ (by omega) hwl (by omega) hall h
          rw [hDD] at KS
          have hwe := wantB_ok ⟨n1, vs, gs, []⟩
          (try dsimp only at hwe)
          generalize Sta.ok ⟨n1, vs, gs, []⟩ = ok at *
          generalize wantB ⟨n1, vs, gs, []⟩ = W at *
          have hwi := rowsI_len W
          clear hwb
          cases ok
          · obtain rfl : W = [] := hwe.1 rfl
            have hwi0 : (rowsI []).length = 0 := rfl
            clear KS hwe
            repeat' (first|(with_reducible first|refine aw_seq ?_|refine thn_normal ?_|refine thn_ret ?_|refine thn_exit ?_|refine blk_normal ?_|refine blk_ret ?_|refine blk_hit ?_|refine blk_miss rfl ?_|refine aw_block ?_|refine aw_ret ?_|refine aw_skip ?_|refine aw_exit ?_|refine w_nil ?_|refine x_nil (by kernel_rfl) ?_)|refine aw_region ?_|refine aw_region_draw (by kernel_rfl) ?_|refine aw_yes rfl ?_|refine aw_no rfl ?_|((with_reducible refine w_seq ?_); first|refine r_q tbOk rfl rfl rfl rfl ?_|refine r_e tbOk rfl rfl rfl rfl rfl ?_|refine r_yes tbOk rfl rfl rfl rfl rfl rfl ?_|refine w_no rfl rfl (lookO_spec rfl) rfl rfl rfl ?_|refine w_un rfl rfl (lookO_spec rfl) rfl rfl ?_)|((with_reducible refine w_drw ?_); first|refine rx_q tbOk rfl rfl rfl rfl ?_|refine rx_e tbOk rfl rfl rfl rfl rfl ?_|refine rx_yes tbOk rfl rfl rfl rfl rfl rfl ?_|refine x_no rfl rfl (lookO_spec rfl) rfl rfl rfl ?_|refine x_un rfl rfl (lookO_spec rfl) rfl rfl ?_)|((first|refine' w_q rfl rfl ?xa rfl ?_|refine' v_q rfl rfl ?xa rfl ?_|refine' w_yes rfl rfl (lookO_spec rfl) rfl ?xa rfl ?_|refine' v_yes rfl rfl (lookO_spec rfl) rfl ?xa rfl ?_); case xa => exact k_call KB rfl ⟨asA_agg (evO_spec rfl) ⟨cAr_r, cAr_own0 (lookHO_spec rfl) hvi, cAr_own0 (lookHO_spec rfl) hgi, cAr_nil, trivial⟩, trivial⟩)|((first|refine aw_ways rfl ?_ ?_|refine r_split rfl rfl rfl ?_ ?_) <;> intro hg_ <;> fail_if_success (exact Bool.noConfusion hg_)) <;> (try simp only [prn] at hg_) <;> (try first|contradiction|(exfalso; omega)))
            all_goals first
              | exact ret_3 (rv_cell rfl rfl (by (with_reducible first | exact ty3 | exact ty4 | exact ty5 | exact ty9 | exact ty17 | exact ty19 | exact ty22 | exact ty24 | exact ty25 | exact ty26 | exact ty28 | exact ty36 | exact ty38 | exact ty40 | exact ty44 | exact ty46 | exact ty48 | exact ty55 | exact ty81 | exact ty84 | exact ty89 | exact ty95 | exact ty98 | exact ty105 | exact ty118 | exact ty122 | exact ty132 | exact ty134 | exact ty137 | exact ty143 | exact ty153 | exact ty155 | exact ty156 | exact ty161)) rfl rfl rfl (dres_agg (by refine ⟨cres_val, ?_, ?_, ?_, trivial⟩ <;> first | exact cres_nil | exact cres_own0 (lookHO_spec rfl) hvi | exact cres_own0 (lookHO_spec rfl) hgi | exact cres_own0 (lookHO_spec rfl) hmi))) (rv_tmp rfl (dres_int rfl)) (rv_tmp rfl (dres_bool rfl))
              | (exfalso; omega)
              | trace_state
          · obtain ⟨hw1, hw2⟩ := hwe.2 rfl
            have KS2 := KS hw1
            rw [hw2]
            clear KS hwe hw2
            repeat' (first|(with_reducible first|refine aw_seq ?_|refine thn_normal ?_|refine thn_ret ?_|refine thn_exit ?_|refine blk_normal ?_|refine blk_ret ?_|refine blk_hit ?_|refine blk_miss rfl ?_|refine aw_block ?_|refine aw_ret ?_|refine aw_skip ?_|refine aw_exit ?_|refine w_nil ?_|refine x_nil (by kernel_rfl) ?_)|refine aw_region ?_|refine aw_region_draw (by kernel_rfl) ?_|refine aw_yes rfl ?_|refine aw_no rfl ?_|((with_reducible refine w_seq ?_); first|refine r_q tbOk rfl rfl rfl rfl ?_|refine r_e tbOk rfl rfl rfl rfl rfl ?_|refine r_yes tbOk rfl rfl rfl rfl rfl rfl ?_|refine w_no rfl rfl (lookO_spec rfl) rfl rfl rfl ?_|refine w_un rfl rfl (lookO_spec rfl) rfl rfl ?_)|((with_reducible refine w_drw ?_); first|refine rx_q tbOk rfl rfl rfl rfl ?_|refine rx_e tbOk rfl rfl rfl rfl rfl ?_|refine rx_yes tbOk rfl rfl rfl rfl rfl rfl ?_|refine x_no rfl rfl (lookO_spec rfl) rfl rfl rfl ?_|refine x_un rfl rfl (lookO_spec rfl) rfl rfl ?_)|((first|refine' w_q rfl rfl ?xa rfl ?_|refine' v_q rfl rfl ?xa rfl ?_|refine' w_yes rfl rfl (lookO_spec rfl) rfl ?xa rfl ?_|refine' v_yes rfl rfl (lookO_spec rfl) rfl ?xa rfl ?_); case xa => first|exact k_call KB rfl ⟨asA_agg (evO_spec rfl) ⟨cAr_r, cAr_own0 (lookHO_spec rfl) hvi, cAr_own0 (lookHO_spec rfl) hgi, cAr_nil, trivial⟩, trivial⟩|exact k_call KS2 rfl ⟨asA_r (evO_spec rfl), asA_r (evO_spec rfl), asA_r (evO_spec rfl), trivial⟩)|((first|refine aw_ways rfl ?_ ?_|refine r_split rfl rfl rfl ?_ ?_) <;> intro hg_ <;> fail_if_success (exact Bool.noConfusion hg_)) <;> (try simp only [prn] at hg_) <;> (try first|contradiction|(exfalso; omega)))
            all_goals first
              | exact ret_3 (rv_cell rfl rfl (by (with_reducible first | exact ty3 | exact ty4 | exact ty5 | exact ty9 | exact ty17 | exact ty19 | exact ty22 | exact ty24 | exact ty25 | exact ty26 | exact ty28 | exact ty36 | exact ty38 | exact ty40 | exact ty44 | exact ty46 | exact ty48 | exact ty55 | exact ty81 | exact ty84 | exact ty89 | exact ty95 | exact ty98 | exact ty105 | exact ty118 | exact ty122 | exact ty132 | exact ty134 | exact ty137 | exact ty143 | exact ty153 | exact ty155 | exact ty156 | exact ty161)) rfl rfl rfl (dres_agg (by refine ⟨cres_val, ?_, ?_, ?_, trivial⟩ <;> first | exact cres_nil | exact cres_own0 (lookHO_spec rfl) hvi | exact cres_own0 (lookHO_spec rfl) hgi | exact cres_own0 (lookHO_spec rfl) hmi))) (rv_tmp rfl (dres_int (by rw [hwi]))) (rv_tmp rfl (dres_bool rfl))
              | (exfalso; omega)
              | trace_state
        · have hmf : ms.isEmpty = false := by cases ms with
            | nil => exact absurd rfl hms
            | cons v w => rfl
          have hmi := (edges_len ms).symm
          rw [hF11 _ _ _ _ hvs hgs hms]
          clear hF00 hF01 hF10 hF11
          have hTT : stateR ⟨n1, vs, gs, ms⟩ = stateP n1 false vs false gs false ms := (by show stateP _ _ _ _ _ _ _ = _; rw [hvf, hgf, hmf]; first | rfl | skip)
          rw [hTT]
          clear hTT
          have KB := f_specStateBodies ⟨n1, vs, gs, ms⟩ false false false (by dsimp only [List.length_nil]; omega) (by dsimp only [List.length_nil]; omega) (by dsimp only [List.length_nil]; omega)
          have hwb : wantB ⟨n1, vs, gs, ms⟩ = if Sta.ok ⟨n1, vs, gs, ms⟩ then ckB ⟨n1, vs, gs, ms⟩ else [] := rfl
          rw [← hwb] at KB
          (try dsimp only at KB)
          have hwl : (wantB ⟨n1, vs, gs, ms⟩).length ≤ 1048576 := wantB_len _
          have KS := fun h => f_l18Same nil false L (wantB ⟨n1, vs, gs, ms⟩) at_ (by omega) hwl (by omega) hall h
          rw [hDD] at KS
          have hwe := wantB_ok ⟨n1, vs, gs, ms⟩
          (try dsimp only at hwe)
          generalize Sta.ok ⟨n1, vs, gs, ms⟩ = ok at *
          generalize wantB ⟨n1, vs, gs, ms⟩ = W at *
          have hwi := rowsI_len W
          clear hwb
          cases ok
          · obtain rfl : W = [] := hwe.1 rfl
            have hwi0 : (rowsI []).length = 0 := rfl
            clear KS hwe
            repeat' (first|(with_reducible first|refine aw_seq ?_|refine thn_normal ?_|refine thn_ret ?_|refine thn_exit ?_|refine blk_normal ?_|refine blk_ret ?_|refine blk_hit ?_|refine blk_miss rfl ?_|refine aw_block ?_|refine aw_ret ?_|refine aw_skip ?_|refine aw_exit ?_|refine w_nil ?_|refine x_nil (by kernel_rfl) ?_)|refine aw_region ?_|refine aw_region_draw (by kernel_rfl) ?_|refine aw_yes rfl ?_|refine aw_no rfl ?_|((with_reducible refine w_seq ?_); first|refine r_q tbOk rfl rfl rfl rfl ?_|refine r_e tbOk rfl rfl rfl rfl rfl ?_|refine r_yes tbOk rfl rfl rfl rfl rfl rfl ?_|refine w_no rfl rfl (lookO_spec rfl) rfl rfl rfl ?_|refine w_un rfl rfl (lookO_spec rfl) rfl rfl ?_)|((with_reducible refine w_drw ?_); first|refine rx_q tbOk rfl rfl rfl rfl ?_|refine rx_e tbOk rfl rfl rfl rfl rfl ?_|refine rx_yes tbOk rfl rfl rfl rfl rfl rfl ?_|refine x_no rfl rfl (lookO_spec rfl) rfl rfl rfl ?_|refine x_un rfl rfl (lookO_spec rfl) rfl rfl ?_)|((first|refine' w_q rfl rfl ?xa rfl ?_|refine' v_q rfl rfl ?xa rfl ?_|refine' w_yes rfl rfl (lookO_spec rfl) rfl ?xa rfl ?_|refine' v_yes rfl rfl (lookO_spec rfl) rfl ?xa rfl ?_); case xa => exact k_call KB rfl ⟨asA_agg (evO_spec rfl) ⟨cAr_r, cAr_own0 (lookHO_spec rfl) hvi, cAr_own0 (lookHO_spec rfl) hgi, cAr_own0 (lookHO_spec rfl) hmi, trivial⟩, trivial⟩)|((first|refine aw_ways rfl ?_ ?_|refine r_split rfl rfl rfl ?_ ?_) <;> intro hg_ <;> fail_if_success (exact Bool.noConfusion hg_)) <;> (try simp only [prn] at hg_) <;> (try first|contradiction|(exfalso; omega)))
            all_goals first
              | exact ret_3 (rv_cell rfl rfl (by (with_reducible first | exact ty3 | exact ty4 | exact ty5 | exact ty9 | exact ty17 | exact ty19 | exact ty22 | exact ty24 | exact ty25 | exact ty26 | exact ty28 | exact ty36 | exact ty38 | exact ty40 | exact ty44 | exact ty46 | exact ty48 | exact ty55 | exact ty81 | exact ty84 | exact ty89 | exact ty95 | exact ty98 | exact ty105 | exact ty118 | exact ty122 | exact ty132 | exact ty134 | exact ty137 | exact ty143 | exact ty153 | exact ty155 | exact ty156 | exact ty161)) rfl rfl rfl (dres_agg (by refine ⟨cres_val, ?_, ?_, ?_, trivial⟩ <;> first | exact cres_nil | exact cres_own0 (lookHO_spec rfl) hvi | exact cres_own0 (lookHO_spec rfl) hgi | exact cres_own0 (lookHO_spec rfl) hmi))) (rv_tmp rfl (dres_int rfl)) (rv_tmp rfl (dres_bool rfl))
              | (exfalso; omega)
              | trace_state
          · obtain ⟨hw1, hw2⟩ := hwe.2 rfl
            have KS2 := KS hw1
            rw [hw2]
            clear KS hwe hw2
            repeat' (first|(with_reducible first|refine aw_seq ?_|refine thn_normal ?_|refine thn_ret ?_|refine thn_exit ?_|refine blk_normal ?_|refine blk_ret ?_|refine blk_hit ?_|refine blk_miss rfl ?_|refine aw_block ?_|refine aw_ret ?_|refine aw_skip ?_|refine aw_exit ?_|refine w_nil ?_|refine x_nil (by kernel_rfl) ?_)|refine aw_region ?_|refine aw_region_draw (by kernel_rfl) ?_|refine aw_yes rfl ?_|refine aw_no rfl ?_|((with_reducible refine w_seq ?_); first|refine r_q tbOk rfl rfl rfl rfl ?_|refine r_e tbOk rfl rfl rfl rfl rfl ?_|refine r_yes tbOk rfl rfl rfl rfl rfl rfl ?_|refine w_no rfl rfl (lookO_spec rfl) rfl rfl rfl ?_|refine w_un rfl rfl (lookO_spec rfl) rfl rfl ?_)|((with_reducible refine w_drw ?_); first|refine rx_q tbOk rfl rfl rfl rfl ?_|refine rx_e tbOk rfl rfl rfl rfl rfl ?_|refine rx_yes tbOk rfl rfl rfl rfl rfl rfl ?_|refine x_no rfl rfl (lookO_spec rfl) rfl rfl rfl ?_|refine x_un rfl rfl (lookO_spec rfl) rfl rfl ?_)|((first|refine' w_q rfl rfl ?xa rfl ?_|refine' v_q rfl rfl ?xa rfl ?_|refine' w_yes rfl rfl (lookO_spec rfl) rfl ?xa rfl ?_|refine' v_yes rfl rfl (lookO_spec rfl) rfl ?xa rfl ?_); case xa => first|exact k_call KB rfl ⟨asA_agg (evO_spec rfl) ⟨cAr_r, cAr_own0 (lookHO_spec rfl) hvi, cAr_own0 (lookHO_spec rfl) hgi, cAr_own0 (lookHO_spec rfl) hmi, trivial⟩, trivial⟩|exact k_call KS2 rfl ⟨asA_r (evO_spec rfl), asA_r (evO_spec rfl), asA_r (evO_spec rfl), trivial⟩)|((first|refine aw_ways rfl ?_ ?_|refine r_split rfl rfl rfl ?_ ?_) <;> intro hg_ <;> fail_if_success (exact Bool.noConfusion hg_)) <;> (try simp only [prn] at hg_) <;> (try first|contradiction|(exfalso; omega)))
            all_goals first
              | exact ret_3 (rv_cell rfl rfl (by (with_reducible first | exact ty3 | exact ty4 | exact ty5 | exact ty9 | exact ty17 | exact ty19 | exact ty22 | exact ty24 | exact ty25 | exact ty26 | exact ty28 | exact ty36 | exact ty38 | exact ty40 | exact ty44 | exact ty46 | exact ty48 | exact ty55 | exact ty81 | exact ty84 | exact ty89 | exact ty95 | exact ty98 | exact ty105 | exact ty118 | exact ty122 | exact ty132 | exact ty134 | exact ty137 | exact ty143 | exact ty153 | exact ty155 | exact ty156 | exact ty161)) rfl rfl rfl (dres_agg (by refine ⟨cres_val, ?_, ?_, ?_, trivial⟩ <;> first | exact cres_nil | exact cres_own0 (lookHO_spec rfl) hvi | exact cres_own0 (lookHO_spec rfl) hgi | exact cres_own0 (lookHO_spec rfl) hmi))) (rv_tmp rfl (dres_int (by rw [hwi]))) (rv_tmp rfl (dres_bool rfl))
              | (exfalso; omega)
              | trace_state
    -- END LOOP
  · rw [if_neg hg] at hX
    rw [hX]
    dsimp only
    clear hX
    have hz : (.tup [stateR zSta, iP 0, .one (bool false)] : Res) = .tup [stateP 0 true [] true [] true [], iP 0, .one (bool false)] := rfl
    rw [hz]
    clear hz
    refine fn_of (l := [.cell 4 28, .tmp 5, .tmp 6]) Try.func38 (by kernel_rfl) rfl Try.ntmps38 rfl rfl ?_; simp only [argEnv, P0.d, Nat.reduceAdd]
    repeat' (first|(with_reducible first|refine aw_seq ?_|refine thn_normal ?_|refine thn_ret ?_|refine thn_exit ?_|refine blk_normal ?_|refine blk_ret ?_|refine blk_hit ?_|refine blk_miss rfl ?_|refine aw_block ?_|refine aw_ret ?_|refine aw_skip ?_|refine aw_exit ?_|refine w_nil ?_|refine x_nil (by kernel_rfl) ?_)|refine aw_region ?_|refine aw_region_draw (by kernel_rfl) ?_|refine aw_yes rfl ?_|refine aw_no rfl ?_|((with_reducible refine w_seq ?_); first|refine r_q tbOk rfl rfl rfl rfl ?_|refine r_e tbOk rfl rfl rfl rfl rfl ?_|refine r_yes tbOk rfl rfl rfl rfl rfl rfl ?_|refine w_no rfl rfl (lookO_spec rfl) rfl rfl rfl ?_|refine w_un rfl rfl (lookO_spec rfl) rfl rfl ?_)|((with_reducible refine w_drw ?_); first|refine rx_q tbOk rfl rfl rfl rfl ?_|refine rx_e tbOk rfl rfl rfl rfl rfl ?_|refine rx_yes tbOk rfl rfl rfl rfl rfl rfl ?_|refine x_no rfl rfl (lookO_spec rfl) rfl rfl rfl ?_|refine x_un rfl rfl (lookO_spec rfl) rfl rfl ?_)|((first|refine' w_q rfl rfl ?xa rfl ?_|refine' v_q rfl rfl ?xa rfl ?_|refine' w_yes rfl rfl (lookO_spec rfl) rfl ?xa rfl ?_|refine' v_yes rfl rfl (lookO_spec rfl) rfl ?xa rfl ?_); case xa => first|exact k_index tbOk rfl rfl rfl rfl (by omega) (by first|exact hx|exact hx2)|exact k_call KD1 rfl ⟨asA_r (evO_spec rfl), asA_r (evO_spec rfl), trivial⟩|exact k_call KD2 rfl ⟨asA_r (evO_spec rfl), asA_r (evO_spec rfl), trivial⟩|exact k_call KD3 rfl ⟨asA_r (evO_spec rfl), asA_r (evO_spec rfl), trivial⟩)|((first|refine aw_ways rfl ?_ ?_|refine r_split rfl rfl rfl ?_ ?_) <;> intro hg_ <;> fail_if_success (exact Bool.noConfusion hg_)) <;> (try simp only [prn] at hg_) <;> (try first|contradiction|(exfalso; omega)))
    all_goals first
      | exact ret_3 (rv_cell rfl rfl (by (with_reducible first | exact ty3 | exact ty4 | exact ty5 | exact ty9 | exact ty17 | exact ty19 | exact ty22 | exact ty24 | exact ty25 | exact ty26 | exact ty28 | exact ty36 | exact ty38 | exact ty40 | exact ty44 | exact ty46 | exact ty48 | exact ty55 | exact ty81 | exact ty84 | exact ty89 | exact ty95 | exact ty98 | exact ty105 | exact ty118 | exact ty122 | exact ty132 | exact ty134 | exact ty137 | exact ty143 | exact ty153 | exact ty155 | exact ty156 | exact ty161)) rfl rfl rfl (dres_agg (by exact ⟨cres_val, cres_nil, cres_nil, cres_nil, trivial⟩))) (rv_tmp rfl (dres_int rfl)) (rv_tmp rfl (dres_bool rfl))
      | (exfalso; exact hg ⟨by assumption, by assumption, by assumption, by omega, by omega, by omega⟩)
      | trace_state
theorem f_l18Read (nil : Bool) (L : List (List Int)) (at_ : Nat) (hl : L.length ≤ 2000) (hat : at_ < L.length) (hL : ∀ b ∈ L, b.length ≤ 1048576) :
    ∃ x n q, Fn Try.prog 38 [.one (row nil 1 (rowsI L)), iP (at_ : Int)] (.tup [stateR x, iP n, .one (bool q)]) ∧ (q = true → ckAt (L.drop at_) = some x) ∧ (q = false → ckAt (L.drop at_) = none) := by
  by_cases hh : L[at_].head? = some 1
  · refine ⟨_, _, _, f_l18Read1 nil L at_ hl hat hL hh, rdRes_some, rdRes_none⟩
  · refine ⟨zSta, 0, false, f_l18ReadZ nil L at_ hat hh, fun h => by (cases h), fun _ => rdRes_none ?_⟩
    rw [List.drop_eq_getElem_cons hat]
    simp only [rdRes, rcdH_no hh]
def ckRes : Option Sta → Sta × Bool
  | some s => (s, true)
  | none => (zSta, false)
set_option maxRecDepth 100000 in
set_option maxHeartbeats 8000000 in
theorem f_specLast (nil : Bool) (L : List (List Int)) (hl : L.length ≤ 1048576) (hL : ∀ b ∈ L, b.length ≤ 1048576) : Fn Try.prog 8 [.one (row nil 1 (rowsI L))] (.tup [stateR (ckRes (lastCk L)).1, .one (bool (ckRes (lastCk L)).2)]) := by
  have hlenL := rowsI_len L
  have KO := f_ownRowsI nil L hl hL
  obtain ⟨X, hX⟩ : ∃ X, X = ckRes (lastCk L) := ⟨_, rfl⟩
  rw [← hX]
  have hz : stateR zSta = stateP 0 true [] true [] true [] := rfl
  by_cases hbig : L.length ≤ 2000
  · have hX0 : X = ckRes (lastFrom L L.length) := by rw [hX]; unfold lastCk; rw [if_pos hbig]
    clear hX
    refine fn_of (l := [.cell 2 28, .tmp 3]) Try.func8 (by kernel_rfl) rfl Try.ntmps8 rfl rfl ?_; simp only [argEnv, P0.d, Nat.reduceAdd]
    repeat' (first|(with_reducible first|refine aw_seq ?_|refine thn_normal ?_|refine thn_ret ?_|refine thn_exit ?_|refine blk_normal ?_|refine blk_ret ?_|refine blk_hit ?_|refine blk_miss rfl ?_|refine aw_block ?_|refine aw_ret ?_|refine aw_skip ?_|refine aw_exit ?_|refine w_nil ?_|refine x_nil (by kernel_rfl) ?_)|refine aw_region ?_|refine aw_region_draw (by kernel_rfl) ?_|refine aw_yes rfl ?_|refine aw_no rfl ?_|((with_reducible refine w_seq ?_); first|refine r_q tbOk rfl rfl rfl rfl ?_|refine r_e tbOk rfl rfl rfl rfl rfl ?_|refine r_yes tbOk rfl rfl rfl rfl rfl rfl ?_|refine w_no rfl rfl (lookO_spec rfl) rfl rfl rfl ?_|refine w_un rfl rfl (lookO_spec rfl) rfl rfl ?_)|((with_reducible refine w_drw ?_); first|refine rx_q tbOk rfl rfl rfl rfl ?_|refine rx_e tbOk rfl rfl rfl rfl rfl ?_|refine rx_yes tbOk rfl rfl rfl rfl rfl rfl ?_|refine x_no rfl rfl (lookO_spec rfl) rfl rfl rfl ?_|refine x_un rfl rfl (lookO_spec rfl) rfl rfl ?_)|((first|refine' w_q rfl rfl ?xa rfl ?_|refine' v_q rfl rfl ?xa rfl ?_|refine' w_yes rfl rfl (lookO_spec rfl) rfl ?xa rfl ?_|refine' v_yes rfl rfl (lookO_spec rfl) rfl ?xa rfl ?_); case xa => exact k_call KO rfl ⟨asA_r (evO_spec rfl), trivial⟩)|((first|refine aw_ways rfl ?_ ?_|refine r_split rfl rfl rfl ?_ ?_) <;> intro hg_ <;> fail_if_success (exact Bool.noConfusion hg_)) <;> (try simp only [prn] at hg_) <;> (try first|contradiction|(exfalso; omega)))
    have hw0 : IntKind.i64.wrap (((rowsI L).length : Int) - 1) = (L.length : Int) - 1 := by rw [hlenL]; exact IntWalk.i64_in _ (by omega)
    obtain ⟨F, hFs⟩ : ∃ F : Nat → St, ∀ k, F k = mkS 32 [(4, .one (.r true (int ((k : Int) - 1)))), (2, .one (.ptr 2 0 0 0)), (0, .one (.r true (row false 1 (rowsI L))))] [(2, .var 28 [.r true (int 0), .r true (row true 0 []), .r true (row true 0 []), .r true (row true 0 [])])] := ⟨_, fun _ => rfl⟩
    refine aw_loopI (fun k : Nat => k ≤ L.length ∧ X = ckRes (lastFrom L k)) F (fun k => k) L.length ⟨Nat.le_refl _, hX0⟩ (by rw [hFs]; (refine weak_ren [] rfl ?_ ?_ <;> repeat' (first|exact trivial|refine subR_cons rfl ?_ ?_|refine subHR_cons rfl ?_ ?_|rfl|(refine d_int ?_; (first|rfl|omega|(rw [IntWalk.i64_in _ (by omega)] <;> omega)|(simp; done)|(simp; omega)))|(refine d_bool ?_; (first|(simp_all; done)|(rw [Bool.eq_iff_iff]; simp_all; done)|(rw [Bool.eq_iff_iff]; simp_all; omega)|(rw [Bool.eq_iff_iff]; simp; omega)))|exact d_int hw0))) ?_
    rintro k ⟨hk, HX⟩
    clear hX0
    cases k with
    | zero =>
      rw [hFs]
      have hXz : X = (zSta, false) := HX
      rw [hXz]
      dsimp only
      rw [hz]
      clear HX hFs hXz
      repeat' (first|(with_reducible first|refine aw_seq ?_|refine thn_normal ?_|refine thn_ret ?_|refine thn_exit ?_|refine blk_normal ?_|refine blk_ret ?_|refine blk_hit ?_|refine blk_miss rfl ?_|refine aw_block ?_|refine aw_ret ?_|refine aw_skip ?_|refine aw_exit ?_|refine w_nil ?_|refine x_nil (by kernel_rfl) ?_)|refine aw_region ?_|refine aw_region_draw (by kernel_rfl) ?_|refine aw_yes rfl ?_|refine aw_no rfl ?_|((with_reducible refine w_seq ?_); first|refine r_q tbOk rfl rfl rfl rfl ?_|refine r_e tbOk rfl rfl rfl rfl rfl ?_|refine r_yes tbOk rfl rfl rfl rfl rfl rfl ?_|refine w_no rfl rfl (lookO_spec rfl) rfl rfl rfl ?_|refine w_un rfl rfl (lookO_spec rfl) rfl rfl ?_)|((with_reducible refine w_drw ?_); first|refine rx_q tbOk rfl rfl rfl rfl ?_|refine rx_e tbOk rfl rfl rfl rfl rfl ?_|refine rx_yes tbOk rfl rfl rfl rfl rfl rfl ?_|refine x_no rfl rfl (lookO_spec rfl) rfl rfl rfl ?_|refine x_un rfl rfl (lookO_spec rfl) rfl rfl ?_)|((first|refine aw_ways rfl ?_ ?_|refine r_split rfl rfl rfl ?_ ?_) <;> intro hg_ <;> fail_if_success (exact Bool.noConfusion hg_)) <;> (try simp only [prn] at hg_) <;> (try first|contradiction|(exfalso; omega)))
      all_goals first
        | exact ret_2 (rv_cell rfl rfl (by (with_reducible first | exact ty3 | exact ty4 | exact ty5 | exact ty9 | exact ty17 | exact ty19 | exact ty22 | exact ty24 | exact ty25 | exact ty26 | exact ty28 | exact ty36 | exact ty38 | exact ty40 | exact ty44 | exact ty46 | exact ty48 | exact ty55 | exact ty81 | exact ty84 | exact ty89 | exact ty95 | exact ty98 | exact ty105 | exact ty118 | exact ty122 | exact ty132 | exact ty134 | exact ty137 | exact ty143 | exact ty153 | exact ty155 | exact ty156 | exact ty161)) rfl rfl rfl (dres_agg (by exact ⟨cres_val, cres_nil, cres_nil, cres_nil, trivial⟩))) (rv_tmp rfl (dres_bool rfl))
        | (exfalso; omega)
        | trace_state
    | succ m =>
      obtain ⟨x, n, q, KR, hq1, hq2⟩ := f_l18Read false L m hbig (by omega) hL
      have e1 : (((m + 1 : Nat) : Int) - 1) = (m : Int) := by omega
      have hw1 : IntKind.i64.wrap ((m : Int) - 1) = (m : Int) - 1 := IntWalk.i64_in _ (by omega)
      cases q
      · have HX2 : X = ckRes (lastFrom L m) := by rw [HX, lastFrom, hq2 rfl]
        have hfin : ∀ s' : St, Weak s' (F m) → ∃ x' : Nat, (x' ≤ L.length ∧ X = ckRes (lastFrom L x')) ∧ Weak s' (F x') ∧ x' < m + 1 := fun s' h => ⟨m, ⟨by omega, HX2⟩, h, by omega⟩
        rw [hFs] at hfin ⊢
        rw [e1]
        clear hFs HX HX2 hq1 hq2
        repeat' (first|(with_reducible first|refine aw_seq ?_|refine thn_normal ?_|refine thn_ret ?_|refine thn_exit ?_|refine blk_normal ?_|refine blk_ret ?_|refine blk_hit ?_|refine blk_miss rfl ?_|refine aw_block ?_|refine aw_ret ?_|refine aw_skip ?_|refine aw_exit ?_|refine w_nil ?_|refine x_nil (by kernel_rfl) ?_)|refine aw_region ?_|refine aw_region_draw (by kernel_rfl) ?_|refine aw_yes rfl ?_|refine aw_no rfl ?_|((with_reducible refine w_seq ?_); first|refine r_q tbOk rfl rfl rfl rfl ?_|refine r_e tbOk rfl rfl rfl rfl rfl ?_|refine r_yes tbOk rfl rfl rfl rfl rfl rfl ?_|refine w_no rfl rfl (lookO_spec rfl) rfl rfl rfl ?_|refine w_un rfl rfl (lookO_spec rfl) rfl rfl ?_)|((with_reducible refine w_drw ?_); first|refine rx_q tbOk rfl rfl rfl rfl ?_|refine rx_e tbOk rfl rfl rfl rfl rfl ?_|refine rx_yes tbOk rfl rfl rfl rfl rfl rfl ?_|refine x_no rfl rfl (lookO_spec rfl) rfl rfl rfl ?_|refine x_un rfl rfl (lookO_spec rfl) rfl rfl ?_)|((first|refine' w_q rfl rfl ?xa rfl ?_|refine' v_q rfl rfl ?xa rfl ?_|refine' w_yes rfl rfl (lookO_spec rfl) rfl ?xa rfl ?_|refine' v_yes rfl rfl (lookO_spec rfl) rfl ?xa rfl ?_); case xa => exact k_call KR rfl ⟨asA_r (evO_spec rfl), asA_r (evO_spec rfl), trivial⟩)|((first|refine aw_ways rfl ?_ ?_|refine r_split rfl rfl rfl ?_ ?_) <;> intro hg_ <;> fail_if_success (exact Bool.noConfusion hg_)) <;> (try simp only [prn] at hg_) <;> (try first|contradiction|(exfalso; omega)))
        all_goals first
          | (refine hfin _ ?_
             (refine weak_ren [] rfl ?_ ?_ <;> repeat' (first|exact trivial|refine subR_cons rfl ?_ ?_|refine subHR_cons rfl ?_ ?_|rfl|(refine d_int ?_; (first|rfl|omega|(rw [IntWalk.i64_in _ (by omega)] <;> omega)|(simp; done)|(simp; omega)))|(refine d_bool ?_; (first|(simp_all; done)|(rw [Bool.eq_iff_iff]; simp_all; done)|(rw [Bool.eq_iff_iff]; simp_all; omega)|(rw [Bool.eq_iff_iff]; simp; omega)))|exact d_int hw1)))
          | (exfalso; omega)
          | trace_state
      · have HX2 : X = (x, true) := by rw [HX, lastFrom, hq1 rfl]; rfl
        rw [HX2, hFs, e1]
        dsimp only
        clear hFs HX HX2 hq1 hq2
        obtain ⟨r, vs, gs, ms⟩ := x
        repeat' (first|(with_reducible first|refine aw_seq ?_|refine thn_normal ?_|refine thn_ret ?_|refine thn_exit ?_|refine blk_normal ?_|refine blk_ret ?_|refine blk_hit ?_|refine blk_miss rfl ?_|refine aw_block ?_|refine aw_ret ?_|refine aw_skip ?_|refine aw_exit ?_|refine w_nil ?_|refine x_nil (by kernel_rfl) ?_)|refine aw_region ?_|refine aw_region_draw (by kernel_rfl) ?_|refine aw_yes rfl ?_|refine aw_no rfl ?_|((with_reducible refine w_seq ?_); first|refine r_q tbOk rfl rfl rfl rfl ?_|refine r_e tbOk rfl rfl rfl rfl rfl ?_|refine r_yes tbOk rfl rfl rfl rfl rfl rfl ?_|refine w_no rfl rfl (lookO_spec rfl) rfl rfl rfl ?_|refine w_un rfl rfl (lookO_spec rfl) rfl rfl ?_)|((with_reducible refine w_drw ?_); first|refine rx_q tbOk rfl rfl rfl rfl ?_|refine rx_e tbOk rfl rfl rfl rfl rfl ?_|refine rx_yes tbOk rfl rfl rfl rfl rfl rfl ?_|refine x_no rfl rfl (lookO_spec rfl) rfl rfl rfl ?_|refine x_un rfl rfl (lookO_spec rfl) rfl rfl ?_)|((first|refine' w_q rfl rfl ?xa rfl ?_|refine' v_q rfl rfl ?xa rfl ?_|refine' w_yes rfl rfl (lookO_spec rfl) rfl ?xa rfl ?_|refine' v_yes rfl rfl (lookO_spec rfl) rfl ?xa rfl ?_); case xa => exact k_call KR rfl ⟨asA_r (evO_spec rfl), asA_r (evO_spec rfl), trivial⟩)|((first|refine aw_ways rfl ?_ ?_|refine r_split rfl rfl rfl ?_ ?_) <;> intro hg_ <;> fail_if_success (exact Bool.noConfusion hg_)) <;> (try simp only [prn] at hg_) <;> (try first|contradiction|(exfalso; omega)))
        all_goals first
          | exact ret_2 (rv_cell rfl rfl (by (with_reducible first | exact ty3 | exact ty4 | exact ty5 | exact ty9 | exact ty17 | exact ty19 | exact ty22 | exact ty24 | exact ty25 | exact ty26 | exact ty28 | exact ty36 | exact ty38 | exact ty40 | exact ty44 | exact ty46 | exact ty48 | exact ty55 | exact ty81 | exact ty84 | exact ty89 | exact ty95 | exact ty98 | exact ty105 | exact ty118 | exact ty122 | exact ty132 | exact ty134 | exact ty137 | exact ty143 | exact ty153 | exact ty155 | exact ty156 | exact ty161)) rfl rfl rfl (dres_agg (by exact ⟨cres_new, cres_new, cres_new, cres_new, trivial⟩))) (rv_tmp rfl (dres_bool rfl))
          | (exfalso; omega)
          | trace_state
  · have hXz : X = (zSta, false) := by rw [hX]; unfold lastCk; rw [if_neg hbig]; rfl
    rw [hXz]
    dsimp only
    rw [hz]
    clear hX hXz hz
    have hw0 : IntKind.i64.wrap (((rowsI L).length : Int) - 1) = (L.length : Int) - 1 := by rw [hlenL]; exact IntWalk.i64_in _ (by omega)
    refine fn_of (l := [.cell 2 28, .tmp 3]) Try.func8 (by kernel_rfl) rfl Try.ntmps8 rfl rfl ?_; simp only [argEnv, P0.d, Nat.reduceAdd]
    repeat' (first|(with_reducible first|refine aw_seq ?_|refine thn_normal ?_|refine thn_ret ?_|refine thn_exit ?_|refine blk_normal ?_|refine blk_ret ?_|refine blk_hit ?_|refine blk_miss rfl ?_|refine aw_block ?_|refine aw_ret ?_|refine aw_skip ?_|refine aw_exit ?_|refine w_nil ?_|refine x_nil (by kernel_rfl) ?_)|refine aw_region ?_|refine aw_region_draw (by kernel_rfl) ?_|refine aw_yes rfl ?_|refine aw_no rfl ?_|((with_reducible refine w_seq ?_); first|refine r_q tbOk rfl rfl rfl rfl ?_|refine r_e tbOk rfl rfl rfl rfl rfl ?_|refine r_yes tbOk rfl rfl rfl rfl rfl rfl ?_|refine w_no rfl rfl (lookO_spec rfl) rfl rfl rfl ?_|refine w_un rfl rfl (lookO_spec rfl) rfl rfl ?_)|((with_reducible refine w_drw ?_); first|refine rx_q tbOk rfl rfl rfl rfl ?_|refine rx_e tbOk rfl rfl rfl rfl rfl ?_|refine rx_yes tbOk rfl rfl rfl rfl rfl rfl ?_|refine x_no rfl rfl (lookO_spec rfl) rfl rfl rfl ?_|refine x_un rfl rfl (lookO_spec rfl) rfl rfl ?_)|((first|refine' w_q rfl rfl ?xa rfl ?_|refine' v_q rfl rfl ?xa rfl ?_|refine' w_yes rfl rfl (lookO_spec rfl) rfl ?xa rfl ?_|refine' v_yes rfl rfl (lookO_spec rfl) rfl ?xa rfl ?_); case xa => exact k_call KO rfl ⟨asA_r (evO_spec rfl), trivial⟩)|((first|refine aw_ways rfl ?_ ?_|refine r_split rfl rfl rfl ?_ ?_) <;> intro hg_ <;> fail_if_success (exact Bool.noConfusion hg_)) <;> (try simp only [prn] at hg_) <;> (try first|contradiction|(exfalso; omega)))
    refine aw_loopI (fun k : Nat => True) (fun k : Nat => mkS 32 [(4, .one (.r true (int ((L.length : Int) - 1)))), (2, .one (.ptr 2 0 0 0)), (0, .one (.r true (row false 1 (rowsI L))))] [(2, .var 28 [.r true (int 0), .r true (row true 0 []), .r true (row true 0 []), .r true (row true 0 [])])]) (fun k => k) 0 trivial (by (refine weak_ren [] rfl ?_ ?_ <;> repeat' (first|exact trivial|refine subR_cons rfl ?_ ?_|refine subHR_cons rfl ?_ ?_|rfl|(refine d_int ?_; (first|rfl|omega|(rw [IntWalk.i64_in _ (by omega)] <;> omega)|(simp; done)|(simp; omega)))|(refine d_bool ?_; (first|(simp_all; done)|(rw [Bool.eq_iff_iff]; simp_all; done)|(rw [Bool.eq_iff_iff]; simp_all; omega)|(rw [Bool.eq_iff_iff]; simp; omega)))|exact d_int hw0))) ?_
    intro k _
    repeat' (first|(with_reducible first|refine aw_seq ?_|refine thn_normal ?_|refine thn_ret ?_|refine thn_exit ?_|refine blk_normal ?_|refine blk_ret ?_|refine blk_hit ?_|refine blk_miss rfl ?_|refine aw_block ?_|refine aw_ret ?_|refine aw_skip ?_|refine aw_exit ?_|refine w_nil ?_|refine x_nil (by kernel_rfl) ?_)|refine aw_region ?_|refine aw_region_draw (by kernel_rfl) ?_|refine aw_yes rfl ?_|refine aw_no rfl ?_|((with_reducible refine w_seq ?_); first|refine r_q tbOk rfl rfl rfl rfl ?_|refine r_e tbOk rfl rfl rfl rfl rfl ?_|refine r_yes tbOk rfl rfl rfl rfl rfl rfl ?_|refine w_no rfl rfl (lookO_spec rfl) rfl rfl rfl ?_|refine w_un rfl rfl (lookO_spec rfl) rfl rfl ?_)|((with_reducible refine w_drw ?_); first|refine rx_q tbOk rfl rfl rfl rfl ?_|refine rx_e tbOk rfl rfl rfl rfl rfl ?_|refine rx_yes tbOk rfl rfl rfl rfl rfl rfl ?_|refine x_no rfl rfl (lookO_spec rfl) rfl rfl rfl ?_|refine x_un rfl rfl (lookO_spec rfl) rfl rfl ?_)|((first|refine aw_ways rfl ?_ ?_|refine r_split rfl rfl rfl ?_ ?_) <;> intro hg_ <;> fail_if_success (exact Bool.noConfusion hg_)) <;> (try simp only [prn] at hg_) <;> (try first|contradiction|(exfalso; omega)))
    all_goals first
      | exact ret_2 (rv_cell rfl rfl (by (with_reducible first | exact ty3 | exact ty4 | exact ty5 | exact ty9 | exact ty17 | exact ty19 | exact ty22 | exact ty24 | exact ty25 | exact ty26 | exact ty28 | exact ty36 | exact ty38 | exact ty40 | exact ty44 | exact ty46 | exact ty48 | exact ty55 | exact ty81 | exact ty84 | exact ty89 | exact ty95 | exact ty98 | exact ty105 | exact ty118 | exact ty122 | exact ty132 | exact ty134 | exact ty137 | exact ty143 | exact ty153 | exact ty155 | exact ty156 | exact ty161)) rfl rfl rfl (dres_agg (by exact ⟨cres_val, cres_nil, cres_nil, cres_nil, trivial⟩))) (rv_tmp rfl (dres_bool rfl))
      | (exfalso; omega)
      | trace_state
end Go.Proofs.Ytmkecjamfippfaa.Abs
set_option linter.unusedSimpArgs false
set_option linter.unusedVariables false
namespace Go.Proofs.Ytmkecjamfippfaa.Abs
open Go.RowKit
open R (val row ref)

def rdV1 (b : List Int) : Option (Int × Bool) :=
  match nbF 2 2 b with
  | (some [a, g], true) => if g ≤ 1 then some (a - 1, g == 1) else none
  | _ => none
def rdM1 (b : List Int) : Option E3 :=
  match nbF 3 3 b with
  | (some [a, c, d], true) => some (a, c, d)
  | _ => none
def rdAll {α : Type} (f : List Int → Option α) : List (List Int) → Option (List α)
  | [] => some []
  | b :: bs => match f b with
    | some x => match rdAll f bs with
      | some xs => some (x :: xs)
      | none => none
    | none => none
theorem rdV1_form (b : List Int) : (∃ nn ns, nbRes (nbF 2 2 b) = .tup [.one (row nn 1 (ints ns)), .one (bool false)] ∧ rdV1 b = none) ∨ (∃ a g, nbRes (nbF 2 2 b) = .tup [.one (row false 1 (ints [a, g])), .one (bool true)] ∧ 0 ≤ a ∧ a ≤ 1000000 ∧ rdV1 b = if g ≤ 1 then some (a - 1, g == 1) else none) := by
  unfold rdV1
  rcases h : nbF 2 2 b with ⟨o, q⟩
  cases o with
  | none => exact .inl ⟨true, [], rfl, rfl⟩
  | some ns =>
    have hl := nbF_len h
    match ns, hl with
    | [a, g], _ =>
      cases q
      · exact .inl ⟨false, [a, g], rfl, rfl⟩
      · have := (nbF_yes h).2.2 a (by simp)
        exact .inr ⟨a, g, rfl, this.1, this.2, rfl⟩
theorem rdM1_form (b : List Int) : (∃ nn ns, nbRes (nbF 3 3 b) = .tup [.one (row nn 1 (ints ns)), .one (bool false)] ∧ rdM1 b = none) ∨ (∃ a c d, nbRes (nbF 3 3 b) = .tup [.one (row false 1 (ints [a, c, d])), .one (bool true)] ∧ rdM1 b = some (a, c, d)) := by
  unfold rdM1
  rcases h : nbF 3 3 b with ⟨o, q⟩
  cases o with
  | none => exact .inl ⟨true, [], rfl, rfl⟩
  | some ns =>
    have hl := nbF_len h
    match ns, hl with
    | [a, c, d], _ =>
      cases q
      · exact .inl ⟨false, [a, c, d], rfl, rfl⟩
      · exact .inr ⟨a, c, d, rfl, rfl⟩
theorem rdAll_drop {α : Type} {f : List Int → Option α} {bs : List (List Int)} {k : Nat} (h : k < bs.length) : rdAll f (bs.drop k) = match f bs[k] with
    | some x => match rdAll f (bs.drop (k + 1)) with
      | some xs => some (x :: xs)
      | none => none
    | none => none := by
  rw [List.drop_eq_getElem_cons h, rdAll]
def vsOf (l : List (Int × Bool)) : List Int := l.map Prod.fst
def gsOf (l : List (Int × Bool)) : List Bool := l.map Prod.snd
theorem vsOf_len (l : List (Int × Bool)) : (vsOf l).length = l.length := List.length_map ..
theorem gsOf_len (l : List (Int × Bool)) : (gsOf l).length = l.length := List.length_map ..
theorem vsOf_app (l : List (Int × Bool)) (v : Int) (g : Bool) : ints (vsOf (l ++ [(v, g)])) = ints (vsOf l) ++ [.one (int v)] := by unfold vsOf ints; simp
theorem gsOf_app (l : List (Int × Bool)) (v : Int) (g : Bool) : bools (gsOf (l ++ [(v, g)])) = bools (gsOf l) ++ [.one (bool g)] := by unfold gsOf bools; simp
abbrev Zc : Cell := .r true (row true 0 [])
set_option maxRecDepth 100000 in
set_option maxHeartbeats 8000000 in
theorem f_readValuesNo (nil : Bool) (bs : List (List Int)) (r : Int) (hl : bs.length ≤ 2000) (hn : rdAll rdV1 bs = none) :
    FnS Try.prog 89 [.one (.ptr 1000000000 0 0 0), .one (.r false (row nil 1 (rowsI bs)))] [(1000000000, .var 28 [.r true (int r), Zc, Zc, Zc])] (.one (.r true (bool false))) [] := by
  have hlen := rowsI_len bs
  refine fnS_of (l := [.tmp 4]) Try.func89 (by kernel_rfl) rfl Try.ntmps89 rfl rfl ?_; simp only [dEnv, Nat.reduceAdd]
  repeat' (first|(with_reducible first|refine aw_seq ?_|refine thn_normal ?_|refine thn_ret ?_|refine thn_exit ?_|refine blk_normal ?_|refine blk_ret ?_|refine blk_hit ?_|refine blk_miss rfl ?_|refine aw_block ?_|refine aw_ret ?_|refine aw_skip ?_|refine aw_exit ?_|refine w_nil ?_|refine x_nil (by kernel_rfl) ?_)|refine aw_region ?_|refine aw_region_draw (by kernel_rfl) ?_|refine aw_yes rfl ?_|refine aw_no rfl ?_|((with_reducible refine w_seq ?_); first|refine r_q tbOk rfl rfl rfl rfl ?_|refine r_e tbOk rfl rfl rfl rfl rfl ?_|refine r_yes tbOk rfl rfl rfl rfl rfl rfl ?_|refine w_no rfl rfl (lookO_spec rfl) rfl rfl rfl ?_|refine w_un rfl rfl (lookO_spec rfl) rfl rfl ?_)|((with_reducible refine w_drw ?_); first|refine rx_q tbOk rfl rfl rfl rfl ?_|refine rx_e tbOk rfl rfl rfl rfl rfl ?_|refine rx_yes tbOk rfl rfl rfl rfl rfl rfl ?_|refine x_no rfl rfl (lookO_spec rfl) rfl rfl rfl ?_|refine x_un rfl rfl (lookO_spec rfl) rfl rfl ?_)|((first|refine aw_ways rfl ?_ ?_|refine r_split rfl rfl rfl ?_ ?_) <;> intro hg_ <;> fail_if_success (exact Bool.noConfusion hg_)) <;> (try simp only [prn] at hg_) <;> (try first|contradiction|(exfalso; omega)))
  obtain ⟨F, hF0, hF1⟩ : ∃ F : Nat × List (Int × Bool) → St, (∀ k, F (k, []) = mkS 55 [(11, .one (.r true (int (k : Int)))), (10, .one (.r true (int (bs.length : Int)))), (9, .one (.r false (row nil 1 (rowsI bs)))), (0, .one (.ptr 1000000000 0 0 0))] [(1000000000, .var 28 [.r true (int r), Zc, Zc, Zc])]) ∧
      (∀ k l, l ≠ [] → F (k, l) = mkS 55 [(11, .one (.r true (int (k : Int)))), (10, .one (.r true (int (bs.length : Int)))), (9, .one (.r false (row nil 1 (rowsI bs)))), (0, .one (.ptr 1000000000 0 0 0))] [(1000000000, .var 28 [.r true (int r), .own 101 0 (vsOf l).length 1, .own 102 0 (gsOf l).length 1, Zc]), (101, .sl 3 1 true (ints (vsOf l))), (102, .sl 4 1 true (bools (gsOf l)))]) := by
    refine ⟨fun y => if y.2.isEmpty then mkS 55 [(11, .one (.r true (int (y.1 : Int)))), (10, .one (.r true (int (bs.length : Int)))), (9, .one (.r false (row nil 1 (rowsI bs)))), (0, .one (.ptr 1000000000 0 0 0))] [(1000000000, .var 28 [.r true (int r), Zc, Zc, Zc])] else mkS 55 [(11, .one (.r true (int (y.1 : Int)))), (10, .one (.r true (int (bs.length : Int)))), (9, .one (.r false (row nil 1 (rowsI bs)))), (0, .one (.ptr 1000000000 0 0 0))] [(1000000000, .var 28 [.r true (int r), .own 101 0 (vsOf y.2).length 1, .own 102 0 (gsOf y.2).length 1, Zc]), (101, .sl 3 1 true (ints (vsOf y.2))), (102, .sl 4 1 true (bools (gsOf y.2)))], fun k => rfl, fun k l h => ?_⟩
    cases l with
    | nil => exact absurd rfl h
    | cons v l => rfl
  refine aw_loopI (fun y : Nat × List (Int × Bool) => y.1 ≤ bs.length ∧ y.2.length = y.1 ∧ rdAll rdV1 (bs.drop y.1) = none) F (fun y => bs.length - y.1) (0, []) ⟨Nat.zero_le _, rfl, hn⟩ (by
    rw [hF0]
    (refine weak_ren [] rfl ?_ ?_ <;> repeat' (first|exact trivial|refine subR_cons rfl ?_ ?_|refine subHR_cons rfl ?_ ?_|rfl|(refine d_int ?_; (first|rfl|omega|(rw [IntWalk.i64_in _ (by omega)] <;> omega)|(simp; done)|(simp; omega)))|(refine d_bool ?_; (first|(simp_all; done)|(rw [Bool.eq_iff_iff]; simp_all; done)|(rw [Bool.eq_iff_iff]; simp_all; omega)|(rw [Bool.eq_iff_iff]; simp; omega)))|exact d_int (by rw [hlen])))) ?_
  rintro ⟨k, l⟩ ⟨hk, hkl, hE⟩
  dsimp only at hk hkl hE
  by_cases hlt : k < bs.length
  · have hx := rowsI_at hlt
    rw [rdAll_drop hlt] at hE
    have KN := f_numbersBehind false bs[k] 2 2 (by omega)
    have hform := rdV1_form bs[k]
    generalize bs[k] = b at *
    have hwk : IntKind.i64.wrap ((k : Int) + 1) = ((k + 1 : Nat) : Int) := by rw [IntWalk.i64_in _ (by omega)]; omega
    have hvi := (ints_len (vsOf l)).symm
    have hgi := (bools_len (gsOf l)).symm
    have hvl := vsOf_len l
    have hgl := gsOf_len l
    rcases hform with ⟨nn, ns, e1, e2⟩ | ⟨a, g, e1, ha0, ha1, e2⟩
    · rw [e1] at KN
      clear hE e2 e1
      by_cases hll : l = []
      · subst hll
        rw [hF0]
        clear hF0 hF1
        repeat' (first|(with_reducible first|refine aw_seq ?_|refine thn_normal ?_|refine thn_ret ?_|refine thn_exit ?_|refine blk_normal ?_|refine blk_ret ?_|refine blk_hit ?_|refine blk_miss rfl ?_|refine aw_block ?_|refine aw_ret ?_|refine aw_skip ?_|refine aw_exit ?_|refine w_nil ?_|refine x_nil (by kernel_rfl) ?_)|refine aw_region ?_|refine aw_region_draw (by kernel_rfl) ?_|refine aw_yes rfl ?_|refine aw_no rfl ?_|((with_reducible refine w_seq ?_); first|refine r_q tbOk rfl rfl rfl rfl ?_|refine r_e tbOk rfl rfl rfl rfl rfl ?_|refine r_yes tbOk rfl rfl rfl rfl rfl rfl ?_|refine w_no rfl rfl (lookO_spec rfl) rfl rfl rfl ?_|refine w_un rfl rfl (lookO_spec rfl) rfl rfl ?_)|((with_reducible refine w_drw ?_); first|refine rx_q tbOk rfl rfl rfl rfl ?_|refine rx_e tbOk rfl rfl rfl rfl rfl ?_|refine rx_yes tbOk rfl rfl rfl rfl rfl rfl ?_|refine x_no rfl rfl (lookO_spec rfl) rfl rfl rfl ?_|refine x_un rfl rfl (lookO_spec rfl) rfl rfl ?_)|((first|refine' w_q rfl rfl ?xa rfl ?_|refine' v_q rfl rfl ?xa rfl ?_|refine' w_yes rfl rfl (lookO_spec rfl) rfl ?xa rfl ?_|refine' v_yes rfl rfl (lookO_spec rfl) rfl ?xa rfl ?_); case xa => first|exact k_index tbOk rfl rfl rfl rfl (by omega) hx|exact k_call KN rfl ⟨asA_r (evO_spec rfl), asA_r (evO_spec rfl), asA_r (evO_spec rfl), trivial⟩)|((first|refine aw_ways rfl ?_ ?_|refine r_split rfl rfl rfl ?_ ?_) <;> intro hg_ <;> fail_if_success (exact Bool.noConfusion hg_)) <;> (try simp only [prn] at hg_) <;> (try first|contradiction|(exfalso; omega)))
        all_goals first
         |exact ret_D [] rfl (by (repeat' (first|exact trivial|refine subHR_cons rfl ?_ ?_|rfl))) (retD_bool rfl rfl rfl)
          | (exfalso; omega)
          | trace_state
      · rw [hF1 _ _ hll]
        clear hF0 hF1
        repeat' (first|(with_reducible first|refine aw_seq ?_|refine thn_normal ?_|refine thn_ret ?_|refine thn_exit ?_|refine blk_normal ?_|refine blk_ret ?_|refine blk_hit ?_|refine blk_miss rfl ?_|refine aw_block ?_|refine aw_ret ?_|refine aw_skip ?_|refine aw_exit ?_|refine w_nil ?_|refine x_nil (by kernel_rfl) ?_)|refine aw_region ?_|refine aw_region_draw (by kernel_rfl) ?_|refine aw_yes rfl ?_|refine aw_no rfl ?_|((with_reducible refine w_seq ?_); first|refine r_q tbOk rfl rfl rfl rfl ?_|refine r_e tbOk rfl rfl rfl rfl rfl ?_|refine r_yes tbOk rfl rfl rfl rfl rfl rfl ?_|refine w_no rfl rfl (lookO_spec rfl) rfl rfl rfl ?_|refine w_un rfl rfl (lookO_spec rfl) rfl rfl ?_)|((with_reducible refine w_drw ?_); first|refine rx_q tbOk rfl rfl rfl rfl ?_|refine rx_e tbOk rfl rfl rfl rfl rfl ?_|refine rx_yes tbOk rfl rfl rfl rfl rfl rfl ?_|refine x_no rfl rfl (lookO_spec rfl) rfl rfl rfl ?_|refine x_un rfl rfl (lookO_spec rfl) rfl rfl ?_)|((first|refine' w_q rfl rfl ?xa rfl ?_|refine' v_q rfl rfl ?xa rfl ?_|refine' w_yes rfl rfl (lookO_spec rfl) rfl ?xa rfl ?_|refine' v_yes rfl rfl (lookO_spec rfl) rfl ?xa rfl ?_); case xa => first|exact k_index tbOk rfl rfl rfl rfl (by omega) hx|exact k_call KN rfl ⟨asA_r (evO_spec rfl), asA_r (evO_spec rfl), asA_r (evO_spec rfl), trivial⟩)|((first|refine aw_ways rfl ?_ ?_|refine r_split rfl rfl rfl ?_ ?_) <;> intro hg_ <;> fail_if_success (exact Bool.noConfusion hg_)) <;> (try simp only [prn] at hg_) <;> (try first|contradiction|(exfalso; omega)))
        all_goals first
         |exact ret_D [] rfl (by (repeat' (first|exact trivial|refine subHR_cons rfl ?_ ?_|rfl))) (retD_bool rfl rfl rfl)
          | (exfalso; omega)
          | trace_state
    · rw [e1] at KN
      rw [e2] at hE
      have hx0 : (ints [a, g])[(0 : Int).toNat]? = some (iP a) := rfl
      have hx1 : (ints [a, g])[(1 : Int).toNat]? = some (iP g) := rfl
      by_cases hg : g ≤ 1
      · rw [if_pos hg] at hE
        have hE2 : rdAll rdV1 (bs.drop (k + 1)) = none := by
          cases h : rdAll rdV1 (bs.drop (k + 1)) with
          | none => rfl
          | some xs => rw [h] at hE; cases hE
        have hwa : IntKind.i64.wrap (a - 1) = a - 1 := IntWalk.i64_in _ (by omega)
        have hfin : ∀ s' : St, Weak s' (F (k + 1, l ++ [(a - 1, g == 1)])) → ∃ y' : Nat × List (Int × Bool), (y'.1 ≤ bs.length ∧ y'.2.length = y'.1 ∧ rdAll rdV1 (bs.drop y'.1) = none) ∧ Weak s' (F y') ∧ bs.length - y'.1 < bs.length - k := fun s' h => ⟨(k + 1, l ++ [(a - 1, g == 1)]), ⟨by dsimp only; omega, by simp; omega, hE2⟩, h, by dsimp only; omega⟩
        rw [hF1 _ _ (by simp), vsOf_app, gsOf_app, ← hwa] at hfin
        clear hE hE2 e1 e2 hwa
        by_cases hll : l = []
        · subst hll
          rw [hF0]
          clear hF0 hF1
          repeat' (first|(with_reducible first|refine aw_seq ?_|refine thn_normal ?_|refine thn_ret ?_|refine thn_exit ?_|refine blk_normal ?_|refine blk_ret ?_|refine blk_hit ?_|refine blk_miss rfl ?_|refine aw_block ?_|refine aw_ret ?_|refine aw_skip ?_|refine aw_exit ?_|refine w_nil ?_|refine x_nil (by kernel_rfl) ?_)|refine aw_region ?_|refine aw_region_draw (by kernel_rfl) ?_|refine aw_yes rfl ?_|refine aw_no rfl ?_|((with_reducible refine w_seq ?_); first|refine r_q tbOk rfl rfl rfl rfl ?_|refine r_e tbOk rfl rfl rfl rfl rfl ?_|refine r_yes tbOk rfl rfl rfl rfl rfl rfl ?_|refine w_no rfl rfl (lookO_spec rfl) rfl rfl rfl ?_|refine w_un rfl rfl (lookO_spec rfl) rfl rfl ?_)|((with_reducible refine w_drw ?_); first|refine rx_q tbOk rfl rfl rfl rfl ?_|refine rx_e tbOk rfl rfl rfl rfl rfl ?_|refine rx_yes tbOk rfl rfl rfl rfl rfl rfl ?_|refine x_no rfl rfl (lookO_spec rfl) rfl rfl rfl ?_|refine x_un rfl rfl (lookO_spec rfl) rfl rfl ?_)|((first|refine' w_q rfl rfl ?xa rfl ?_|refine' v_q rfl rfl ?xa rfl ?_|refine' w_yes rfl rfl (lookO_spec rfl) rfl ?xa rfl ?_|refine' v_yes rfl rfl (lookO_spec rfl) rfl ?xa rfl ?_); case xa => first|exact k_index tbOk rfl rfl rfl rfl (by omega) (by first|exact hx|exact hx0|exact hx1)|exact k_call KN rfl ⟨asA_r (evO_spec rfl), asA_r (evO_spec rfl), asA_r (evO_spec rfl), trivial⟩)|((first|refine' w_e rfl ?xa ?xb ?xc ?xe ?_|refine' v_e rfl ?xa ?xb ?xc ?xe ?_); (case xa => first|exact e_build [.tmp 36] tlOk rfl rfl rfl rfl rfl rfl (allN_one rfl) (by simp)|exact e_build [.tmp 49] tlOk rfl rfl rfl rfl rfl rfl (allN_one rfl) (by simp)|exact at_dst 38 rfl (e_append_nil tlOk rfl rfl rfl rfl rfl (slD_plain (slD_own (lookHO_spec rfl) rfl) (by simp [plain1])) (by simp) (by simp [maxLen]) (by simp))|exact at_dst 51 rfl (e_append_nil tlOk rfl rfl rfl rfl rfl (slD_plain (slD_own (lookHO_spec rfl) rfl) (by simp [plain1])) (by simp) (by simp [maxLen]) (by simp))); (case xb => rfl); (case xc => rfl); (case xe => rfl); try dsimp only [P0.d, Res.d, List.map_cons, List.map_nil, List.set_cons_zero, List.set_cons_succ, Nat.reduceAdd])|((first|refine aw_ways rfl ?_ ?_|refine r_split rfl rfl rfl ?_ ?_) <;> intro hg_ <;> fail_if_success (exact Bool.noConfusion hg_)) <;> (try simp only [prn] at hg_) <;> (try first|contradiction|(exfalso; omega)))
          all_goals first
            | (refine hfin _ ?_
               (refine weak_ren [(101, 38), (102, 51)] rfl ?_ ?_ <;> repeat' (first|exact trivial|refine subR_cons rfl ?_ ?_|refine subHR_cons rfl ?_ ?_|rfl|(refine d_int ?_; (first|rfl|omega|(rw [IntWalk.i64_in _ (by omega)] <;> omega)|(simp; done)|(simp; omega)))|(refine d_bool ?_; (first|(simp_all; done)|(rw [Bool.eq_iff_iff]; simp_all; done)|(rw [Bool.eq_iff_iff]; simp_all; omega)|(rw [Bool.eq_iff_iff]; simp; omega)))|exact d_int hwk|exact ob_sl rfl rfl|exact var4 rfl (cown (by simp [vsOf])) (cown (by simp [gsOf])) rfl)))
            | (exfalso; omega)
            | trace_state
        · rw [hF1 _ _ hll]
          clear hF0 hF1
          repeat' (first|(with_reducible first|refine aw_seq ?_|refine thn_normal ?_|refine thn_ret ?_|refine thn_exit ?_|refine blk_normal ?_|refine blk_ret ?_|refine blk_hit ?_|refine blk_miss rfl ?_|refine aw_block ?_|refine aw_ret ?_|refine aw_skip ?_|refine aw_exit ?_|refine w_nil ?_|refine x_nil (by kernel_rfl) ?_)|refine aw_region ?_|refine aw_region_draw (by kernel_rfl) ?_|refine aw_yes rfl ?_|refine aw_no rfl ?_|((with_reducible refine w_seq ?_); first|refine r_q tbOk rfl rfl rfl rfl ?_|refine r_e tbOk rfl rfl rfl rfl rfl ?_|refine r_yes tbOk rfl rfl rfl rfl rfl rfl ?_|refine w_no rfl rfl (lookO_spec rfl) rfl rfl rfl ?_|refine w_un rfl rfl (lookO_spec rfl) rfl rfl ?_)|((with_reducible refine w_drw ?_); first|refine rx_q tbOk rfl rfl rfl rfl ?_|refine rx_e tbOk rfl rfl rfl rfl rfl ?_|refine rx_yes tbOk rfl rfl rfl rfl rfl rfl ?_|refine x_no rfl rfl (lookO_spec rfl) rfl rfl rfl ?_|refine x_un rfl rfl (lookO_spec rfl) rfl rfl ?_)|((first|refine' w_q rfl rfl ?xa rfl ?_|refine' v_q rfl rfl ?xa rfl ?_|refine' w_yes rfl rfl (lookO_spec rfl) rfl ?xa rfl ?_|refine' v_yes rfl rfl (lookO_spec rfl) rfl ?xa rfl ?_); case xa => first|exact k_index tbOk rfl rfl rfl rfl (by omega) (by first|exact hx|exact hx0|exact hx1)|exact k_call KN rfl ⟨asA_r (evO_spec rfl), asA_r (evO_spec rfl), asA_r (evO_spec rfl), trivial⟩)|((first|refine' w_e rfl ?xa ?xb ?xc ?xe ?_|refine' v_e rfl ?xa ?xb ?xc ?xe ?_); (case xa => first|exact e_build [.tmp 36] tlOk rfl rfl rfl rfl rfl rfl (allN_one rfl) (by simp)|exact e_build [.tmp 49] tlOk rfl rfl rfl rfl rfl rfl (allN_one rfl) (by simp)|exact at_dst 38 rfl (e_append tlOk rfl rfl rfl rfl rfl rfl (slD_plain (slD_own (lookHO_spec rfl) rfl) (by simp [plain1])) hvi (by simp only [maxLen, List.length_cons, List.length_nil]; omega) (by simp only [List.length_cons, List.length_nil]; omega))|exact at_dst 51 rfl (e_append tlOk rfl rfl rfl rfl rfl rfl (slD_plain (slD_own (lookHO_spec rfl) rfl) (by simp [plain1])) hgi (by simp only [maxLen, List.length_cons, List.length_nil]; omega) (by simp only [List.length_cons, List.length_nil]; omega))); (case xb => rfl); (case xc => rfl); (case xe => rfl); try dsimp only [P0.d, Res.d, List.map_cons, List.map_nil, List.set_cons_zero, List.set_cons_succ, Nat.reduceAdd])|((first|refine aw_ways rfl ?_ ?_|refine r_split rfl rfl rfl ?_ ?_) <;> intro hg_ <;> fail_if_success (exact Bool.noConfusion hg_)) <;> (try simp only [prn] at hg_) <;> (try first|contradiction|(exfalso; omega)))
          all_goals first
            | (refine hfin _ ?_
               (refine weak_ren [(101, 38), (102, 51)] rfl ?_ ?_ <;> repeat' (first|exact trivial|refine subR_cons rfl ?_ ?_|refine subHR_cons rfl ?_ ?_|rfl|(refine d_int ?_; (first|rfl|omega|(rw [IntWalk.i64_in _ (by omega)] <;> omega)|(simp; done)|(simp; omega)))|(refine d_bool ?_; (first|(simp_all; done)|(rw [Bool.eq_iff_iff]; simp_all; done)|(rw [Bool.eq_iff_iff]; simp_all; omega)|(rw [Bool.eq_iff_iff]; simp; omega)))|exact d_int hwk|exact ob_sl rfl rfl|exact var4 rfl (cown (by simp only [vsOf, List.map_append, List.length_append, List.length_map, List.map_cons, List.map_nil, List.length_cons, List.length_nil, ints_len])) (cown (by simp only [gsOf, List.map_append, List.length_append, List.length_map, List.map_cons, List.map_nil, List.length_cons, List.length_nil, bools_len])) rfl)))
            | (exfalso; omega)
            | trace_state
      · clear hE e1 e2
        by_cases hll : l = []
        · subst hll
          rw [hF0]
          clear hF0 hF1
          repeat' (first|(with_reducible first|refine aw_seq ?_|refine thn_normal ?_|refine thn_ret ?_|refine thn_exit ?_|refine blk_normal ?_|refine blk_ret ?_|refine blk_hit ?_|refine blk_miss rfl ?_|refine aw_block ?_|refine aw_ret ?_|refine aw_skip ?_|refine aw_exit ?_|refine w_nil ?_|refine x_nil (by kernel_rfl) ?_)|refine aw_region ?_|refine aw_region_draw (by kernel_rfl) ?_|refine aw_yes rfl ?_|refine aw_no rfl ?_|((with_reducible refine w_seq ?_); first|refine r_q tbOk rfl rfl rfl rfl ?_|refine r_e tbOk rfl rfl rfl rfl rfl ?_|refine r_yes tbOk rfl rfl rfl rfl rfl rfl ?_|refine w_no rfl rfl (lookO_spec rfl) rfl rfl rfl ?_|refine w_un rfl rfl (lookO_spec rfl) rfl rfl ?_)|((with_reducible refine w_drw ?_); first|refine rx_q tbOk rfl rfl rfl rfl ?_|refine rx_e tbOk rfl rfl rfl rfl rfl ?_|refine rx_yes tbOk rfl rfl rfl rfl rfl rfl ?_|refine x_no rfl rfl (lookO_spec rfl) rfl rfl rfl ?_|refine x_un rfl rfl (lookO_spec rfl) rfl rfl ?_)|((first|refine' w_q rfl rfl ?xa rfl ?_|refine' v_q rfl rfl ?xa rfl ?_|refine' w_yes rfl rfl (lookO_spec rfl) rfl ?xa rfl ?_|refine' v_yes rfl rfl (lookO_spec rfl) rfl ?xa rfl ?_); case xa => first|exact k_index tbOk rfl rfl rfl rfl (by omega) (by first|exact hx|exact hx0|exact hx1)|exact k_call KN rfl ⟨asA_r (evO_spec rfl), asA_r (evO_spec rfl), asA_r (evO_spec rfl), trivial⟩)|((first|refine aw_ways rfl ?_ ?_|refine r_split rfl rfl rfl ?_ ?_) <;> intro hg_ <;> fail_if_success (exact Bool.noConfusion hg_)) <;> (try simp only [prn] at hg_) <;> (try first|contradiction|(exfalso; omega)))
          all_goals first
           |exact ret_D [] rfl (by (repeat' (first|exact trivial|refine subHR_cons rfl ?_ ?_|rfl))) (retD_bool rfl rfl rfl)
            | (exfalso; omega)
            | trace_state
        · rw [hF1 _ _ hll]
          clear hF0 hF1
          repeat' (first|(with_reducible first|refine aw_seq ?_|refine thn_normal ?_|refine thn_ret ?_|refine thn_exit ?_|refine blk_normal ?_|refine blk_ret ?_|refine blk_hit ?_|refine blk_miss rfl ?_|refine aw_block ?_|refine aw_ret ?_|refine aw_skip ?_|refine aw_exit ?_|refine w_nil ?_|refine x_nil (by kernel_rfl) ?_)|refine aw_region ?_|refine aw_region_draw (by kernel_rfl) ?_|refine aw_yes rfl ?_|refine aw_no rfl ?_|((with_reducible refine w_seq ?_); first|refine r_q tbOk rfl rfl rfl rfl ?_|refine r_e tbOk rfl rfl rfl rfl rfl ?_|refine r_yes tbOk rfl rfl rfl rfl rfl rfl ?_|refine w_no rfl rfl (lookO_spec rfl) rfl rfl rfl ?_|refine w_un rfl rfl (lookO_spec rfl) rfl rfl ?_)|((with_reducible refine w_drw ?_); first|refine rx_q tbOk rfl rfl rfl rfl ?_|refine rx_e tbOk rfl rfl rfl rfl rfl ?_|refine rx_yes tbOk rfl rfl rfl rfl rfl rfl ?_|refine x_no rfl rfl (lookO_spec rfl) rfl rfl rfl ?_|refine x_un rfl rfl (lookO_spec rfl) rfl rfl ?_)|((first|refine' w_q rfl rfl ?xa rfl ?_|refine' v_q rfl rfl ?xa rfl ?_|refine' w_yes rfl rfl (lookO_spec rfl) rfl ?xa rfl ?_|refine' v_yes rfl rfl (lookO_spec rfl) rfl ?xa rfl ?_); case xa => first|exact k_index tbOk rfl rfl rfl rfl (by omega) (by first|exact hx|exact hx0|exact hx1)|exact k_call KN rfl ⟨asA_r (evO_spec rfl), asA_r (evO_spec rfl), asA_r (evO_spec rfl), trivial⟩)|((first|refine aw_ways rfl ?_ ?_|refine r_split rfl rfl rfl ?_ ?_) <;> intro hg_ <;> fail_if_success (exact Bool.noConfusion hg_)) <;> (try simp only [prn] at hg_) <;> (try first|contradiction|(exfalso; omega)))
          all_goals first
           |exact ret_D [] rfl (by (repeat' (first|exact trivial|refine subHR_cons rfl ?_ ?_|rfl))) (retD_bool rfl rfl rfl)
            | (exfalso; omega)
            | trace_state
  · exfalso
    rw [List.drop_of_length_le (by omega)] at hE
    cases hE
set_option maxRecDepth 100000 in
set_option maxHeartbeats 8000000 in
theorem f_readValuesYes (nil : Bool) (bs : List (List Int)) (r : Int) (hl : bs.length ≤ 2000) (L : List (Int × Bool)) (hn : rdAll rdV1 bs = some L) (hLn : L ≠ []) :
    FnS Try.prog 89 [.one (.ptr 1000000000 0 0 0), .one (.r false (row nil 1 (rowsI bs)))] [(1000000000, .var 28 [.r true (int r), Zc, Zc, Zc])] (.one (.r true (bool true))) [(1000000000, .var 28 [.r true (int r), .own 2000001 0 L.length 1, .own 2000002 0 L.length 1, Zc]), (2000001, .sl 3 1 true (ints (vsOf L))), (2000002, .sl 4 1 true (bools (gsOf L)))] := by
  have hlen := rowsI_len bs
  refine fnS_of (l := [.tmp 4]) Try.func89 (by kernel_rfl) rfl Try.ntmps89 rfl rfl ?_; simp only [dEnv, Nat.reduceAdd]
  repeat' (first|(with_reducible first|refine aw_seq ?_|refine thn_normal ?_|refine thn_ret ?_|refine thn_exit ?_|refine blk_normal ?_|refine blk_ret ?_|refine blk_hit ?_|refine blk_miss rfl ?_|refine aw_block ?_|refine aw_ret ?_|refine aw_skip ?_|refine aw_exit ?_|refine w_nil ?_|refine x_nil (by kernel_rfl) ?_)|refine aw_region ?_|refine aw_region_draw (by kernel_rfl) ?_|refine aw_yes rfl ?_|refine aw_no rfl ?_|((with_reducible refine w_seq ?_); first|refine r_q tbOk rfl rfl rfl rfl ?_|refine r_e tbOk rfl rfl rfl rfl rfl ?_|refine r_yes tbOk rfl rfl rfl rfl rfl rfl ?_|refine w_no rfl rfl (lookO_spec rfl) rfl rfl rfl ?_|refine w_un rfl rfl (lookO_spec rfl) rfl rfl ?_)|((with_reducible refine w_drw ?_); first|refine rx_q tbOk rfl rfl rfl rfl ?_|refine rx_e tbOk rfl rfl rfl rfl rfl ?_|refine rx_yes tbOk rfl rfl rfl rfl rfl rfl ?_|refine x_no rfl rfl (lookO_spec rfl) rfl rfl rfl ?_|refine x_un rfl rfl (lookO_spec rfl) rfl rfl ?_)|((first|refine aw_ways rfl ?_ ?_|refine r_split rfl rfl rfl ?_ ?_) <;> intro hg_ <;> fail_if_success (exact Bool.noConfusion hg_)) <;> (try simp only [prn] at hg_) <;> (try first|contradiction|(exfalso; omega)))
  obtain ⟨F, hF0, hF1⟩ : ∃ F : Nat × List (Int × Bool) → St, (∀ k, F (k, []) = mkS 55 [(11, .one (.r true (int (k : Int)))), (10, .one (.r true (int (bs.length : Int)))), (9, .one (.r false (row nil 1 (rowsI bs)))), (0, .one (.ptr 1000000000 0 0 0))] [(1000000000, .var 28 [.r true (int r), Zc, Zc, Zc])]) ∧
      (∀ k l, l ≠ [] → F (k, l) = mkS 55 [(11, .one (.r true (int (k : Int)))), (10, .one (.r true (int (bs.length : Int)))), (9, .one (.r false (row nil 1 (rowsI bs)))), (0, .one (.ptr 1000000000 0 0 0))] [(1000000000, .var 28 [.r true (int r), .own 101 0 (vsOf l).length 1, .own 102 0 (gsOf l).length 1, Zc]), (101, .sl 3 1 true (ints (vsOf l))), (102, .sl 4 1 true (bools (gsOf l)))]) := by
    refine ⟨fun y => if y.2.isEmpty then mkS 55 [(11, .one (.r true (int (y.1 : Int)))), (10, .one (.r true (int (bs.length : Int)))), (9, .one (.r false (row nil 1 (rowsI bs)))), (0, .one (.ptr 1000000000 0 0 0))] [(1000000000, .var 28 [.r true (int r), Zc, Zc, Zc])] else mkS 55 [(11, .one (.r true (int (y.1 : Int)))), (10, .one (.r true (int (bs.length : Int)))), (9, .one (.r false (row nil 1 (rowsI bs)))), (0, .one (.ptr 1000000000 0 0 0))] [(1000000000, .var 28 [.r true (int r), .own 101 0 (vsOf y.2).length 1, .own 102 0 (gsOf y.2).length 1, Zc]), (101, .sl 3 1 true (ints (vsOf y.2))), (102, .sl 4 1 true (bools (gsOf y.2)))], fun k => rfl, fun k l h => ?_⟩
    cases l with
    | nil => exact absurd rfl h
    | cons v l => rfl
  refine aw_loopI (fun y : Nat × List (Int × Bool) => y.1 ≤ bs.length ∧ y.2.length = y.1 ∧ ∃ xs, rdAll rdV1 (bs.drop y.1) = some xs ∧ y.2 ++ xs = L) F (fun y => bs.length - y.1) (0, []) ⟨Nat.zero_le _, rfl, L, hn, rfl⟩ (by
    rw [hF0]
    (refine weak_ren [] rfl ?_ ?_ <;> repeat' (first|exact trivial|refine subR_cons rfl ?_ ?_|refine subHR_cons rfl ?_ ?_|rfl|(refine d_int ?_; (first|rfl|omega|(rw [IntWalk.i64_in _ (by omega)] <;> omega)|(simp; done)|(simp; omega)))|(refine d_bool ?_; (first|(simp_all; done)|(rw [Bool.eq_iff_iff]; simp_all; done)|(rw [Bool.eq_iff_iff]; simp_all; omega)|(rw [Bool.eq_iff_iff]; simp; omega)))|exact d_int (by rw [hlen])))) ?_
  rintro ⟨k, l⟩ ⟨hk, hkl, xs, hE, hxs⟩
  dsimp only at hk hkl hE hxs
  by_cases hlt : k < bs.length
  · have hx := rowsI_at hlt
    rw [rdAll_drop hlt] at hE
    have KN := f_numbersBehind false bs[k] 2 2 (by omega)
    have hform := rdV1_form bs[k]
    generalize bs[k] = b at *
    have hwk : IntKind.i64.wrap ((k : Int) + 1) = ((k + 1 : Nat) : Int) := by rw [IntWalk.i64_in _ (by omega)]; omega
    have hvi := (ints_len (vsOf l)).symm
    have hgi := (bools_len (gsOf l)).symm
    have hvl := vsOf_len l
    have hgl := gsOf_len l
    rcases hform with ⟨nn, ns, e1, e2⟩ | ⟨a, g, e1, ha0, ha1, e2⟩
    · rw [e2] at hE
      cases hE
    · rw [e1] at KN
      rw [e2] at hE
      have hx0 : (ints [a, g])[(0 : Int).toNat]? = some (iP a) := rfl
      have hx1 : (ints [a, g])[(1 : Int).toNat]? = some (iP g) := rfl
      by_cases hg : g ≤ 1
      · rw [if_pos hg] at hE
        have hE2 : ∃ ys, rdAll rdV1 (bs.drop (k + 1)) = some ys ∧ (l ++ [(a - 1, g == 1)]) ++ ys = L := by
          cases h : rdAll rdV1 (bs.drop (k + 1)) with
          | none => rw [h] at hE; cases hE
          | some ys =>
            rw [h] at hE
            injection hE with hE
            exact ⟨ys, rfl, by rw [← hxs, ← hE]; simp⟩
        have hwa : IntKind.i64.wrap (a - 1) = a - 1 := IntWalk.i64_in _ (by omega)
        have hfin : ∀ s' : St, Weak s' (F (k + 1, l ++ [(a - 1, g == 1)])) → ∃ y' : Nat × List (Int × Bool), (y'.1 ≤ bs.length ∧ y'.2.length = y'.1 ∧ ∃ xs, rdAll rdV1 (bs.drop y'.1) = some xs ∧ y'.2 ++ xs = L) ∧ Weak s' (F y') ∧ bs.length - y'.1 < bs.length - k := fun s' h => ⟨(k + 1, l ++ [(a - 1, g == 1)]), ⟨by dsimp only; omega, by simp; omega, hE2⟩, h, by dsimp only; omega⟩
        rw [hF1 _ _ (by simp), vsOf_app, gsOf_app, ← hwa] at hfin
        clear hE hE2 e1 e2 hwa
        by_cases hll : l = []
        · subst hll
          rw [hF0]
          clear hF0 hF1
          repeat' (first|(with_reducible first|refine aw_seq ?_|refine thn_normal ?_|refine thn_ret ?_|refine thn_exit ?_|refine blk_normal ?_|refine blk_ret ?_|refine blk_hit ?_|refine blk_miss rfl ?_|refine aw_block ?_|refine aw_ret ?_|refine aw_skip ?_|refine aw_exit ?_|refine w_nil ?_|refine x_nil (by kernel_rfl) ?_)|refine aw_region ?_|refine aw_region_draw (by kernel_rfl) ?_|refine aw_yes rfl ?_|refine aw_no rfl ?_|((with_reducible refine w_seq ?_); first|refine r_q tbOk rfl rfl rfl rfl ?_|refine r_e tbOk rfl rfl rfl rfl rfl ?_|refine r_yes tbOk rfl rfl rfl rfl rfl rfl ?_|refine w_no rfl rfl (lookO_spec rfl) rfl rfl rfl ?_|refine w_un rfl rfl (lookO_spec rfl) rfl rfl ?_)|((with_reducible refine w_drw ?_); first|refine rx_q tbOk rfl rfl rfl rfl ?_|refine rx_e tbOk rfl rfl rfl rfl rfl ?_|refine rx_yes tbOk rfl rfl rfl rfl rfl rfl ?_|refine x_no rfl rfl (lookO_spec rfl) rfl rfl rfl ?_|refine x_un rfl rfl (lookO_spec rfl) rfl rfl ?_)|((first|refine' w_q rfl rfl ?xa rfl ?_|refine' v_q rfl rfl ?xa rfl ?_|refine' w_yes rfl rfl (lookO_spec rfl) rfl ?xa rfl ?_|refine' v_yes rfl rfl (lookO_spec rfl) rfl ?xa rfl ?_); case xa => first|exact k_index tbOk rfl rfl rfl rfl (by omega) (by first|exact hx|exact hx0|exact hx1)|exact k_call KN rfl ⟨asA_r (evO_spec rfl), asA_r (evO_spec rfl), asA_r (evO_spec rfl), trivial⟩)|((first|refine' w_e rfl ?xa ?xb ?xc ?xe ?_|refine' v_e rfl ?xa ?xb ?xc ?xe ?_); (case xa => first|exact e_build [.tmp 36] tlOk rfl rfl rfl rfl rfl rfl (allN_one rfl) (by simp)|exact e_build [.tmp 49] tlOk rfl rfl rfl rfl rfl rfl (allN_one rfl) (by simp)|exact at_dst 38 rfl (e_append_nil tlOk rfl rfl rfl rfl rfl (slD_plain (slD_own (lookHO_spec rfl) rfl) (by simp [plain1])) (by simp) (by simp [maxLen]) (by simp))|exact at_dst 51 rfl (e_append_nil tlOk rfl rfl rfl rfl rfl (slD_plain (slD_own (lookHO_spec rfl) rfl) (by simp [plain1])) (by simp) (by simp [maxLen]) (by simp))); (case xb => rfl); (case xc => rfl); (case xe => rfl); try dsimp only [P0.d, Res.d, List.map_cons, List.map_nil, List.set_cons_zero, List.set_cons_succ, Nat.reduceAdd])|((first|refine aw_ways rfl ?_ ?_|refine r_split rfl rfl rfl ?_ ?_) <;> intro hg_ <;> fail_if_success (exact Bool.noConfusion hg_)) <;> (try simp only [prn] at hg_) <;> (try first|contradiction|(exfalso; omega)))
          all_goals first
            | (refine hfin _ ?_
               (refine weak_ren [(101, 38), (102, 51)] rfl ?_ ?_ <;> repeat' (first|exact trivial|refine subR_cons rfl ?_ ?_|refine subHR_cons rfl ?_ ?_|rfl|(refine d_int ?_; (first|rfl|omega|(rw [IntWalk.i64_in _ (by omega)] <;> omega)|(simp; done)|(simp; omega)))|(refine d_bool ?_; (first|(simp_all; done)|(rw [Bool.eq_iff_iff]; simp_all; done)|(rw [Bool.eq_iff_iff]; simp_all; omega)|(rw [Bool.eq_iff_iff]; simp; omega)))|exact d_int hwk|exact ob_sl rfl rfl|exact var4 rfl (cown (by simp [vsOf])) (cown (by simp [gsOf])) rfl)))
            | (exfalso; omega)
            | trace_state
        · rw [hF1 _ _ hll]
          clear hF0 hF1
          repeat' (first|(with_reducible first|refine aw_seq ?_|refine thn_normal ?_|refine thn_ret ?_|refine thn_exit ?_|refine blk_normal ?_|refine blk_ret ?_|refine blk_hit ?_|refine blk_miss rfl ?_|refine aw_block ?_|refine aw_ret ?_|refine aw_skip ?_|refine aw_exit ?_|refine w_nil ?_|refine x_nil (by kernel_rfl) ?_)|refine aw_region ?_|refine aw_region_draw (by kernel_rfl) ?_|refine aw_yes rfl ?_|refine aw_no rfl ?_|((with_reducible refine w_seq ?_); first|refine r_q tbOk rfl rfl rfl rfl ?_|refine r_e tbOk rfl rfl rfl rfl rfl ?_|refine r_yes tbOk rfl rfl rfl rfl rfl rfl ?_|refine w_no rfl rfl (lookO_spec rfl) rfl rfl rfl ?_|refine w_un rfl rfl (lookO_spec rfl) rfl rfl ?_)|((with_reducible refine w_drw ?_); first|refine rx_q tbOk rfl rfl rfl rfl ?_|refine rx_e tbOk rfl rfl rfl rfl rfl ?_|refine rx_yes tbOk rfl rfl rfl rfl rfl rfl ?_|refine x_no rfl rfl (lookO_spec rfl) rfl rfl rfl ?_|refine x_un rfl rfl (lookO_spec rfl) rfl rfl ?_)|((first|refine' w_q rfl rfl ?xa rfl ?_|refine' v_q rfl rfl ?xa rfl ?_|refine' w_yes rfl rfl (lookO_spec rfl) rfl ?xa rfl ?_|refine' v_yes rfl rfl (lookO_spec rfl) rfl ?xa rfl ?_); case xa => first|exact k_index tbOk rfl rfl rfl rfl (by omega) (by first|exact hx|exact hx0|exact hx1)|exact k_call KN rfl ⟨asA_r (evO_spec rfl), asA_r (evO_spec rfl), asA_r (evO_spec rfl), trivial⟩)|((first|refine' w_e rfl ?xa ?xb ?xc ?xe ?_|refine' v_e rfl ?xa ?xb ?xc ?xe ?_); (case xa => first|exact e_build [.tmp 36] tlOk rfl rfl rfl rfl rfl rfl (allN_one rfl) (by simp)|exact e_build [.tmp 49] tlOk rfl rfl rfl rfl rfl rfl (allN_one rfl) (by simp)|exact at_dst 38 rfl (e_append tlOk rfl rfl rfl rfl rfl rfl (slD_plain (slD_own (lookHO_spec rfl) rfl) (by simp [plain1])) hvi (by simp only [maxLen, List.length_cons, List.length_nil]; omega) (by simp only [List.length_cons, List.length_nil]; omega))|exact at_dst 51 rfl (e_append tlOk rfl rfl rfl rfl rfl rfl (slD_plain (slD_own (lookHO_spec rfl) rfl) (by simp [plain1])) hgi (by simp only [maxLen, List.length_cons, List.length_nil]; omega) (by simp only [List.length_cons, List.length_nil]; omega))); (case xb => rfl); (case xc => rfl); (case xe => rfl); try dsimp only [P0.d, Res.d, List.map_cons, List.map_nil, List.set_cons_zero, List.set_cons_succ, Nat.reduceAdd])|((first|refine aw_ways rfl ?_ ?_|refine r_split rfl rfl rfl ?_ ?_) <;> intro hg_ <;> fail_if_success (exact Bool.noConfusion hg_)) <;> (try simp only [prn] at hg_) <;> (try first|contradiction|(exfalso; omega)))
          all_goals first
            | (refine hfin _ ?_
               (refine weak_ren [(101, 38), (102, 51)] rfl ?_ ?_ <;> repeat' (first|exact trivial|refine subR_cons rfl ?_ ?_|refine subHR_cons rfl ?_ ?_|rfl|(refine d_int ?_; (first|rfl|omega|(rw [IntWalk.i64_in _ (by omega)] <;> omega)|(simp; done)|(simp; omega)))|(refine d_bool ?_; (first|(simp_all; done)|(rw [Bool.eq_iff_iff]; simp_all; done)|(rw [Bool.eq_iff_iff]; simp_all; omega)|(rw [Bool.eq_iff_iff]; simp; omega)))|exact d_int hwk|exact ob_sl rfl rfl|exact var4 rfl (cown (by simp only [vsOf, List.map_append, List.length_append, List.length_map, List.map_cons, List.map_nil, List.length_cons, List.length_nil, ints_len])) (cown (by simp only [gsOf, List.map_append, List.length_append, List.length_map, List.map_cons, List.map_nil, List.length_cons, List.length_nil, bools_len])) rfl)))
            | (exfalso; omega)
            | trace_state
      · rw [if_neg hg] at hE
        cases hE
  · rw [List.drop_of_length_le (by omega), rdAll] at hE
    injection hE with hE
    rw [← hE, List.append_nil] at hxs
    subst hxs
    rw [hF1 _ _ hLn]
    clear hF0 hF1
    have hvl := vsOf_len l
    have hgl := gsOf_len l
    rw [hvl, hgl]
    repeat' (first|(with_reducible first|refine aw_seq ?_|refine thn_normal ?_|refine thn_ret ?_|refine thn_exit ?_|refine blk_normal ?_|refine blk_ret ?_|refine blk_hit ?_|refine blk_miss rfl ?_|refine aw_block ?_|refine aw_ret ?_|refine aw_skip ?_|refine aw_exit ?_|refine w_nil ?_|refine x_nil (by kernel_rfl) ?_)|refine aw_region ?_|refine aw_region_draw (by kernel_rfl) ?_|refine aw_yes rfl ?_|refine aw_no rfl ?_|((with_reducible refine w_seq ?_); first|refine r_q tbOk rfl rfl rfl rfl ?_|refine r_e tbOk rfl rfl rfl rfl rfl ?_|refine r_yes tbOk rfl rfl rfl rfl rfl rfl ?_|refine w_no rfl rfl (lookO_spec rfl) rfl rfl rfl ?_|refine w_un rfl rfl (lookO_spec rfl) rfl rfl ?_)|((with_reducible refine w_drw ?_); first|refine rx_q tbOk rfl rfl rfl rfl ?_|refine rx_e tbOk rfl rfl rfl rfl rfl ?_|refine rx_yes tbOk rfl rfl rfl rfl rfl rfl ?_|refine x_no rfl rfl (lookO_spec rfl) rfl rfl rfl ?_|refine x_un rfl rfl (lookO_spec rfl) rfl rfl ?_)|((first|refine aw_ways rfl ?_ ?_|refine r_split rfl rfl rfl ?_ ?_) <;> intro hg_ <;> fail_if_success (exact Bool.noConfusion hg_)) <;> (try simp only [prn] at hg_) <;> (try first|contradiction|(exfalso; omega)))
    all_goals first
     |exact ret_D [(2000001, 101), (2000002, 102)] rfl (by (repeat' (first|exact trivial|refine subHR_cons rfl ?_ ?_|rfl))) (retD_bool rfl rfl rfl)
      | (exfalso; omega)
      | trace_state
set_option maxRecDepth 100000 in
set_option maxHeartbeats 4000000 in
theorem f_readValuesNil (nil : Bool) (r : Int) :
    FnS Try.prog 89 [.one (.ptr 1000000000 0 0 0), .one (.r false (row nil 1 (rowsI [])))] [(1000000000, .var 28 [.r true (int r), Zc, Zc, Zc])] (.one (.r true (bool true))) [(1000000000, .var 28 [.r true (int r), Zc, Zc, Zc])] := by
  have hlen : (rowsI []).length = 0 := rfl
  refine fnS_of (l := [.tmp 4]) Try.func89 (by kernel_rfl) rfl Try.ntmps89 rfl rfl ?_; simp only [dEnv, Nat.reduceAdd]
  repeat' (first|(with_reducible first|refine aw_seq ?_|refine thn_normal ?_|refine thn_ret ?_|refine thn_exit ?_|refine blk_normal ?_|refine blk_ret ?_|refine blk_hit ?_|refine blk_miss rfl ?_|refine aw_block ?_|refine aw_ret ?_|refine aw_skip ?_|refine aw_exit ?_|refine w_nil ?_|refine x_nil (by kernel_rfl) ?_)|refine aw_region ?_|refine aw_region_draw (by kernel_rfl) ?_|refine aw_yes rfl ?_|refine aw_no rfl ?_|((with_reducible refine w_seq ?_); first|refine r_q tbOk rfl rfl rfl rfl ?_|refine r_e tbOk rfl rfl rfl rfl rfl ?_|refine r_yes tbOk rfl rfl rfl rfl rfl rfl ?_|refine w_no rfl rfl (lookO_spec rfl) rfl rfl rfl ?_|refine w_un rfl rfl (lookO_spec rfl) rfl rfl ?_)|((with_reducible refine w_drw ?_); first|refine rx_q tbOk rfl rfl rfl rfl ?_|refine rx_e tbOk rfl rfl rfl rfl rfl ?_|refine rx_yes tbOk rfl rfl rfl rfl rfl rfl ?_|refine x_no rfl rfl (lookO_spec rfl) rfl rfl rfl ?_|refine x_un rfl rfl (lookO_spec rfl) rfl rfl ?_)|((first|refine aw_ways rfl ?_ ?_|refine r_split rfl rfl rfl ?_ ?_) <;> intro hg_ <;> fail_if_success (exact Bool.noConfusion hg_)) <;> (try simp only [prn] at hg_) <;> (try first|contradiction|(exfalso; omega)))
  refine aw_loopI (fun y : Nat => y = 0) (fun y => mkS 55 [(11, .one (.r true (int (y : Int)))), (10, .one (.r true (int 0))), (9, .one (.r false (row nil 1 (rowsI [])))), (0, .one (.ptr 1000000000 0 0 0))] [(1000000000, .var 28 [.r true (int r), Zc, Zc, Zc])]) (fun y => y) 0 rfl (by (refine weak_ren [] rfl ?_ ?_ <;> repeat' (first|exact trivial|refine subR_cons rfl ?_ ?_|refine subHR_cons rfl ?_ ?_|rfl|(refine d_int ?_; (first|rfl|omega|(rw [IntWalk.i64_in _ (by omega)] <;> omega)|(simp; done)|(simp; omega)))|(refine d_bool ?_; (first|(simp_all; done)|(rw [Bool.eq_iff_iff]; simp_all; done)|(rw [Bool.eq_iff_iff]; simp_all; omega)|(rw [Bool.eq_iff_iff]; simp; omega)))))) ?_
  rintro y rfl
  repeat' (first|(with_reducible first|refine aw_seq ?_|refine thn_normal ?_|refine thn_ret ?_|refine thn_exit ?_|refine blk_normal ?_|refine blk_ret ?_|refine blk_hit ?_|refine blk_miss rfl ?_|refine aw_block ?_|refine aw_ret ?_|refine aw_skip ?_|refine aw_exit ?_|refine w_nil ?_|refine x_nil (by kernel_rfl) ?_)|refine aw_region ?_|refine aw_region_draw (by kernel_rfl) ?_|refine aw_yes rfl ?_|refine aw_no rfl ?_|((with_reducible refine w_seq ?_); first|refine r_q tbOk rfl rfl rfl rfl ?_|refine r_e tbOk rfl rfl rfl rfl rfl ?_|refine r_yes tbOk rfl rfl rfl rfl rfl rfl ?_|refine w_no rfl rfl (lookO_spec rfl) rfl rfl rfl ?_|refine w_un rfl rfl (lookO_spec rfl) rfl rfl ?_)|((with_reducible refine w_drw ?_); first|refine rx_q tbOk rfl rfl rfl rfl ?_|refine rx_e tbOk rfl rfl rfl rfl rfl ?_|refine rx_yes tbOk rfl rfl rfl rfl rfl rfl ?_|refine x_no rfl rfl (lookO_spec rfl) rfl rfl rfl ?_|refine x_un rfl rfl (lookO_spec rfl) rfl rfl ?_)|((first|refine aw_ways rfl ?_ ?_|refine r_split rfl rfl rfl ?_ ?_) <;> intro hg_ <;> fail_if_success (exact Bool.noConfusion hg_)) <;> (try simp only [prn] at hg_) <;> (try first|contradiction|(exfalso; omega)))
  all_goals first
   |exact ret_D [] rfl (by (repeat' (first|exact trivial|refine subHR_cons rfl ?_ ?_|rfl))) (retD_bool rfl rfl rfl)
    | (exfalso; omega)
    | trace_state
set_option maxRecDepth 100000 in
set_option maxHeartbeats 8000000 in
theorem f_readMsNoZ (nil : Bool) (bs : List (List Int)) (r : Int) (hl : bs.length ≤ 2000) (hn : rdAll rdM1 bs = none) :
    FnS Try.prog 90 [.one (.ptr 1000000000 0 0 0), .one (.r false (row nil 1 (rowsI bs)))] [(1000000000, .var 28 [.r true (int r), Zc, Zc, Zc])] (.one (.r true (bool false))) [] := by
  have hlen := rowsI_len bs
  refine fnS_of (l := [.tmp 4]) Try.func90 (by kernel_rfl) rfl Try.ntmps90 rfl rfl ?_; simp only [dEnv, Nat.reduceAdd]
  repeat' (first|(with_reducible first|refine aw_seq ?_|refine thn_normal ?_|refine thn_ret ?_|refine thn_exit ?_|refine blk_normal ?_|refine blk_ret ?_|refine blk_hit ?_|refine blk_miss rfl ?_|refine aw_block ?_|refine aw_ret ?_|refine aw_skip ?_|refine aw_exit ?_|refine w_nil ?_|refine x_nil (by kernel_rfl) ?_)|refine aw_region ?_|refine aw_region_draw (by kernel_rfl) ?_|refine aw_yes rfl ?_|refine aw_no rfl ?_|((with_reducible refine w_seq ?_); first|refine r_q tbOk rfl rfl rfl rfl ?_|refine r_e tbOk rfl rfl rfl rfl rfl ?_|refine r_yes tbOk rfl rfl rfl rfl rfl rfl ?_|refine w_no rfl rfl (lookO_spec rfl) rfl rfl rfl ?_|refine w_un rfl rfl (lookO_spec rfl) rfl rfl ?_)|((with_reducible refine w_drw ?_); first|refine rx_q tbOk rfl rfl rfl rfl ?_|refine rx_e tbOk rfl rfl rfl rfl rfl ?_|refine rx_yes tbOk rfl rfl rfl rfl rfl rfl ?_|refine x_no rfl rfl (lookO_spec rfl) rfl rfl rfl ?_|refine x_un rfl rfl (lookO_spec rfl) rfl rfl ?_)|((first|refine aw_ways rfl ?_ ?_|refine r_split rfl rfl rfl ?_ ?_) <;> intro hg_ <;> fail_if_success (exact Bool.noConfusion hg_)) <;> (try simp only [prn] at hg_) <;> (try first|contradiction|(exfalso; omega)))
  obtain ⟨F, hF0, hF1⟩ : ∃ F : Nat × List E3 → St, (∀ k, F (k, []) = mkS 42 [(11, .one (.r true (int (k : Int)))), (10, .one (.r true (int (bs.length : Int)))), (9, .one (.r false (row nil 1 (rowsI bs)))), (0, .one (.ptr 1000000000 0 0 0))] [(1000000000, .var 28 [.r true (int r), Zc, Zc, Zc])]) ∧
      (∀ k l, l ≠ [] → F (k, l) = mkS 42 [(11, .one (.r true (int (k : Int)))), (10, .one (.r true (int (bs.length : Int)))), (9, .one (.r false (row nil 1 (rowsI bs)))), (0, .one (.ptr 1000000000 0 0 0))] [(1000000000, .var 28 [.r true (int r), Zc, Zc, .own 103 0 (l).length 3]), (103, .sl 95 3 true (edges (l)))]) := by
    refine ⟨fun y => if y.2.isEmpty then mkS 42 [(11, .one (.r true (int (y.1 : Int)))), (10, .one (.r true (int (bs.length : Int)))), (9, .one (.r false (row nil 1 (rowsI bs)))), (0, .one (.ptr 1000000000 0 0 0))] [(1000000000, .var 28 [.r true (int r), Zc, Zc, Zc])] else mkS 42 [(11, .one (.r true (int (y.1 : Int)))), (10, .one (.r true (int (bs.length : Int)))), (9, .one (.r false (row nil 1 (rowsI bs)))), (0, .one (.ptr 1000000000 0 0 0))] [(1000000000, .var 28 [.r true (int r), Zc, Zc, .own 103 0 (y.2).length 3]), (103, .sl 95 3 true (edges (y.2)))], fun k => rfl, fun k l h => ?_⟩
    cases l with
    | nil => exact absurd rfl h
    | cons v l => rfl
  refine aw_loopI (fun y : Nat × List E3 => y.1 ≤ bs.length ∧ y.2.length = y.1 ∧ rdAll rdM1 (bs.drop y.1) = none) F (fun y => bs.length - y.1) (0, []) ⟨Nat.zero_le _, rfl, hn⟩ (by
    rw [hF0]
    (refine weak_ren [] rfl ?_ ?_ <;> repeat' (first|exact trivial|refine subR_cons rfl ?_ ?_|refine subHR_cons rfl ?_ ?_|rfl|(refine d_int ?_; (first|rfl|omega|(rw [IntWalk.i64_in _ (by omega)] <;> omega)|(simp; done)|(simp; omega)))|(refine d_bool ?_; (first|(simp_all; done)|(rw [Bool.eq_iff_iff]; simp_all; done)|(rw [Bool.eq_iff_iff]; simp_all; omega)|(rw [Bool.eq_iff_iff]; simp; omega)))|exact d_int (by rw [hlen])))) ?_
  rintro ⟨k, l⟩ ⟨hk, hkl, hE⟩
  dsimp only at hk hkl hE
  by_cases hlt : k < bs.length
  · have hx := rowsI_at hlt
    rw [rdAll_drop hlt] at hE
    have KN := f_numbersBehind false bs[k] 3 3 (by omega)
    have hform := rdM1_form bs[k]
    generalize bs[k] = b at *
    have hwk : IntKind.i64.wrap ((k : Int) + 1) = ((k + 1 : Nat) : Int) := by rw [IntWalk.i64_in _ (by omega)]; omega
    have hmi := (edges_len l).symm
    rcases hform with ⟨nn, ns, e1, e2⟩ | ⟨a, c, d, e1, e2⟩
    · rw [e1] at KN
      clear hE e2 e1
      have hx0 := hx
      have hx1 := hx
      have hx2 := hx
      by_cases hll : l = []
      · subst hll
        rw [hF0]
        clear hF0 hF1
        repeat' (first|(with_reducible first|refine aw_seq ?_|refine thn_normal ?_|refine thn_ret ?_|refine thn_exit ?_|refine blk_normal ?_|refine blk_ret ?_|refine blk_hit ?_|refine blk_miss rfl ?_|refine aw_block ?_|refine aw_ret ?_|refine aw_skip ?_|refine aw_exit ?_|refine w_nil ?_|refine x_nil (by kernel_rfl) ?_)|refine aw_region ?_|refine aw_region_draw (by kernel_rfl) ?_|refine aw_yes rfl ?_|refine aw_no rfl ?_|((with_reducible refine w_seq ?_); first|refine r_q tbOk rfl rfl rfl rfl ?_|refine r_e tbOk rfl rfl rfl rfl rfl ?_|refine r_yes tbOk rfl rfl rfl rfl rfl rfl ?_|refine w_no rfl rfl (lookO_spec rfl) rfl rfl rfl ?_|refine w_un rfl rfl (lookO_spec rfl) rfl rfl ?_)|((with_reducible refine w_drw ?_); first|refine rx_q tbOk rfl rfl rfl rfl ?_|refine rx_e tbOk rfl rfl rfl rfl rfl ?_|refine rx_yes tbOk rfl rfl rfl rfl rfl rfl ?_|refine x_no rfl rfl (lookO_spec rfl) rfl rfl rfl ?_|refine x_un rfl rfl (lookO_spec rfl) rfl rfl ?_)|((first|refine' w_q rfl rfl ?xa rfl ?_|refine' v_q rfl rfl ?xa rfl ?_|refine' w_yes rfl rfl (lookO_spec rfl) rfl ?xa rfl ?_|refine' v_yes rfl rfl (lookO_spec rfl) rfl ?xa rfl ?_); case xa => first|exact k_index tbOk rfl rfl rfl rfl (by omega) (by first|exact hx|exact hx0|exact hx1|exact hx2)|exact k_call KN rfl ⟨asA_r (evO_spec rfl), asA_r (evO_spec rfl), asA_r (evO_spec rfl), trivial⟩)|((first|refine aw_ways rfl ?_ ?_|refine r_split rfl rfl rfl ?_ ?_) <;> intro hg_ <;> fail_if_success (exact Bool.noConfusion hg_)) <;> (try simp only [prn] at hg_) <;> (try first|contradiction|(exfalso; omega)))
        all_goals first
         |exact ret_D [] rfl (by (repeat' (first|exact trivial|refine subHR_cons rfl ?_ ?_|rfl))) (retD_bool rfl rfl rfl)
          | (exfalso; omega)
          | trace_state
      · rw [hF1 _ _ hll]
        clear hF0 hF1
        repeat' (first|(with_reducible first|refine aw_seq ?_|refine thn_normal ?_|refine thn_ret ?_|refine thn_exit ?_|refine blk_normal ?_|refine blk_ret ?_|refine blk_hit ?_|refine blk_miss rfl ?_|refine aw_block ?_|refine aw_ret ?_|refine aw_skip ?_|refine aw_exit ?_|refine w_nil ?_|refine x_nil (by kernel_rfl) ?_)|refine aw_region ?_|refine aw_region_draw (by kernel_rfl) ?_|refine aw_yes rfl ?_|refine aw_no rfl ?_|((with_reducible refine w_seq ?_); first|refine r_q tbOk rfl rfl rfl rfl ?_|refine r_e tbOk rfl rfl rfl rfl rfl ?_|refine r_yes tbOk rfl rfl rfl rfl rfl rfl ?_|refine w_no rfl rfl (lookO_spec rfl) rfl rfl rfl ?_|refine w_un rfl rfl (lookO_spec rfl) rfl rfl ?_)|((with_reducible refine w_drw ?_); first|refine rx_q tbOk rfl rfl rfl rfl ?_|refine rx_e tbOk rfl rfl rfl rfl rfl ?_|refine rx_yes tbOk rfl rfl rfl rfl rfl rfl ?_|refine x_no rfl rfl (lookO_spec rfl) rfl rfl rfl ?_|refine x_un rfl rfl (lookO_spec rfl) rfl rfl ?_)|((first|refine' w_q rfl rfl ?xa rfl ?_|refine' v_q rfl rfl ?xa rfl ?_|refine' w_yes rfl rfl (lookO_spec rfl) rfl ?xa rfl ?_|refine' v_yes rfl rfl (lookO_spec rfl) rfl ?xa rfl ?_); case xa => first|exact k_index tbOk rfl rfl rfl rfl (by omega) (by first|exact hx|exact hx0|exact hx1|exact hx2)|exact k_call KN rfl ⟨asA_r (evO_spec rfl), asA_r (evO_spec rfl), asA_r (evO_spec rfl), trivial⟩)|((first|refine aw_ways rfl ?_ ?_|refine r_split rfl rfl rfl ?_ ?_) <;> intro hg_ <;> fail_if_success (exact Bool.noConfusion hg_)) <;> (try simp only [prn] at hg_) <;> (try first|contradiction|(exfalso; omega)))
        all_goals first
         |exact ret_D [] rfl (by (repeat' (first|exact trivial|refine subHR_cons rfl ?_ ?_|rfl))) (retD_bool rfl rfl rfl)
          | (exfalso; omega)
          | trace_state
    · rw [e1] at KN
      rw [e2] at hE
      have hx0 : (ints [a, c, d])[(0 : Int).toNat]? = some (iP a) := rfl
      have hx1 : (ints [a, c, d])[(1 : Int).toNat]? = some (iP c) := rfl
      have hx2 : (ints [a, c, d])[(2 : Int).toNat]? = some (iP d) := rfl
      have hE2 : rdAll rdM1 (bs.drop (k + 1)) = none := by
        cases h : rdAll rdM1 (bs.drop (k + 1)) with
        | none => rfl
        | some xs => rw [h] at hE; cases hE
      have hfin : ∀ s' : St, Weak s' (F (k + 1, l ++ [(a, c, d)])) → ∃ y' : Nat × List E3, (y'.1 ≤ bs.length ∧ y'.2.length = y'.1 ∧ rdAll rdM1 (bs.drop y'.1) = none) ∧ Weak s' (F y') ∧ bs.length - y'.1 < bs.length - k := fun s' h => ⟨(k + 1, l ++ [(a, c, d)]), ⟨by dsimp only; omega, by simp; omega, hE2⟩, h, by dsimp only; omega⟩
      have happ : edges (l ++ [(a, c, d)]) = edges l ++ [edgeP (a, c, d)] := by unfold edges; simp
      rw [hF1 _ _ (by simp), happ] at hfin
      clear hE hE2 e1 e2 happ
      by_cases hll : l = []
      · subst hll
        rw [hF0]
        clear hF0 hF1
        repeat' (first|(with_reducible first|refine aw_seq ?_|refine thn_normal ?_|refine thn_ret ?_|refine thn_exit ?_|refine blk_normal ?_|refine blk_ret ?_|refine blk_hit ?_|refine blk_miss rfl ?_|refine aw_block ?_|refine aw_ret ?_|refine aw_skip ?_|refine aw_exit ?_|refine w_nil ?_|refine x_nil (by kernel_rfl) ?_)|refine aw_region ?_|refine aw_region_draw (by kernel_rfl) ?_|refine aw_yes rfl ?_|refine aw_no rfl ?_|((with_reducible refine w_seq ?_); first|refine r_q tbOk rfl rfl rfl rfl ?_|refine r_e tbOk rfl rfl rfl rfl rfl ?_|refine r_yes tbOk rfl rfl rfl rfl rfl rfl ?_|refine w_no rfl rfl (lookO_spec rfl) rfl rfl rfl ?_|refine w_un rfl rfl (lookO_spec rfl) rfl rfl ?_)|((with_reducible refine w_drw ?_); first|refine rx_q tbOk rfl rfl rfl rfl ?_|refine rx_e tbOk rfl rfl rfl rfl rfl ?_|refine rx_yes tbOk rfl rfl rfl rfl rfl rfl ?_|refine x_no rfl rfl (lookO_spec rfl) rfl rfl rfl ?_|refine x_un rfl rfl (lookO_spec rfl) rfl rfl ?_)|((first|refine' w_q rfl rfl ?xa rfl ?_|refine' v_q rfl rfl ?xa rfl ?_|refine' w_yes rfl rfl (lookO_spec rfl) rfl ?xa rfl ?_|refine' v_yes rfl rfl (lookO_spec rfl) rfl ?xa rfl ?_); case xa => first|exact k_index tbOk rfl rfl rfl rfl (by omega) (by first|exact hx|exact hx0|exact hx1|exact hx2)|exact k_call KN rfl ⟨asA_r (evO_spec rfl), asA_r (evO_spec rfl), asA_r (evO_spec rfl), trivial⟩)|((first|refine' w_e rfl ?xa ?xb ?xc ?xe ?_|refine' v_e rfl ?xa ?xb ?xc ?xe ?_); (case xa => first|exact e_build [.tmp 36] tlOk rfl rfl rfl rfl rfl rfl (allN_one rfl) (by simp)|exact at_dst 38 rfl (e_append_nil tlOk rfl rfl rfl rfl rfl (slD_plain (slD_own (lookHO_spec rfl) rfl) (edge1_plain _ _ _)) (by simp) (by simp [maxLen]) (by simp))); (case xb => rfl); (case xc => rfl); (case xe => rfl); try dsimp only [P0.d, Res.d, List.map_cons, List.map_nil, List.set_cons_zero, List.set_cons_succ, Nat.reduceAdd])|((first|refine aw_ways rfl ?_ ?_|refine r_split rfl rfl rfl ?_ ?_) <;> intro hg_ <;> fail_if_success (exact Bool.noConfusion hg_)) <;> (try simp only [prn] at hg_) <;> (try first|contradiction|(exfalso; omega)))
        all_goals first
          | (refine hfin _ ?_
             (refine weak_ren [(103, 38)] rfl ?_ ?_ <;> repeat' (first|exact trivial|refine subR_cons rfl ?_ ?_|refine subHR_cons rfl ?_ ?_|rfl|(refine d_int ?_; (first|rfl|omega|(rw [IntWalk.i64_in _ (by omega)] <;> omega)|(simp; done)|(simp; omega)))|(refine d_bool ?_; (first|(simp_all; done)|(rw [Bool.eq_iff_iff]; simp_all; done)|(rw [Bool.eq_iff_iff]; simp_all; omega)|(rw [Bool.eq_iff_iff]; simp; omega)))|exact d_int hwk|exact ob_sl rfl rfl|exact var4 rfl rfl rfl (cown (by simp only [List.length_append, List.length_cons, List.length_nil, edges_len])))))
          | (exfalso; omega)
          | trace_state
      · rw [hF1 _ _ hll]
        clear hF0 hF1
        repeat' (first|(with_reducible first|refine aw_seq ?_|refine thn_normal ?_|refine thn_ret ?_|refine thn_exit ?_|refine blk_normal ?_|refine blk_ret ?_|refine blk_hit ?_|refine blk_miss rfl ?_|refine aw_block ?_|refine aw_ret ?_|refine aw_skip ?_|refine aw_exit ?_|refine w_nil ?_|refine x_nil (by kernel_rfl) ?_)|refine aw_region ?_|refine aw_region_draw (by kernel_rfl) ?_|refine aw_yes rfl ?_|refine aw_no rfl ?_|((with_reducible refine w_seq ?_); first|refine r_q tbOk rfl rfl rfl rfl ?_|refine r_e tbOk rfl rfl rfl rfl rfl ?_|refine r_yes tbOk rfl rfl rfl rfl rfl rfl ?_|refine w_no rfl rfl (lookO_spec rfl) rfl rfl rfl ?_|refine w_un rfl rfl (lookO_spec rfl) rfl rfl ?_)|((with_reducible refine w_drw ?_); first|refine rx_q tbOk rfl rfl rfl rfl ?_|refine rx_e tbOk rfl rfl rfl rfl rfl ?_|refine rx_yes tbOk rfl rfl rfl rfl rfl rfl ?_|refine x_no rfl rfl (lookO_spec rfl) rfl rfl rfl ?_|refine x_un rfl rfl (lookO_spec rfl) rfl rfl ?_)|((first|refine' w_q rfl rfl ?xa rfl ?_|refine' v_q rfl rfl ?xa rfl ?_|refine' w_yes rfl rfl (lookO_spec rfl) rfl ?xa rfl ?_|refine' v_yes rfl rfl (lookO_spec rfl) rfl ?xa rfl ?_); case xa => first|exact k_index tbOk rfl rfl rfl rfl (by omega) (by first|exact hx|exact hx0|exact hx1|exact hx2)|exact k_call KN rfl ⟨asA_r (evO_spec rfl), asA_r (evO_spec rfl), asA_r (evO_spec rfl), trivial⟩)|((first|refine' w_e rfl ?xa ?xb ?xc ?xe ?_|refine' v_e rfl ?xa ?xb ?xc ?xe ?_); (case xa => first|exact e_build [.tmp 36] tlOk rfl rfl rfl rfl rfl rfl (allN_one rfl) (by simp)|exact at_dst 38 rfl (e_append tlOk rfl rfl rfl rfl rfl rfl (slD_plain (slD_own (lookHO_spec rfl) rfl) (edge1_plain _ _ _)) hmi (by simp only [maxLen, List.length_cons, List.length_nil]; omega) (by simp only [List.length_cons, List.length_nil]; omega))); (case xb => rfl); (case xc => rfl); (case xe => rfl); try dsimp only [P0.d, Res.d, List.map_cons, List.map_nil, List.set_cons_zero, List.set_cons_succ, Nat.reduceAdd])|((first|refine aw_ways rfl ?_ ?_|refine r_split rfl rfl rfl ?_ ?_) <;> intro hg_ <;> fail_if_success (exact Bool.noConfusion hg_)) <;> (try simp only [prn] at hg_) <;> (try first|contradiction|(exfalso; omega)))
        all_goals first
          | (refine hfin _ ?_
             (refine weak_ren [(103, 38)] rfl ?_ ?_ <;> repeat' (first|exact trivial|refine subR_cons rfl ?_ ?_|refine subHR_cons rfl ?_ ?_|rfl|(refine d_int ?_; (first|rfl|omega|(rw [IntWalk.i64_in _ (by omega)] <;> omega)|(simp; done)|(simp; omega)))|(refine d_bool ?_; (first|(simp_all; done)|(rw [Bool.eq_iff_iff]; simp_all; done)|(rw [Bool.eq_iff_iff]; simp_all; omega)|(rw [Bool.eq_iff_iff]; simp; omega)))|exact d_int hwk|exact ob_sl rfl rfl|exact var4 rfl rfl rfl (cown (by simp only [List.length_append, List.length_cons, List.length_nil, edges_len])))))
          | (exfalso; omega)
          | trace_state
  · exfalso
    rw [List.drop_of_length_le (by omega)] at hE
    cases hE
set_option maxRecDepth 100000 in
set_option maxHeartbeats 8000000 in
theorem f_readMsYesZ (nil : Bool) (bs : List (List Int)) (r : Int) (hl : bs.length ≤ 2000) (L : List E3) (hn : rdAll rdM1 bs = some L) (hLn : L ≠ []) :
    FnS Try.prog 90 [.one (.ptr 1000000000 0 0 0), .one (.r false (row nil 1 (rowsI bs)))] [(1000000000, .var 28 [.r true (int r), Zc, Zc, Zc])] (.one (.r true (bool true))) [(1000000000, .var 28 [.r true (int r), Zc, Zc, .own 2000001 0 (L).length 3]), (2000001, .sl 95 3 true (edges (L)))] := by
  have hlen := rowsI_len bs
  refine fnS_of (l := [.tmp 4]) Try.func90 (by kernel_rfl) rfl Try.ntmps90 rfl rfl ?_; simp only [dEnv, Nat.reduceAdd]
  repeat' (first|(with_reducible first|refine aw_seq ?_|refine thn_normal ?_|refine thn_ret ?_|refine thn_exit ?_|refine blk_normal ?_|refine blk_ret ?_|refine blk_hit ?_|refine blk_miss rfl ?_|refine aw_block ?_|refine aw_ret ?_|refine aw_skip ?_|refine aw_exit ?_|refine w_nil ?_|refine x_nil (by kernel_rfl) ?_)|refine aw_region ?_|refine aw_region_draw (by kernel_rfl) ?_|refine aw_yes rfl ?_|refine aw_no rfl ?_|((with_reducible refine w_seq ?_); first|refine r_q tbOk rfl rfl rfl rfl ?_|refine r_e tbOk rfl rfl rfl rfl rfl ?_|refine r_yes tbOk rfl rfl rfl rfl rfl rfl ?_|refine w_no rfl rfl (lookO_spec rfl) rfl rfl rfl ?_|refine w_un rfl rfl (lookO_spec rfl) rfl rfl ?_)|((with_reducible refine w_drw ?_); first|refine rx_q tbOk rfl rfl rfl rfl ?_|refine rx_e tbOk rfl rfl rfl rfl rfl ?_|refine rx_yes tbOk rfl rfl rfl rfl rfl rfl ?_|refine x_no rfl rfl (lookO_spec rfl) rfl rfl rfl ?_|refine x_un rfl rfl (lookO_spec rfl) rfl rfl ?_)|((first|refine aw_ways rfl ?_ ?_|refine r_split rfl rfl rfl ?_ ?_) <;> intro hg_ <;> fail_if_success (exact Bool.noConfusion hg_)) <;> (try simp only [prn] at hg_) <;> (try first|contradiction|(exfalso; omega)))
  obtain ⟨F, hF0, hF1⟩ : ∃ F : Nat × List E3 → St, (∀ k, F (k, []) = mkS 42 [(11, .one (.r true (int (k : Int)))), (10, .one (.r true (int (bs.length : Int)))), (9, .one (.r false (row nil 1 (rowsI bs)))), (0, .one (.ptr 1000000000 0 0 0))] [(1000000000, .var 28 [.r true (int r), Zc, Zc, Zc])]) ∧
      (∀ k l, l ≠ [] → F (k, l) = mkS 42 [(11, .one (.r true (int (k : Int)))), (10, .one (.r true (int (bs.length : Int)))), (9, .one (.r false (row nil 1 (rowsI bs)))), (0, .one (.ptr 1000000000 0 0 0))] [(1000000000, .var 28 [.r true (int r), Zc, Zc, .own 103 0 (l).length 3]), (103, .sl 95 3 true (edges (l)))]) := by
    refine ⟨fun y => if y.2.isEmpty then mkS 42 [(11, .one (.r true (int (y.1 : Int)))), (10, .one (.r true (int (bs.length : Int)))), (9, .one (.r false (row nil 1 (rowsI bs)))), (0, .one (.ptr 1000000000 0 0 0))] [(1000000000, .var 28 [.r true (int r), Zc, Zc, Zc])] else mkS 42 [(11, .one (.r true (int (y.1 : Int)))), (10, .one (.r true (int (bs.length : Int)))), (9, .one (.r false (row nil 1 (rowsI bs)))), (0, .one (.ptr 1000000000 0 0 0))] [(1000000000, .var 28 [.r true (int r), Zc, Zc, .own 103 0 (y.2).length 3]), (103, .sl 95 3 true (edges (y.2)))], fun k => rfl, fun k l h => ?_⟩
    cases l with
    | nil => exact absurd rfl h
    | cons v l => rfl
  refine aw_loopI (fun y : Nat × List E3 => y.1 ≤ bs.length ∧ y.2.length = y.1 ∧ ∃ xs, rdAll rdM1 (bs.drop y.1) = some xs ∧ y.2 ++ xs = L) F (fun y => bs.length - y.1) (0, []) ⟨Nat.zero_le _, rfl, L, hn, rfl⟩ (by
    rw [hF0]
    (refine weak_ren [] rfl ?_ ?_ <;> repeat' (first|exact trivial|refine subR_cons rfl ?_ ?_|refine subHR_cons rfl ?_ ?_|rfl|(refine d_int ?_; (first|rfl|omega|(rw [IntWalk.i64_in _ (by omega)] <;> omega)|(simp; done)|(simp; omega)))|(refine d_bool ?_; (first|(simp_all; done)|(rw [Bool.eq_iff_iff]; simp_all; done)|(rw [Bool.eq_iff_iff]; simp_all; omega)|(rw [Bool.eq_iff_iff]; simp; omega)))|exact d_int (by rw [hlen])))) ?_
  rintro ⟨k, l⟩ ⟨hk, hkl, xs, hE, hxs⟩
  dsimp only at hk hkl hE hxs
  by_cases hlt : k < bs.length
  · have hx := rowsI_at hlt
    rw [rdAll_drop hlt] at hE
    have KN := f_numbersBehind false bs[k] 3 3 (by omega)
    have hform := rdM1_form bs[k]
    generalize bs[k] = b at *
    have hwk : IntKind.i64.wrap ((k : Int) + 1) = ((k + 1 : Nat) : Int) := by rw [IntWalk.i64_in _ (by omega)]; omega
    have hmi := (edges_len l).symm
    rcases hform with ⟨nn, ns, e1, e2⟩ | ⟨a, c, d, e1, e2⟩
    · rw [e2] at hE
      cases hE
    · rw [e1] at KN
      rw [e2] at hE
      have hx0 : (ints [a, c, d])[(0 : Int).toNat]? = some (iP a) := rfl
      have hx1 : (ints [a, c, d])[(1 : Int).toNat]? = some (iP c) := rfl
      have hx2 : (ints [a, c, d])[(2 : Int).toNat]? = some (iP d) := rfl
      have hE2 : ∃ ys, rdAll rdM1 (bs.drop (k + 1)) = some ys ∧ (l ++ [(a, c, d)]) ++ ys = L := by
        cases h : rdAll rdM1 (bs.drop (k + 1)) with
        | none => rw [h] at hE; cases hE
        | some ys =>
          rw [h] at hE
          injection hE with hE
          exact ⟨ys, rfl, by rw [← hxs, ← hE]; simp⟩
      have hfin : ∀ s' : St, Weak s' (F (k + 1, l ++ [(a, c, d)])) → ∃ y' : Nat × List E3, (y'.1 ≤ bs.length ∧ y'.2.length = y'.1 ∧ ∃ xs, rdAll rdM1 (bs.drop y'.1) = some xs ∧ y'.2 ++ xs = L) ∧ Weak s' (F y') ∧ bs.length - y'.1 < bs.length - k := fun s' h => ⟨(k + 1, l ++ [(a, c, d)]), ⟨by dsimp only; omega, by simp; omega, hE2⟩, h, by dsimp only; omega⟩
      have happ : edges (l ++ [(a, c, d)]) = edges l ++ [edgeP (a, c, d)] := by unfold edges; simp
      rw [hF1 _ _ (by simp), happ] at hfin
      clear hE hE2 e1 e2 happ
      by_cases hll : l = []
      · subst hll
        rw [hF0]
        clear hF0 hF1
        repeat' (first|(with_reducible first|refine aw_seq ?_|refine thn_normal ?_|refine thn_ret ?_|refine thn_exit ?_|refine blk_normal ?_|refine blk_ret ?_|refine blk_hit ?_|refine blk_miss rfl ?_|refine aw_block ?_|refine aw_ret ?_|refine aw_skip ?_|refine aw_exit ?_|refine w_nil ?_|refine x_nil (by kernel_rfl) ?_)|refine aw_region ?_|refine aw_region_draw (by kernel_rfl) ?_|refine aw_yes rfl ?_|refine aw_no rfl ?_|((with_reducible refine w_seq ?_); first|refine r_q tbOk rfl rfl rfl rfl ?_|refine r_e tbOk rfl rfl rfl rfl rfl ?_|refine r_yes tbOk rfl rfl rfl rfl rfl rfl ?_|refine w_no rfl rfl (lookO_spec rfl) rfl rfl rfl ?_|refine w_un rfl rfl (lookO_spec rfl) rfl rfl ?_)|((with_reducible refine w_drw ?_); first|refine rx_q tbOk rfl rfl rfl rfl ?_|refine rx_e tbOk rfl rfl rfl rfl rfl ?_|refine rx_yes tbOk rfl rfl rfl rfl rfl rfl ?_|refine x_no rfl rfl (lookO_spec rfl) rfl rfl rfl ?_|refine x_un rfl rfl (lookO_spec rfl) rfl rfl ?_)|((first|refine' w_q rfl rfl ?xa rfl ?_|refine' v_q rfl rfl ?xa rfl ?_|refine' w_yes rfl rfl (lookO_spec rfl) rfl ?xa rfl ?_|refine' v_yes rfl rfl (lookO_spec rfl) rfl ?xa rfl ?_); case xa => first|exact k_index tbOk rfl rfl rfl rfl (by omega) (by first|exact hx|exact hx0|exact hx1|exact hx2)|exact k_call KN rfl ⟨asA_r (evO_spec rfl), asA_r (evO_spec rfl), asA_r (evO_spec rfl), trivial⟩)|((first|refine' w_e rfl ?xa ?xb ?xc ?xe ?_|refine' v_e rfl ?xa ?xb ?xc ?xe ?_); (case xa => first|exact e_build [.tmp 36] tlOk rfl rfl rfl rfl rfl rfl (allN_one rfl) (by simp)|exact at_dst 38 rfl (e_append_nil tlOk rfl rfl rfl rfl rfl (slD_plain (slD_own (lookHO_spec rfl) rfl) (edge1_plain _ _ _)) (by simp) (by simp [maxLen]) (by simp))); (case xb => rfl); (case xc => rfl); (case xe => rfl); try dsimp only [P0.d, Res.d, List.map_cons, List.map_nil, List.set_cons_zero, List.set_cons_succ, Nat.reduceAdd])|((first|refine aw_ways rfl ?_ ?_|refine r_split rfl rfl rfl ?_ ?_) <;> intro hg_ <;> fail_if_success (exact Bool.noConfusion hg_)) <;> (try simp only [prn] at hg_) <;> (try first|contradiction|(exfalso; omega)))
        all_goals first
          | (refine hfin _ ?_
             (refine weak_ren [(103, 38)] rfl ?_ ?_ <;> repeat' (first|exact trivial|refine subR_cons rfl ?_ ?_|refine subHR_cons rfl ?_ ?_|rfl|(refine d_int ?_; (first|rfl|omega|(rw [IntWalk.i64_in _ (by omega)] <;> omega)|(simp; done)|(simp; omega)))|(refine d_bool ?_; (first|(simp_all; done)|(rw [Bool.eq_iff_iff]; simp_all; done)|(rw [Bool.eq_iff_iff]; simp_all; omega)|(rw [Bool.eq_iff_iff]; simp; omega)))|exact d_int hwk|exact ob_sl rfl rfl|exact var4 rfl rfl rfl (cown (by simp only [List.length_append, List.length_cons, List.length_nil, edges_len])))))
          | (exfalso; omega)
          | trace_state
      · rw [hF1 _ _ hll]
        clear hF0 hF1
        repeat' (first|(with_reducible first|refine aw_seq ?_|refine thn_normal ?_|refine thn_ret ?_|refine thn_exit ?_|refine blk_normal ?_|refine blk_ret ?_|refine blk_hit ?_|refine blk_miss rfl ?_|refine aw_block ?_|refine aw_ret ?_|refine aw_skip ?_|refine aw_exit ?_|refine w_nil ?_|refine x_nil (by kernel_rfl) ?_)|refine aw_region ?_|refine aw_region_draw (by kernel_rfl) ?_|refine aw_yes rfl ?_|refine aw_no rfl ?_|((with_reducible refine w_seq ?_); first|refine r_q tbOk rfl rfl rfl rfl ?_|refine r_e tbOk rfl rfl rfl rfl rfl ?_|refine r_yes tbOk rfl rfl rfl rfl rfl rfl ?_|refine w_no rfl rfl (lookO_spec rfl) rfl rfl rfl ?_|refine w_un rfl rfl (lookO_spec rfl) rfl rfl ?_)|((with_reducible refine w_drw ?_); first|refine rx_q tbOk rfl rfl rfl rfl ?_|refine rx_e tbOk rfl rfl rfl rfl rfl ?_|refine rx_yes tbOk rfl rfl rfl rfl rfl rfl ?_|refine x_no rfl rfl (lookO_spec rfl) rfl rfl rfl ?_|refine x_un rfl rfl (lookO_spec rfl) rfl rfl ?_)|((first|refine' w_q rfl rfl ?xa rfl ?_|refine' v_q rfl rfl ?xa rfl ?_|refine' w_yes rfl rfl (lookO_spec rfl) rfl ?xa rfl ?_|refine' v_yes rfl rfl (lookO_spec rfl) rfl ?xa rfl ?_); case xa => first|exact k_index tbOk rfl rfl rfl rfl (by omega) (by first|exact hx|exact hx0|exact hx1|exact hx2)|exact k_call KN rfl ⟨asA_r (evO_spec rfl), asA_r (evO_spec rfl), asA_r (evO_spec rfl), trivial⟩)|((first|refine' w_e rfl ?xa ?xb ?xc ?xe ?_|refine' v_e rfl ?xa ?xb ?xc ?xe ?_); (case xa => first|exact e_build [.tmp 36] tlOk rfl rfl rfl rfl rfl rfl (allN_one rfl) (by simp)|exact at_dst 38 rfl (e_append tlOk rfl rfl rfl rfl rfl rfl (slD_plain (slD_own (lookHO_spec rfl) rfl) (edge1_plain _ _ _)) hmi (by simp only [maxLen, List.length_cons, List.length_nil]; omega) (by simp only [List.length_cons, List.length_nil]; omega))); (case xb => rfl); (case xc => rfl); (case xe => rfl); try dsimp only [P0.d, Res.d, List.map_cons, List.map_nil, List.set_cons_zero, List.set_cons_succ, Nat.reduceAdd])|((first|refine aw_ways rfl ?_ ?_|refine r_split rfl rfl rfl ?_ ?_) <;> intro hg_ <;> fail_if_success (exact Bool.noConfusion hg_)) <;> (try simp only [prn] at hg_) <;> (try first|contradiction|(exfalso; omega)))
        all_goals first
          | (refine hfin _ ?_
             (refine weak_ren [(103, 38)] rfl ?_ ?_ <;> repeat' (first|exact trivial|refine subR_cons rfl ?_ ?_|refine subHR_cons rfl ?_ ?_|rfl|(refine d_int ?_; (first|rfl|omega|(rw [IntWalk.i64_in _ (by omega)] <;> omega)|(simp; done)|(simp; omega)))|(refine d_bool ?_; (first|(simp_all; done)|(rw [Bool.eq_iff_iff]; simp_all; done)|(rw [Bool.eq_iff_iff]; simp_all; omega)|(rw [Bool.eq_iff_iff]; simp; omega)))|exact d_int hwk|exact ob_sl rfl rfl|exact var4 rfl rfl rfl (cown (by simp only [List.length_append, List.length_cons, List.length_nil, edges_len])))))
          | (exfalso; omega)
          | trace_state
  · rw [List.drop_of_length_le (by omega), rdAll] at hE
    injection hE with hE
    rw [← hE, List.append_nil] at hxs
    subst hxs
    rw [hF1 _ _ hLn]
    clear hF0 hF1
    repeat' (first|(with_reducible first|refine aw_seq ?_|refine thn_normal ?_|refine thn_ret ?_|refine thn_exit ?_|refine blk_normal ?_|refine blk_ret ?_|refine blk_hit ?_|refine blk_miss rfl ?_|refine aw_block ?_|refine aw_ret ?_|refine aw_skip ?_|refine aw_exit ?_|refine w_nil ?_|refine x_nil (by kernel_rfl) ?_)|refine aw_region ?_|refine aw_region_draw (by kernel_rfl) ?_|refine aw_yes rfl ?_|refine aw_no rfl ?_|((with_reducible refine w_seq ?_); first|refine r_q tbOk rfl rfl rfl rfl ?_|refine r_e tbOk rfl rfl rfl rfl rfl ?_|refine r_yes tbOk rfl rfl rfl rfl rfl rfl ?_|refine w_no rfl rfl (lookO_spec rfl) rfl rfl rfl ?_|refine w_un rfl rfl (lookO_spec rfl) rfl rfl ?_)|((with_reducible refine w_drw ?_); first|refine rx_q tbOk rfl rfl rfl rfl ?_|refine rx_e tbOk rfl rfl rfl rfl rfl ?_|refine rx_yes tbOk rfl rfl rfl rfl rfl rfl ?_|refine x_no rfl rfl (lookO_spec rfl) rfl rfl rfl ?_|refine x_un rfl rfl (lookO_spec rfl) rfl rfl ?_)|((first|refine aw_ways rfl ?_ ?_|refine r_split rfl rfl rfl ?_ ?_) <;> intro hg_ <;> fail_if_success (exact Bool.noConfusion hg_)) <;> (try simp only [prn] at hg_) <;> (try first|contradiction|(exfalso; omega)))
    all_goals first
     |exact ret_D [(2000001, 103)] rfl (by (repeat' (first|exact trivial|refine subHR_cons rfl ?_ ?_|rfl))) (retD_bool rfl rfl rfl)
      | (exfalso; omega)
      | trace_state
set_option maxRecDepth 100000 in
set_option maxHeartbeats 4000000 in
theorem f_readMsNilZ (nil : Bool) (r : Int) :
    FnS Try.prog 90 [.one (.ptr 1000000000 0 0 0), .one (.r false (row nil 1 (rowsI [])))] [(1000000000, .var 28 [.r true (int r), Zc, Zc, Zc])] (.one (.r true (bool true))) [(1000000000, .var 28 [.r true (int r), Zc, Zc, Zc])] := by
  have hlen : (rowsI []).length = 0 := rfl
  refine fnS_of (l := [.tmp 4]) Try.func90 (by kernel_rfl) rfl Try.ntmps90 rfl rfl ?_; simp only [dEnv, Nat.reduceAdd]
  repeat' (first|(with_reducible first|refine aw_seq ?_|refine thn_normal ?_|refine thn_ret ?_|refine thn_exit ?_|refine blk_normal ?_|refine blk_ret ?_|refine blk_hit ?_|refine blk_miss rfl ?_|refine aw_block ?_|refine aw_ret ?_|refine aw_skip ?_|refine aw_exit ?_|refine w_nil ?_|refine x_nil (by kernel_rfl) ?_)|refine aw_region ?_|refine aw_region_draw (by kernel_rfl) ?_|refine aw_yes rfl ?_|refine aw_no rfl ?_|((with_reducible refine w_seq ?_); first|refine r_q tbOk rfl rfl rfl rfl ?_|refine r_e tbOk rfl rfl rfl rfl rfl ?_|refine r_yes tbOk rfl rfl rfl rfl rfl rfl ?_|refine w_no rfl rfl (lookO_spec rfl) rfl rfl rfl ?_|refine w_un rfl rfl (lookO_spec rfl) rfl rfl ?_)|((with_reducible refine w_drw ?_); first|refine rx_q tbOk rfl rfl rfl rfl ?_|refine rx_e tbOk rfl rfl rfl rfl rfl ?_|refine rx_yes tbOk rfl rfl rfl rfl rfl rfl ?_|refine x_no rfl rfl (lookO_spec rfl) rfl rfl rfl ?_|refine x_un rfl rfl (lookO_spec rfl) rfl rfl ?_)|((first|refine aw_ways rfl ?_ ?_|refine r_split rfl rfl rfl ?_ ?_) <;> intro hg_ <;> fail_if_success (exact Bool.noConfusion hg_)) <;> (try simp only [prn] at hg_) <;> (try first|contradiction|(exfalso; omega)))
  refine aw_loopI (fun y : Nat => y = 0) (fun y => mkS 42 [(11, .one (.r true (int (y : Int)))), (10, .one (.r true (int 0))), (9, .one (.r false (row nil 1 (rowsI [])))), (0, .one (.ptr 1000000000 0 0 0))] [(1000000000, .var 28 [.r true (int r), Zc, Zc, Zc])]) (fun y => y) 0 rfl (by (refine weak_ren [] rfl ?_ ?_ <;> repeat' (first|exact trivial|refine subR_cons rfl ?_ ?_|refine subHR_cons rfl ?_ ?_|rfl|(refine d_int ?_; (first|rfl|omega|(rw [IntWalk.i64_in _ (by omega)] <;> omega)|(simp; done)|(simp; omega)))|(refine d_bool ?_; (first|(simp_all; done)|(rw [Bool.eq_iff_iff]; simp_all; done)|(rw [Bool.eq_iff_iff]; simp_all; omega)|(rw [Bool.eq_iff_iff]; simp; omega)))))) ?_
  rintro y rfl
  repeat' (first|(with_reducible first|refine aw_seq ?_|refine thn_normal ?_|refine thn_ret ?_|refine thn_exit ?_|refine blk_normal ?_|refine blk_ret ?_|refine blk_hit ?_|refine blk_miss rfl ?_|refine aw_block ?_|refine aw_ret ?_|refine aw_skip ?_|refine aw_exit ?_|refine w_nil ?_|refine x_nil (by kernel_rfl) ?_)|refine aw_region ?_|refine aw_region_draw (by kernel_rfl) ?_|refine aw_yes rfl ?_|refine aw_no rfl ?_|((with_reducible refine w_seq ?_); first|refine r_q tbOk rfl rfl rfl rfl ?_|refine r_e tbOk rfl rfl rfl rfl rfl ?_|refine r_yes tbOk rfl rfl rfl rfl rfl rfl ?_|refine w_no rfl rfl (lookO_spec rfl) rfl rfl rfl ?_|refine w_un rfl rfl (lookO_spec rfl) rfl rfl ?_)|((with_reducible refine w_drw ?_); first|refine rx_q tbOk rfl rfl rfl rfl ?_|refine rx_e tbOk rfl rfl rfl rfl rfl ?_|refine rx_yes tbOk rfl rfl rfl rfl rfl rfl ?_|refine x_no rfl rfl (lookO_spec rfl) rfl rfl rfl ?_|refine x_un rfl rfl (lookO_spec rfl) rfl rfl ?_)|((first|refine aw_ways rfl ?_ ?_|refine r_split rfl rfl rfl ?_ ?_) <;> intro hg_ <;> fail_if_success (exact Bool.noConfusion hg_)) <;> (try simp only [prn] at hg_) <;> (try first|contradiction|(exfalso; omega)))
  all_goals first
   |exact ret_D [] rfl (by (repeat' (first|exact trivial|refine subHR_cons rfl ?_ ?_|rfl))) (retD_bool rfl rfl rfl)
    | (exfalso; omega)
    | trace_state
set_option maxRecDepth 100000 in
set_option maxHeartbeats 8000000 in
theorem f_readMsNoO (nil : Bool) (bs : List (List Int)) (r : Int) (vs : List Int) (gs : List Bool) (hl : bs.length ≤ 2000) (hn : rdAll rdM1 bs = none) :
    FnS Try.prog 90 [.one (.ptr 1000000000 0 0 0), .one (.r false (row nil 1 (rowsI bs)))] [(1000000000, .var 28 [.r true (int r), .own 1000000001 0 vs.length 1, .own 1000000002 0 gs.length 1, Zc]), (1000000001, .sl 3 1 true (ints vs)), (1000000002, .sl 4 1 true (bools gs))] (.one (.r true (bool false))) [] := by
  have hlen := rowsI_len bs
  refine fnS_of (l := [.tmp 4]) Try.func90 (by kernel_rfl) rfl Try.ntmps90 rfl rfl ?_; simp only [dEnv, Nat.reduceAdd]
  repeat' (first|(with_reducible first|refine aw_seq ?_|refine thn_normal ?_|refine thn_ret ?_|refine thn_exit ?_|refine blk_normal ?_|refine blk_ret ?_|refine blk_hit ?_|refine blk_miss rfl ?_|refine aw_block ?_|refine aw_ret ?_|refine aw_skip ?_|refine aw_exit ?_|refine w_nil ?_|refine x_nil (by kernel_rfl) ?_)|refine aw_region ?_|refine aw_region_draw (by kernel_rfl) ?_|refine aw_yes rfl ?_|refine aw_no rfl ?_|((with_reducible refine w_seq ?_); first|refine r_q tbOk rfl rfl rfl rfl ?_|refine r_e tbOk rfl rfl rfl rfl rfl ?_|refine r_yes tbOk rfl rfl rfl rfl rfl rfl ?_|refine w_no rfl rfl (lookO_spec rfl) rfl rfl rfl ?_|refine w_un rfl rfl (lookO_spec rfl) rfl rfl ?_)|((with_reducible refine w_drw ?_); first|refine rx_q tbOk rfl rfl rfl rfl ?_|refine rx_e tbOk rfl rfl rfl rfl rfl ?_|refine rx_yes tbOk rfl rfl rfl rfl rfl rfl ?_|refine x_no rfl rfl (lookO_spec rfl) rfl rfl rfl ?_|refine x_un rfl rfl (lookO_spec rfl) rfl rfl ?_)|((first|refine aw_ways rfl ?_ ?_|refine r_split rfl rfl rfl ?_ ?_) <;> intro hg_ <;> fail_if_success (exact Bool.noConfusion hg_)) <;> (try simp only [prn] at hg_) <;> (try first|contradiction|(exfalso; omega)))
  obtain ⟨F, hF0, hF1⟩ : ∃ F : Nat × List E3 → St, (∀ k, F (k, []) = mkS 42 [(11, .one (.r true (int (k : Int)))), (10, .one (.r true (int (bs.length : Int)))), (9, .one (.r false (row nil 1 (rowsI bs)))), (0, .one (.ptr 1000000000 0 0 0))] [(1000000000, .var 28 [.r true (int r), .own 1000000001 0 vs.length 1, .own 1000000002 0 gs.length 1, Zc]), (1000000001, .sl 3 1 true (ints vs)), (1000000002, .sl 4 1 true (bools gs))]) ∧
      (∀ k l, l ≠ [] → F (k, l) = mkS 42 [(11, .one (.r true (int (k : Int)))), (10, .one (.r true (int (bs.length : Int)))), (9, .one (.r false (row nil 1 (rowsI bs)))), (0, .one (.ptr 1000000000 0 0 0))] [(1000000000, .var 28 [.r true (int r), .own 1000000001 0 vs.length 1, .own 1000000002 0 gs.length 1, .own 103 0 (l).length 3]), (1000000001, .sl 3 1 true (ints vs)), (1000000002, .sl 4 1 true (bools gs)), (103, .sl 95 3 true (edges (l)))]) := by
    refine ⟨fun y => if y.2.isEmpty then mkS 42 [(11, .one (.r true (int (y.1 : Int)))), (10, .one (.r true (int (bs.length : Int)))), (9, .one (.r false (row nil 1 (rowsI bs)))), (0, .one (.ptr 1000000000 0 0 0))] [(1000000000, .var 28 [.r true (int r), .own 1000000001 0 vs.length 1, .own 1000000002 0 gs.length 1, Zc]), (1000000001, .sl 3 1 true (ints vs)), (1000000002, .sl 4 1 true (bools gs))] else mkS 42 [(11, .one (.r true (int (y.1 : Int)))), (10, .one (.r true (int (bs.length : Int)))), (9, .one (.r false (row nil 1 (rowsI bs)))), (0, .one (.ptr 1000000000 0 0 0))] [(1000000000, .var 28 [.r true (int r), .own 1000000001 0 vs.length 1, .own 1000000002 0 gs.length 1, .own 103 0 (y.2).length 3]), (1000000001, .sl 3 1 true (ints vs)), (1000000002, .sl 4 1 true (bools gs)), (103, .sl 95 3 true (edges (y.2)))], fun k => rfl, fun k l h => ?_⟩
    cases l with
    | nil => exact absurd rfl h
    | cons v l => rfl
  refine aw_loopI (fun y : Nat × List E3 => y.1 ≤ bs.length ∧ y.2.length = y.1 ∧ rdAll rdM1 (bs.drop y.1) = none) F (fun y => bs.length - y.1) (0, []) ⟨Nat.zero_le _, rfl, hn⟩ (by
    rw [hF0]
    (refine weak_ren [] rfl ?_ ?_ <;> repeat' (first|exact trivial|refine subR_cons rfl ?_ ?_|refine subHR_cons rfl ?_ ?_|rfl|(refine d_int ?_; (first|rfl|omega|(rw [IntWalk.i64_in _ (by omega)] <;> omega)|(simp; done)|(simp; omega)))|(refine d_bool ?_; (first|(simp_all; done)|(rw [Bool.eq_iff_iff]; simp_all; done)|(rw [Bool.eq_iff_iff]; simp_all; omega)|(rw [Bool.eq_iff_iff]; simp; omega)))|exact d_int (by rw [hlen])))) ?_
  rintro ⟨k, l⟩ ⟨hk, hkl, hE⟩
  dsimp only at hk hkl hE
  by_cases hlt : k < bs.length
  · have hx := rowsI_at hlt
    rw [rdAll_drop hlt] at hE
    have KN := f_numbersBehind false bs[k] 3 3 (by omega)
    have hform := rdM1_form bs[k]
    generalize bs[k] = b at *
    have hwk : IntKind.i64.wrap ((k : Int) + 1) = ((k + 1 : Nat) : Int) := by rw [IntWalk.i64_in _ (by omega)]; omega
    have hmi := (edges_len l).symm
    rcases hform with ⟨nn, ns, e1, e2⟩ | ⟨a, c, d, e1, e2⟩
    · rw [e1] at KN
      clear hE e2 e1
      have hx0 := hx
      have hx1 := hx
      have hx2 := hx
      by_cases hll : l = []
      · subst hll
        rw [hF0]
        clear hF0 hF1
        repeat' (first|(with_reducible first|refine aw_seq ?_|refine thn_normal ?_|refine thn_ret ?_|refine thn_exit ?_|refine blk_normal ?_|refine blk_ret ?_|refine blk_hit ?_|refine blk_miss rfl ?_|refine aw_block ?_|refine aw_ret ?_|refine aw_skip ?_|refine aw_exit ?_|refine w_nil ?_|refine x_nil (by kernel_rfl) ?_)|refine aw_region ?_|refine aw_region_draw (by kernel_rfl) ?_|refine aw_yes rfl ?_|refine aw_no rfl ?_|((with_reducible refine w_seq ?_); first|refine r_q tbOk rfl rfl rfl rfl ?_|refine r_e tbOk rfl rfl rfl rfl rfl ?_|refine r_yes tbOk rfl rfl rfl rfl rfl rfl ?_|refine w_no rfl rfl (lookO_spec rfl) rfl rfl rfl ?_|refine w_un rfl rfl (lookO_spec rfl) rfl rfl ?_)|((with_reducible refine w_drw ?_); first|refine rx_q tbOk rfl rfl rfl rfl ?_|refine rx_e tbOk rfl rfl rfl rfl rfl ?_|refine rx_yes tbOk rfl rfl rfl rfl rfl rfl ?_|refine x_no rfl rfl (lookO_spec rfl) rfl rfl rfl ?_|refine x_un rfl rfl (lookO_spec rfl) rfl rfl ?_)|((first|refine' w_q rfl rfl ?xa rfl ?_|refine' v_q rfl rfl ?xa rfl ?_|refine' w_yes rfl rfl (lookO_spec rfl) rfl ?xa rfl ?_|refine' v_yes rfl rfl (lookO_spec rfl) rfl ?xa rfl ?_); case xa => first|exact k_index tbOk rfl rfl rfl rfl (by omega) (by first|exact hx|exact hx0|exact hx1|exact hx2)|exact k_call KN rfl ⟨asA_r (evO_spec rfl), asA_r (evO_spec rfl), asA_r (evO_spec rfl), trivial⟩)|((first|refine aw_ways rfl ?_ ?_|refine r_split rfl rfl rfl ?_ ?_) <;> intro hg_ <;> fail_if_success (exact Bool.noConfusion hg_)) <;> (try simp only [prn] at hg_) <;> (try first|contradiction|(exfalso; omega)))
        all_goals first
         |exact ret_D [] rfl (by (repeat' (first|exact trivial|refine subHR_cons rfl ?_ ?_|rfl))) (retD_bool rfl rfl rfl)
          | (exfalso; omega)
          | trace_state
      · rw [hF1 _ _ hll]
        clear hF0 hF1
        repeat' (first|(with_reducible first|refine aw_seq ?_|refine thn_normal ?_|refine thn_ret ?_|refine thn_exit ?_|refine blk_normal ?_|refine blk_ret ?_|refine blk_hit ?_|refine blk_miss rfl ?_|refine aw_block ?_|refine aw_ret ?_|refine aw_skip ?_|refine aw_exit ?_|refine w_nil ?_|refine x_nil (by kernel_rfl) ?_)|refine aw_region ?_|refine aw_region_draw (by kernel_rfl) ?_|refine aw_yes rfl ?_|refine aw_no rfl ?_|((with_reducible refine w_seq ?_); first|refine r_q tbOk rfl rfl rfl rfl ?_|refine r_e tbOk rfl rfl rfl rfl rfl ?_|refine r_yes tbOk rfl rfl rfl rfl rfl rfl ?_|refine w_no rfl rfl (lookO_spec rfl) rfl rfl rfl ?_|refine w_un rfl rfl (lookO_spec rfl) rfl rfl ?_)|((with_reducible refine w_drw ?_); first|refine rx_q tbOk rfl rfl rfl rfl ?_|refine rx_e tbOk rfl rfl rfl rfl rfl ?_|refine rx_yes tbOk rfl rfl rfl rfl rfl rfl ?_|refine x_no rfl rfl (lookO_spec rfl) rfl rfl rfl ?_|refine x_un rfl rfl (lookO_spec rfl) rfl rfl ?_)|((first|refine' w_q rfl rfl ?xa rfl ?_|refine' v_q rfl rfl ?xa rfl ?_|refine' w_yes rfl rfl (lookO_spec rfl) rfl ?xa rfl ?_|refine' v_yes rfl rfl (lookO_spec rfl) rfl ?xa rfl ?_); case xa => first|exact k_index tbOk rfl rfl rfl rfl (by omega) (by first|exact hx|exact hx0|exact hx1|exact hx2)|exact k_call KN rfl ⟨asA_r (evO_spec rfl), asA_r (evO_spec rfl), asA_r (evO_spec rfl), trivial⟩)|((first|refine aw_ways rfl ?_ ?_|refine r_split rfl rfl rfl ?_ ?_) <;> intro hg_ <;> fail_if_success (exact Bool.noConfusion hg_)) <;> (try simp only [prn] at hg_) <;> (try first|contradiction|(exfalso; omega)))
        all_goals first
         |exact ret_D [] rfl (by (repeat' (first|exact trivial|refine subHR_cons rfl ?_ ?_|rfl))) (retD_bool rfl rfl rfl)
          | (exfalso; omega)
          | trace_state
    · rw [e1] at KN
      rw [e2] at hE
      have hx0 : (ints [a, c, d])[(0 : Int).toNat]? = some (iP a) := rfl
      have hx1 : (ints [a, c, d])[(1 : Int).toNat]? = some (iP c) := rfl
      have hx2 : (ints [a, c, d])[(2 : Int).toNat]? = some (iP d) := rfl
      have hE2 : rdAll rdM1 (bs.drop (k + 1)) = none := by
        cases h : rdAll rdM1 (bs.drop (k + 1)) with
        | none => rfl
        | some xs => rw [h] at hE; cases hE
      have hfin : ∀ s' : St, Weak s' (F (k + 1, l ++ [(a, c, d)])) → ∃ y' : Nat × List E3, (y'.1 ≤ bs.length ∧ y'.2.length = y'.1 ∧ rdAll rdM1 (bs.drop y'.1) = none) ∧ Weak s' (F y') ∧ bs.length - y'.1 < bs.length - k := fun s' h => ⟨(k + 1, l ++ [(a, c, d)]), ⟨by dsimp only; omega, by simp; omega, hE2⟩, h, by dsimp only; omega⟩
      have happ : edges (l ++ [(a, c, d)]) = edges l ++ [edgeP (a, c, d)] := by unfold edges; simp
      rw [hF1 _ _ (by simp), happ] at hfin
      clear hE hE2 e1 e2 happ
      by_cases hll : l = []
      · subst hll
        rw [hF0]
        clear hF0 hF1
        repeat' (first|(with_reducible first|refine aw_seq ?_|refine thn_normal ?_|refine thn_ret ?_|refine thn_exit ?_|refine blk_normal ?_|refine blk_ret ?_|refine blk_hit ?_|refine blk_miss rfl ?_|refine aw_block ?_|refine aw_ret ?_|refine aw_skip ?_|refine aw_exit ?_|refine w_nil ?_|refine x_nil (by kernel_rfl) ?_)|refine aw_region ?_|refine aw_region_draw (by kernel_rfl) ?_|refine aw_yes rfl ?_|refine aw_no rfl ?_|((with_reducible refine w_seq ?_); first|refine r_q tbOk rfl rfl rfl rfl ?_|refine r_e tbOk rfl rfl rfl rfl rfl ?_|refine r_yes tbOk rfl rfl rfl rfl rfl rfl ?_|refine w_no rfl rfl (lookO_spec rfl) rfl rfl rfl ?_|refine w_un rfl rfl (lookO_spec rfl) rfl rfl ?_)|((with_reducible refine w_drw ?_); first|refine rx_q tbOk rfl rfl rfl rfl ?_|refine rx_e tbOk rfl rfl rfl rfl rfl ?_|refine rx_yes tbOk rfl rfl rfl rfl rfl rfl ?_|refine x_no rfl rfl (lookO_spec rfl) rfl rfl rfl ?_|refine x_un rfl rfl (lookO_spec rfl) rfl rfl ?_)|((first|refine' w_q rfl rfl ?xa rfl ?_|refine' v_q rfl rfl ?xa rfl ?_|refine' w_yes rfl rfl (lookO_spec rfl) rfl ?xa rfl ?_|refine' v_yes rfl rfl (lookO_spec rfl) rfl ?xa rfl ?_); case xa => first|exact k_index tbOk rfl rfl rfl rfl (by omega) (by first|exact hx|exact hx0|exact hx1|exact hx2)|exact k_call KN rfl ⟨asA_r (evO_spec rfl), asA_r (evO_spec rfl), asA_r (evO_spec rfl), trivial⟩)|((first|refine' w_e rfl ?xa ?xb ?xc ?xe ?_|refine' v_e rfl ?xa ?xb ?xc ?xe ?_); (case xa => first|exact e_build [.tmp 36] tlOk rfl rfl rfl rfl rfl rfl (allN_one rfl) (by simp)|exact at_dst 38 rfl (e_append_nil tlOk rfl rfl rfl rfl rfl (slD_plain (slD_own (lookHO_spec rfl) rfl) (edge1_plain _ _ _)) (by simp) (by simp [maxLen]) (by simp))); (case xb => rfl); (case xc => rfl); (case xe => rfl); try dsimp only [P0.d, Res.d, List.map_cons, List.map_nil, List.set_cons_zero, List.set_cons_succ, Nat.reduceAdd])|((first|refine aw_ways rfl ?_ ?_|refine r_split rfl rfl rfl ?_ ?_) <;> intro hg_ <;> fail_if_success (exact Bool.noConfusion hg_)) <;> (try simp only [prn] at hg_) <;> (try first|contradiction|(exfalso; omega)))
        all_goals first
          | (refine hfin _ ?_
             (refine weak_ren [(103, 38)] rfl ?_ ?_ <;> repeat' (first|exact trivial|refine subR_cons rfl ?_ ?_|refine subHR_cons rfl ?_ ?_|rfl|(refine d_int ?_; (first|rfl|omega|(rw [IntWalk.i64_in _ (by omega)] <;> omega)|(simp; done)|(simp; omega)))|(refine d_bool ?_; (first|(simp_all; done)|(rw [Bool.eq_iff_iff]; simp_all; done)|(rw [Bool.eq_iff_iff]; simp_all; omega)|(rw [Bool.eq_iff_iff]; simp; omega)))|exact d_int hwk|exact ob_sl rfl rfl|exact var4 rfl rfl rfl (cown (by simp only [List.length_append, List.length_cons, List.length_nil, edges_len])))))
          | (exfalso; omega)
          | trace_state
      · rw [hF1 _ _ hll]
        clear hF0 hF1
        repeat' (first|(with_reducible first|refine aw_seq ?_|refine thn_normal ?_|refine thn_ret ?_|refine thn_exit ?_|refine blk_normal ?_|refine blk_ret ?_|refine blk_hit ?_|refine blk_miss rfl ?_|refine aw_block ?_|refine aw_ret ?_|refine aw_skip ?_|refine aw_exit ?_|refine w_nil ?_|refine x_nil (by kernel_rfl) ?_)|refine aw_region ?_|refine aw_region_draw (by kernel_rfl) ?_|refine aw_yes rfl ?_|refine aw_no rfl ?_|((with_reducible refine w_seq ?_); first|refine r_q tbOk rfl rfl rfl rfl ?_|refine r_e tbOk rfl rfl rfl rfl rfl ?_|refine r_yes tbOk rfl rfl rfl rfl rfl rfl ?_|refine w_no rfl rfl (lookO_spec rfl) rfl rfl rfl ?_|refine w_un rfl rfl (lookO_spec rfl) rfl rfl ?_)|((with_reducible refine w_drw ?_); first|refine rx_q tbOk rfl rfl rfl rfl ?_|refine rx_e tbOk rfl rfl rfl rfl rfl ?_|refine rx_yes tbOk rfl rfl rfl rfl rfl rfl ?_|refine x_no rfl rfl (lookO_spec rfl) rfl rfl rfl ?_|refine x_un rfl rfl (lookO_spec rfl) rfl rfl ?_)|((first|refine' w_q rfl rfl ?xa rfl ?_|refine' v_q rfl rfl ?xa rfl ?_|refine' w_yes rfl rfl (lookO_spec rfl) rfl ?xa rfl ?_|refine' v_yes rfl rfl (lookO_spec rfl) rfl ?xa rfl ?_); case xa => first|exact k_index tbOk rfl rfl rfl rfl (by omega) (by first|exact hx|exact hx0|exact hx1|exact hx2)|exact k_call KN rfl ⟨asA_r (evO_spec rfl), asA_r (evO_spec rfl), asA_r (evO_spec rfl), trivial⟩)|((first|refine' w_e rfl ?xa ?xb ?xc ?xe ?_|refine' v_e rfl ?xa ?xb ?xc ?xe ?_); (case xa => first|exact e_build [.tmp 36] tlOk rfl rfl rfl rfl rfl rfl (allN_one rfl) (by simp)|exact at_dst 38 rfl (e_append tlOk rfl rfl rfl rfl rfl rfl (slD_plain (slD_own (lookHO_spec rfl) rfl) (edge1_plain _ _ _)) hmi (by simp only [maxLen, List.length_cons, List.length_nil]; omega) (by simp only [List.length_cons, List.length_nil]; omega))); (case xb => rfl); (case xc => rfl); (case xe => rfl); try dsimp only [P0.d, Res.d, List.map_cons, List.map_nil, List.set_cons_zero, List.set_cons_succ, Nat.reduceAdd])|((first|refine aw_ways rfl ?_ ?_|refine r_split rfl rfl rfl ?_ ?_) <;> intro hg_ <;> fail_if_success (exact Bool.noConfusion hg_)) <;> (try simp only [prn] at hg_) <;> (try first|contradiction|(exfalso; omega)))
        all_goals first
          | (refine hfin _ ?_
             (refine weak_ren [(103, 38)] rfl ?_ ?_ <;> repeat' (first|exact trivial|refine subR_cons rfl ?_ ?_|refine subHR_cons rfl ?_ ?_|rfl|(refine d_int ?_; (first|rfl|omega|(rw [IntWalk.i64_in _ (by omega)] <;> omega)|(simp; done)|(simp; omega)))|(refine d_bool ?_; (first|(simp_all; done)|(rw [Bool.eq_iff_iff]; simp_all; done)|(rw [Bool.eq_iff_iff]; simp_all; omega)|(rw [Bool.eq_iff_iff]; simp; omega)))|exact d_int hwk|exact ob_sl rfl rfl|exact var4 rfl rfl rfl (cown (by simp only [List.length_append, List.length_cons, List.length_nil, edges_len])))))
          | (exfalso; omega)
          | trace_state
  · exfalso
    rw [List.drop_of_length_le (by omega)] at hE
    cases hE
set_option maxRecDepth 100000 in
set_option maxHeartbeats 8000000 in
theorem f_readMsYesO (nil : Bool) (bs : List (List Int)) (r : Int) (vs : List Int) (gs : List Bool) (hl : bs.length ≤ 2000) (L : List E3) (hn : rdAll rdM1 bs = some L) (hLn : L ≠ []) :
    FnS Try.prog 90 [.one (.ptr 1000000000 0 0 0), .one (.r false (row nil 1 (rowsI bs)))] [(1000000000, .var 28 [.r true (int r), .own 1000000001 0 vs.length 1, .own 1000000002 0 gs.length 1, Zc]), (1000000001, .sl 3 1 true (ints vs)), (1000000002, .sl 4 1 true (bools gs))] (.one (.r true (bool true))) [(1000000000, .var 28 [.r true (int r), .own 1000000001 0 vs.length 1, .own 1000000002 0 gs.length 1, .own 2000001 0 (L).length 3]), (1000000001, .sl 3 1 true (ints vs)), (1000000002, .sl 4 1 true (bools gs)), (2000001, .sl 95 3 true (edges (L)))] := by
  have hlen := rowsI_len bs
  refine fnS_of (l := [.tmp 4]) Try.func90 (by kernel_rfl) rfl Try.ntmps90 rfl rfl ?_; simp only [dEnv, Nat.reduceAdd]
  repeat' (first|(with_reducible first|refine aw_seq ?_|refine thn_normal ?_|refine thn_ret ?_|refine thn_exit ?_|refine blk_normal ?_|refine blk_ret ?_|refine blk_hit ?_|refine blk_miss rfl ?_|refine aw_block ?_|refine aw_ret ?_|refine aw_skip ?_|refine aw_exit ?_|refine w_nil ?_|refine x_nil (by kernel_rfl) ?_)|refine aw_region ?_|refine aw_region_draw (by kernel_rfl) ?_|refine aw_yes rfl ?_|refine aw_no rfl ?_|((with_reducible refine w_seq ?_); first|refine r_q tbOk rfl rfl rfl rfl ?_|refine r_e tbOk rfl rfl rfl rfl rfl ?_|refine r_yes tbOk rfl rfl rfl rfl rfl rfl ?_|refine w_no rfl rfl (lookO_spec rfl) rfl rfl rfl ?_|refine w_un rfl rfl (lookO_spec rfl) rfl rfl ?_)|((with_reducible refine w_drw ?_); first|refine rx_q tbOk rfl rfl rfl rfl ?_|refine rx_e tbOk rfl rfl rfl rfl rfl ?_|refine rx_yes tbOk rfl rfl rfl rfl rfl rfl ?_|refine x_no rfl rfl (lookO_spec rfl) rfl rfl rfl ?_|refine x_un rfl rfl (lookO_spec rfl) rfl rfl ?_)|((first|refine aw_ways rfl ?_ ?_|refine r_split rfl rfl rfl ?_ ?_) <;> intro hg_ <;> fail_if_success (exact Bool.noConfusion hg_)) <;> (try simp only [prn] at hg_) <;> (try first|contradiction|(exfalso; omega)))
  obtain ⟨F, hF0, hF1⟩ : ∃ F : Nat × List E3 → St, (∀ k, F (k, []) = mkS 42 [(11, .one (.r true (int (k : Int)))), (10, .one (.r true (int (bs.length : Int)))), (9, .one (.r false (row nil 1 (rowsI bs)))), (0, .one (.ptr 1000000000 0 0 0))] [(1000000000, .var 28 [.r true (int r), .own 1000000001 0 vs.length 1, .own 1000000002 0 gs.length 1, Zc]), (1000000001, .sl 3 1 true (ints vs)), (1000000002, .sl 4 1 true (bools gs))]) ∧
      (∀ k l, l ≠ [] → F (k, l) = mkS 42 [(11, .one (.r true (int (k : Int)))), (10, .one (.r true (int (bs.length : Int)))), (9, .one (.r false (row nil 1 (rowsI bs)))), (0, .one (.ptr 1000000000 0 0 0))] [(1000000000, .var 28 [.r true (int r), .own 1000000001 0 vs.length 1, .own 1000000002 0 gs.length 1, .own 103 0 (l).length 3]), (1000000001, .sl 3 1 true (ints vs)), (1000000002, .sl 4 1 true (bools gs)), (103, .sl 95 3 true (edges (l)))]) := by
    refine ⟨fun y => if y.2.isEmpty then mkS 42 [(11, .one (.r true (int (y.1 : Int)))), (10, .one (.r true (int (bs.length : Int)))), (9, .one (.r false (row nil 1 (rowsI bs)))), (0, .one (.ptr 1000000000 0 0 0))] [(1000000000, .var 28 [.r true (int r), .own 1000000001 0 vs.length 1, .own 1000000002 0 gs.length 1, Zc]), (1000000001, .sl 3 1 true (ints vs)), (1000000002, .sl 4 1 true (bools gs))] else mkS 42 [(11, .one (.r true (int (y.1 : Int)))), (10, .one (.r true (int (bs.length : Int)))), (9, .one (.r false (row nil 1 (rowsI bs)))), (0, .one (.ptr 1000000000 0 0 0))] [(1000000000, .var 28 [.r true (int r), .own 1000000001 0 vs.length 1, .own 1000000002 0 gs.length 1, .own 103 0 (y.2).length 3]), (1000000001, .sl 3 1 true (ints vs)), (1000000002, .sl 4 1 true (bools gs)), (103, .sl 95 3 true (edges (y.2)))], fun k => rfl, fun k l h => ?_⟩
    cases l with
    | nil => exact absurd rfl h
    | cons v l => rfl
  refine aw_loopI (fun y : Nat × List E3 => y.1 ≤ bs.length ∧ y.2.length = y.1 ∧ ∃ xs, rdAll rdM1 (bs.drop y.1) = some xs ∧ y.2 ++ xs = L) F (fun y => bs.length - y.1) (0, []) ⟨Nat.zero_le _, rfl, L, hn, rfl⟩ (by
    rw [hF0]
    (refine weak_ren [] rfl ?_ ?_ <;> repeat' (first|exact trivial|refine subR_cons rfl ?_ ?_|refine subHR_cons rfl ?_ ?_|rfl|(refine d_int ?_; (first|rfl|omega|(rw [IntWalk.i64_in _ (by omega)] <;> omega)|(simp; done)|(simp; omega)))|(refine d_bool ?_; (first|(simp_all; done)|(rw [Bool.eq_iff_iff]; simp_all; done)|(rw [Bool.eq_iff_iff]; simp_all; omega)|(rw [Bool.eq_iff_iff]; simp; omega)))|exact d_int (by rw [hlen])))) ?_
  rintro ⟨k, l⟩ ⟨hk, hkl, xs, hE, hxs⟩
  dsimp only at hk hkl hE hxs
  by_cases hlt : k < bs.length
  · have hx := rowsI_at hlt
    rw [rdAll_drop hlt] at hE
    have KN := f_numbersBehind false bs[k] 3 3 (by omega)
    have hform := rdM1_form bs[k]
    generalize bs[k] = b at *
    have hwk : IntKind.i64.wrap ((k : Int) + 1) = ((k + 1 : Nat) : Int) := by rw [IntWalk.i64_in _ (by omega)]; omega
    have hmi := (edges_len l).symm
    rcases hform with ⟨nn, ns, e1, e2⟩ | ⟨a, c, d, e1, e2⟩
    · rw [e2] at hE
      cases hE
    · rw [e1] at KN
      rw [e2] at hE
      have hx0 : (ints [a, c, d])[(0 : Int).toNat]? = some (iP a) := rfl
      have hx1 : (ints [a, c, d])[(1 : Int).toNat]? = some (iP c) := rfl
      have hx2 : (ints [a, c, d])[(2 : Int).toNat]? = some (iP d) := rfl
      have hE2 : ∃ ys, rdAll rdM1 (bs.drop (k + 1)) = some ys ∧ (l ++ [(a, c, d)]) ++ ys = L := by
        cases h : rdAll rdM1 (bs.drop (k + 1)) with
        | none => rw [h] at hE; cases hE
        | some ys =>
          rw [h] at hE
          injection hE with hE
          exact ⟨ys, rfl, by rw [← hxs, ← hE]; simp⟩
      have hfin : ∀ s' : St, Weak s' (F (k + 1, l ++ [(a, c, d)])) → ∃ y' : Nat × List E3, (y'.1 ≤ bs.length ∧ y'.2.length = y'.1 ∧ ∃ xs, rdAll rdM1 (bs.drop y'.1) = some xs ∧ y'.2 ++ xs = L) ∧ Weak s' (F y') ∧ bs.length - y'.1 < bs.length - k := fun s' h => ⟨(k + 1, l ++ [(a, c, d)]), ⟨by dsimp only; omega, by simp; omega, hE2⟩, h, by dsimp only; omega⟩
      have happ : edges (l ++ [(a, c, d)]) = edges l ++ [edgeP (a, c, d)] := by unfold edges; simp
      rw [hF1 _ _ (by simp), happ] at hfin
      clear hE hE2 e1 e2 happ
      by_cases hll : l = []
      · subst hll
        rw [hF0]
        clear hF0 hF1
        repeat' (first|(with_reducible first|refine aw_seq ?_|refine thn_normal ?_|refine thn_ret ?_|refine thn_exit ?_|refine blk_normal ?_|refine blk_ret ?_|refine blk_hit ?_|refine blk_miss rfl ?_|refine aw_block ?_|refine aw_ret ?_|refine aw_skip ?_|refine aw_exit ?_|refine w_nil ?_|refine x_nil (by kernel_rfl) ?_)|refine aw_region ?_|refine aw_region_draw (by kernel_rfl) ?_|refine aw_yes rfl ?_|refine aw_no rfl ?_|((with_reducible refine w_seq ?_); first|refine r_q tbOk rfl rfl rfl rfl ?_|refine r_e tbOk rfl rfl rfl rfl rfl ?_|refine r_yes tbOk rfl rfl rfl rfl rfl rfl ?_|refine w_no rfl rfl (lookO_spec rfl) rfl rfl rfl ?_|refine w_un rfl rfl (lookO_spec rfl) rfl rfl ?_)|((with_reducible refine w_drw ?_); first|refine rx_q tbOk rfl rfl rfl rfl ?_|refine rx_e tbOk rfl rfl rfl rfl rfl ?_|refine rx_yes tbOk rfl rfl rfl rfl rfl rfl ?_|refine x_no rfl rfl (lookO_spec rfl) rfl rfl rfl ?_|refine x_un rfl rfl (lookO_spec rfl) rfl rfl ?_)|((first|refine' w_q rfl rfl ?xa rfl ?_|refine' v_q rfl rfl ?xa rfl ?_|refine' w_yes rfl rfl (lookO_spec rfl) rfl ?xa rfl ?_|refine' v_yes rfl rfl (lookO_spec rfl) rfl ?xa rfl ?_); case xa => first|exact k_index tbOk rfl rfl rfl rfl (by omega) (by first|exact hx|exact hx0|exact hx1|exact hx2)|exact k_call KN rfl ⟨asA_r (evO_spec rfl), asA_r (evO_spec rfl), asA_r (evO_spec rfl), trivial⟩)|((first|refine' w_e rfl ?xa ?xb ?xc ?xe ?_|refine' v_e rfl ?xa ?xb ?xc ?xe ?_); (case xa => first|exact e_build [.tmp 36] tlOk rfl rfl rfl rfl rfl rfl (allN_one rfl) (by simp)|exact at_dst 38 rfl (e_append_nil tlOk rfl rfl rfl rfl rfl (slD_plain (slD_own (lookHO_spec rfl) rfl) (edge1_plain _ _ _)) (by simp) (by simp [maxLen]) (by simp))); (case xb => rfl); (case xc => rfl); (case xe => rfl); try dsimp only [P0.d, Res.d, List.map_cons, List.map_nil, List.set_cons_zero, List.set_cons_succ, Nat.reduceAdd])|((first|refine aw_ways rfl ?_ ?_|refine r_split rfl rfl rfl ?_ ?_) <;> intro hg_ <;> fail_if_success (exact Bool.noConfusion hg_)) <;> (try simp only [prn] at hg_) <;> (try first|contradiction|(exfalso; omega)))
        all_goals first
          | (refine hfin _ ?_
             (refine weak_ren [(103, 38)] rfl ?_ ?_ <;> repeat' (first|exact trivial|refine subR_cons rfl ?_ ?_|refine subHR_cons rfl ?_ ?_|rfl|(refine d_int ?_; (first|rfl|omega|(rw [IntWalk.i64_in _ (by omega)] <;> omega)|(simp; done)|(simp; omega)))|(refine d_bool ?_; (first|(simp_all; done)|(rw [Bool.eq_iff_iff]; simp_all; done)|(rw [Bool.eq_iff_iff]; simp_all; omega)|(rw [Bool.eq_iff_iff]; simp; omega)))|exact d_int hwk|exact ob_sl rfl rfl|exact var4 rfl rfl rfl (cown (by simp only [List.length_append, List.length_cons, List.length_nil, edges_len])))))
          | (exfalso; omega)
          | trace_state
      · rw [hF1 _ _ hll]
        clear hF0 hF1
        repeat' (first|(with_reducible first|refine aw_seq ?_|refine thn_normal ?_|refine thn_ret ?_|refine thn_exit ?_|refine blk_normal ?_|refine blk_ret ?_|refine blk_hit ?_|refine blk_miss rfl ?_|refine aw_block ?_|refine aw_ret ?_|refine aw_skip ?_|refine aw_exit ?_|refine w_nil ?_|refine x_nil (by kernel_rfl) ?_)|refine aw_region ?_|refine aw_region_draw (by kernel_rfl) ?_|refine aw_yes rfl ?_|refine aw_no rfl ?_|((with_reducible refine w_seq ?_); first|refine r_q tbOk rfl rfl rfl rfl ?_|refine r_e tbOk rfl rfl rfl rfl rfl ?_|refine r_yes tbOk rfl rfl rfl rfl rfl rfl ?_|refine w_no rfl rfl (lookO_spec rfl) rfl rfl rfl ?_|refine w_un rfl rfl (lookO_spec rfl) rfl rfl ?_)|((with_reducible refine w_drw ?_); first|refine rx_q tbOk rfl rfl rfl rfl ?_|refine rx_e tbOk rfl rfl rfl rfl rfl ?_|refine rx_yes tbOk rfl rfl rfl rfl rfl rfl ?_|refine x_no rfl rfl (lookO_spec rfl) rfl rfl rfl ?_|refine x_un rfl rfl (lookO_spec rfl) rfl rfl ?_)|((first|refine' w_q rfl rfl ?xa rfl ?_|refine' v_q rfl rfl ?xa rfl ?_|refine' w_yes rfl rfl (lookO_spec rfl) rfl ?xa rfl ?_|refine' v_yes rfl rfl (lookO_spec rfl) rfl ?xa rfl ?_); case xa => first|exact k_index tbOk rfl rfl rfl rfl (by omega) (by first|exact hx|exact hx0|exact hx1|exact hx2)|exact k_call KN rfl ⟨asA_r (evO_spec rfl), asA_r (evO_spec rfl), asA_r (evO_spec rfl), trivial⟩)|((first|refine' w_e rfl ?xa ?xb ?xc ?xe ?_|refine' v_e rfl ?xa ?xb ?xc ?xe ?_); (case xa => first|exact e_build [.tmp 36] tlOk rfl rfl rfl rfl rfl rfl (allN_one rfl) (by simp)|exact at_dst 38 rfl (e_append tlOk rfl rfl rfl rfl rfl rfl (slD_plain (slD_own (lookHO_spec rfl) rfl) (edge1_plain _ _ _)) hmi (by simp only [maxLen, List.length_cons, List.length_nil]; omega) (by simp only [List.length_cons, List.length_nil]; omega))); (case xb => rfl); (case xc => rfl); (case xe => rfl); try dsimp only [P0.d, Res.d, List.map_cons, List.map_nil, List.set_cons_zero, List.set_cons_succ, Nat.reduceAdd])|((first|refine aw_ways rfl ?_ ?_|refine r_split rfl rfl rfl ?_ ?_) <;> intro hg_ <;> fail_if_success (exact Bool.noConfusion hg_)) <;> (try simp only [prn] at hg_) <;> (try first|contradiction|(exfalso; omega)))
        all_goals first
          | (refine hfin _ ?_
             (refine weak_ren [(103, 38)] rfl ?_ ?_ <;> repeat' (first|exact trivial|refine subR_cons rfl ?_ ?_|refine subHR_cons rfl ?_ ?_|rfl|(refine d_int ?_; (first|rfl|omega|(rw [IntWalk.i64_in _ (by omega)] <;> omega)|(simp; done)|(simp; omega)))|(refine d_bool ?_; (first|(simp_all; done)|(rw [Bool.eq_iff_iff]; simp_all; done)|(rw [Bool.eq_iff_iff]; simp_all; omega)|(rw [Bool.eq_iff_iff]; simp; omega)))|exact d_int hwk|exact ob_sl rfl rfl|exact var4 rfl rfl rfl (cown (by simp only [List.length_append, List.length_cons, List.length_nil, edges_len])))))
          | (exfalso; omega)
          | trace_state
  · rw [List.drop_of_length_le (by omega), rdAll] at hE
    injection hE with hE
    rw [← hE, List.append_nil] at hxs
    subst hxs
    rw [hF1 _ _ hLn]
    clear hF0 hF1
    repeat' (first|(with_reducible first|refine aw_seq ?_|refine thn_normal ?_|refine thn_ret ?_|refine thn_exit ?_|refine blk_normal ?_|refine blk_ret ?_|refine blk_hit ?_|refine blk_miss rfl ?_|refine aw_block ?_|refine aw_ret ?_|refine aw_skip ?_|refine aw_exit ?_|refine w_nil ?_|refine x_nil (by kernel_rfl) ?_)|refine aw_region ?_|refine aw_region_draw (by kernel_rfl) ?_|refine aw_yes rfl ?_|refine aw_no rfl ?_|((with_reducible refine w_seq ?_); first|refine r_q tbOk rfl rfl rfl rfl ?_|refine r_e tbOk rfl rfl rfl rfl rfl ?_|refine r_yes tbOk rfl rfl rfl rfl rfl rfl ?_|refine w_no rfl rfl (lookO_spec rfl) rfl rfl rfl ?_|refine w_un rfl rfl (lookO_spec rfl) rfl rfl ?_)|((with_reducible refine w_drw ?_); first|refine rx_q tbOk rfl rfl rfl rfl ?_|refine rx_e tbOk rfl rfl rfl rfl rfl ?_|refine rx_yes tbOk rfl rfl rfl rfl rfl rfl ?_|refine x_no rfl rfl (lookO_spec rfl) rfl rfl rfl ?_|refine x_un rfl rfl (lookO_spec rfl) rfl rfl ?_)|((first|refine aw_ways rfl ?_ ?_|refine r_split rfl rfl rfl ?_ ?_) <;> intro hg_ <;> fail_if_success (exact Bool.noConfusion hg_)) <;> (try simp only [prn] at hg_) <;> (try first|contradiction|(exfalso; omega)))
    all_goals first
     |exact ret_D [(2000001, 103)] rfl (by (repeat' (first|exact trivial|refine subHR_cons rfl ?_ ?_|rfl))) (retD_bool rfl rfl rfl)
      | (exfalso; omega)
      | trace_state
set_option maxRecDepth 100000 in
set_option maxHeartbeats 4000000 in
theorem f_readMsNilO (nil : Bool) (r : Int) (vs : List Int) (gs : List Bool) :
    FnS Try.prog 90 [.one (.ptr 1000000000 0 0 0), .one (.r false (row nil 1 (rowsI [])))] [(1000000000, .var 28 [.r true (int r), .own 1000000001 0 vs.length 1, .own 1000000002 0 gs.length 1, Zc]), (1000000001, .sl 3 1 true (ints vs)), (1000000002, .sl 4 1 true (bools gs))] (.one (.r true (bool true))) [(1000000000, .var 28 [.r true (int r), .own 1000000001 0 vs.length 1, .own 1000000002 0 gs.length 1, Zc]), (1000000001, .sl 3 1 true (ints vs)), (1000000002, .sl 4 1 true (bools gs))] := by
  have hlen : (rowsI []).length = 0 := rfl
  refine fnS_of (l := [.tmp 4]) Try.func90 (by kernel_rfl) rfl Try.ntmps90 rfl rfl ?_; simp only [dEnv, Nat.reduceAdd]
  repeat' (first|(with_reducible first|refine aw_seq ?_|refine thn_normal ?_|refine thn_ret ?_|refine thn_exit ?_|refine blk_normal ?_|refine blk_ret ?_|refine blk_hit ?_|refine blk_miss rfl ?_|refine aw_block ?_|refine aw_ret ?_|refine aw_skip ?_|refine aw_exit ?_|refine w_nil ?_|refine x_nil (by kernel_rfl) ?_)|refine aw_region ?_|refine aw_region_draw (by kernel_rfl) ?_|refine aw_yes rfl ?_|refine aw_no rfl ?_|((with_reducible refine w_seq ?_); first|refine r_q tbOk rfl rfl rfl rfl ?_|refine r_e tbOk rfl rfl rfl rfl rfl ?_|refine r_yes tbOk rfl rfl rfl rfl rfl rfl ?_|refine w_no rfl rfl (lookO_spec rfl) rfl rfl rfl ?_|refine w_un rfl rfl (lookO_spec rfl) rfl rfl ?_)|((with_reducible refine w_drw ?_); first|refine rx_q tbOk rfl rfl rfl rfl ?_|refine rx_e tbOk rfl rfl rfl rfl rfl ?_|refine rx_yes tbOk rfl rfl rfl rfl rfl rfl ?_|refine x_no rfl rfl (lookO_spec rfl) rfl rfl rfl ?_|refine x_un rfl rfl (lookO_spec rfl) rfl rfl ?_)|((first|refine aw_ways rfl ?_ ?_|refine r_split rfl rfl rfl ?_ ?_) <;> intro hg_ <;> fail_if_success (exact Bool.noConfusion hg_)) <;> (try simp only [prn] at hg_) <;> (try first|contradiction|(exfalso; omega)))
  refine aw_loopI (fun y : Nat => y = 0) (fun y => mkS 42 [(11, .one (.r true (int (y : Int)))), (10, .one (.r true (int 0))), (9, .one (.r false (row nil 1 (rowsI [])))), (0, .one (.ptr 1000000000 0 0 0))] [(1000000000, .var 28 [.r true (int r), .own 1000000001 0 vs.length 1, .own 1000000002 0 gs.length 1, Zc]), (1000000001, .sl 3 1 true (ints vs)), (1000000002, .sl 4 1 true (bools gs))]) (fun y => y) 0 rfl (by (refine weak_ren [] rfl ?_ ?_ <;> repeat' (first|exact trivial|refine subR_cons rfl ?_ ?_|refine subHR_cons rfl ?_ ?_|rfl|(refine d_int ?_; (first|rfl|omega|(rw [IntWalk.i64_in _ (by omega)] <;> omega)|(simp; done)|(simp; omega)))|(refine d_bool ?_; (first|(simp_all; done)|(rw [Bool.eq_iff_iff]; simp_all; done)|(rw [Bool.eq_iff_iff]; simp_all; omega)|(rw [Bool.eq_iff_iff]; simp; omega)))))) ?_
  rintro y rfl
  repeat' (first|(with_reducible first|refine aw_seq ?_|refine thn_normal ?_|refine thn_ret ?_|refine thn_exit ?_|refine blk_normal ?_|refine blk_ret ?_|refine blk_hit ?_|refine blk_miss rfl ?_|refine aw_block ?_|refine aw_ret ?_|refine aw_skip ?_|refine aw_exit ?_|refine w_nil ?_|refine x_nil (by kernel_rfl) ?_)|refine aw_region ?_|refine aw_region_draw (by kernel_rfl) ?_|refine aw_yes rfl ?_|refine aw_no rfl ?_|((with_reducible refine w_seq ?_); first|refine r_q tbOk rfl rfl rfl rfl ?_|refine r_e tbOk rfl rfl rfl rfl rfl ?_|refine r_yes tbOk rfl rfl rfl rfl rfl rfl ?_|refine w_no rfl rfl (lookO_spec rfl) rfl rfl rfl ?_|refine w_un rfl rfl (lookO_spec rfl) rfl rfl ?_)|((with_reducible refine w_drw ?_); first|refine rx_q tbOk rfl rfl rfl rfl ?_|refine rx_e tbOk rfl rfl rfl rfl rfl ?_|refine rx_yes tbOk rfl rfl rfl rfl rfl rfl ?_|refine x_no rfl rfl (lookO_spec rfl) rfl rfl rfl ?_|refine x_un rfl rfl (lookO_spec rfl) rfl rfl ?_)|((first|refine aw_ways rfl ?_ ?_|refine r_split rfl rfl rfl ?_ ?_) <;> intro hg_ <;> fail_if_success (exact Bool.noConfusion hg_)) <;> (try simp only [prn] at hg_) <;> (try first|contradiction|(exfalso; omega)))
  all_goals first
   |exact ret_D [] rfl (by (repeat' (first|exact trivial|refine subHR_cons rfl ?_ ?_|rfl))) (retD_bool rfl rfl rfl)
    | (exfalso; omega)
    | trace_state
end Go.Proofs.Ytmkecjamfippfaa.Abs
set_option linter.unusedSimpArgs false
set_option linter.unusedVariables false
namespace Go.Proofs.Ytmkecjamfippfaa.Abs
open Go.RowKit
open R (val row ref)

theorem rdAll_len {α : Type} {f : List Int → Option α} : ∀ {bs : List (List Int)} {xs : List α}, rdAll f bs = some xs → xs.length = bs.length
  | [], xs, h => by rw [rdAll] at h; injection h with h; rw [← h]; rfl
  | b :: bs, xs, h => by
    rw [rdAll] at h
    cases hb : f b with
    | none => rw [hb] at h; cases h
    | some x =>
      rw [hb] at h
      cases hr : rdAll f bs with
      | none => rw [hr] at h; cases h
      | some ys =>
        rw [hr] at h
        injection h with h
        rw [← h, List.length_cons, List.length_cons, rdAll_len hr]
theorem b01_enc {g : Int} (h0 : 0 ≤ g) (h1 : g ≤ 1) : enc g = [b01 (g == 1)] := by
  rw [enc_last h0 (by omega)]
  unfold b01
  by_cases h : g = 1
  · subst h; rfl
  · have : g = 0 := by omega
    subst this; rfl
theorem rdV1_rcV {b : List Int} {v : Int} {g : Bool} (h : rdV1 b = some (v, g)) : b = rcV v g := by
  unfold rdV1 at h
  rcases hn : nbF 2 2 b with ⟨o, q⟩
  rw [hn] at h
  cases o with
  | none => cases h
  | some ns =>
    match ns, nbF_len hn with
    | [a, c], _ =>
      cases q
      · cases h
      · dsimp only at h
        obtain ⟨e1, e2, e3⟩ := nbF_yes hn
        split at h
        · rename_i hc
          injection h with h
          injection h with h1 h2
          rw [e1, ← h1, ← h2]
          unfold rcV
          rw [show a - 1 + 1 = a by omega]
          have := (e3 c (by simp)).1
          simp [b01_enc this hc]
        · cases h
theorem rcV_rdV1 {v : Int} {g : Bool} (h0 : -1 ≤ v) (h1 : v ≤ 999999) : rdV1 (rcV v g) = some (v, g) := by
  have hg : 0 ≤ b01 g ∧ b01 g ≤ 1 := by unfold b01; split <;> omega
  have e : rcV v g = 2 :: [v + 1, b01 g].flatMap enc := by
    unfold rcV
    have := b01_enc hg.1 hg.2
    have h2 : b01 (b01 g == 1) = b01 g := by cases g <;> rfl
    simp [this, h2]
  have hN := nbF_enc (tag := 2) (ns := [v + 1, b01 g]) (by omega) (by simp) (fun n hn => by
    simp only [List.mem_cons, List.not_mem_nil, or_false] at hn
    rcases hn with rfl | rfl <;> omega)
  unfold rdV1
  rw [e]
  rw [show [v + 1, b01 g].length = 2 from rfl] at hN
  rw [hN]
  dsimp only
  rw [if_pos hg.2, show v + 1 - 1 = v by omega]
  cases g <;> rfl
theorem rdM1_rcM {b : List Int} {e : E3} (h : rdM1 b = some e) : b = rcM e := by
  unfold rdM1 at h
  rcases hn : nbF 3 3 b with ⟨o, q⟩
  rw [hn] at h
  cases o with
  | none => cases h
  | some ns =>
    match ns, nbF_len hn with
    | [a, c, d], _ =>
      cases q
      · cases h
      · dsimp only at h
        obtain ⟨e1, e2, e3⟩ := nbF_yes hn
        injection h with h
        rw [e1, ← h]
        unfold rcM edgeB
        have h1 := e3 a (by simp)
        have h2 := e3 c (by simp)
        have h3 := e3 d (by simp)
        rw [if_pos (by simp [fits, h1, h2, h3])]
        simp
theorem rcM_rdM1 {m : E3} (h1 : 0 ≤ m.1 ∧ m.1 ≤ 1000000) (h2 : 0 ≤ m.2.1 ∧ m.2.1 ≤ 1000000) (h3 : 0 ≤ m.2.2 ∧ m.2.2 ≤ 1000000) : rdM1 (rcM m) = some m := by
  obtain ⟨a, c, d⟩ := m
  dsimp only at h1 h2 h3
  have e : rcM (a, c, d) = 3 :: [a, c, d].flatMap enc := by
    unfold rcM edgeB
    rw [if_pos (by simp [fits, h1, h2, h3])]
    simp
  have hN := nbF_enc (tag := 3) (ns := [a, c, d]) (by omega) (by simp) (fun n hn => by
    simp only [List.mem_cons, List.not_mem_nil, or_false] at hn
    rcases hn with rfl | rfl | rfl <;> omega)
  unfold rdM1
  rw [e]
  rw [show [a, c, d].length = 3 from rfl] at hN
  rw [hN]
theorem rdAllV_eq : ∀ {bs : List (List Int)} {L : List (Int × Bool)}, rdAll rdV1 bs = some L → bs = List.zipWith rcV (vsOf L) (gsOf L)
  | [], L, h => by rw [rdAll] at h; injection h with h; rw [← h]; rfl
  | b :: bs, L, h => by
    rw [rdAll] at h
    cases hb : rdV1 b with
    | none => rw [hb] at h; cases h
    | some x =>
      rw [hb] at h
      cases hr : rdAll rdV1 bs with
      | none => rw [hr] at h; cases h
      | some ys =>
        rw [hr] at h
        injection h with h
        obtain ⟨v, g⟩ := x
        rw [← h, rdV1_rcV hb]
        unfold vsOf gsOf
        rw [List.map_cons, List.map_cons, List.zipWith_cons_cons]
        congr 1
        exact rdAllV_eq hr
theorem rdAllM_eq : ∀ {bs : List (List Int)} {L : List E3}, rdAll rdM1 bs = some L → bs = L.map rcM
  | [], L, h => by rw [rdAll] at h; injection h with h; rw [← h]; rfl
  | b :: bs, L, h => by
    rw [rdAll] at h
    cases hb : rdM1 b with
    | none => rw [hb] at h; cases h
    | some x =>
      rw [hb] at h
      cases hr : rdAll rdM1 bs with
      | none => rw [hr] at h; cases h
      | some ys =>
        rw [hr] at h
        injection h with h
        rw [← h, rdM1_rcM hb, List.map_cons]
        congr 1
        exact rdAllM_eq hr
theorem rdAllV_yes : ∀ {vs : List Int} {gs : List Bool}, gs.length = vs.length → (∀ v ∈ vs, -1 ≤ v ∧ v ≤ 999999) → rdAll rdV1 (List.zipWith rcV vs gs) = some (vs.zip gs)
  | [], gs, _, _ => by simp [rdAll]
  | v :: vs, [], h, _ => by simp at h
  | v :: vs, g :: gs, h, hv => by
    have h0 := hv v (List.mem_cons_self ..)
    rw [List.zipWith_cons_cons, rdAll, rcV_rdV1 h0.1 h0.2, rdAllV_yes (by simpa using h) (fun z hz => hv z (List.mem_cons_of_mem _ hz))]
    rfl
theorem rdAllM_yes : ∀ {ms : List E3}, (∀ m ∈ ms, (0 ≤ m.1 ∧ m.1 ≤ 1000000) ∧ (0 ≤ m.2.1 ∧ m.2.1 ≤ 1000000) ∧ (0 ≤ m.2.2 ∧ m.2.2 ≤ 1000000)) → rdAll rdM1 (ms.map rcM) = some ms
  | [], _ => rfl
  | m :: ms, h => by
    have h0 := h m (List.mem_cons_self ..)
    rw [List.map_cons, rdAll, rcM_rdM1 h0.1 h0.2.1 h0.2.2, rdAllM_yes (fun z hz => h z (List.mem_cons_of_mem _ hz))]
theorem nbF_end : nbF 4 0 [4] = (some [], true) := nbF_enc (tag := 4) (ns := []) (by omega) (by simp) (fun n hn => absurd hn (by simp))
structure CkI (D : List (List Int)) (r : Int) (m w : Nat) (L : List (Int × Bool)) (M : List E3) : Prop where
  head : ∃ b, D[0]? = some b ∧ nbF 1 3 b = (some [r, (m : Int), (w : Int)], true)
  len : m + w + 2 ≤ D.length
  vals : rdAll rdV1 ((D.drop 1).take m) = some L
  msgs : rdAll rdM1 ((D.drop (1 + m)).take w) = some M
  fin : ∃ b, D[1 + m + w]? = some b ∧ nbF 4 0 b = (some [], true)
theorem Ck.ckI {D : List (List Int)} {s : Sta} (h : Ck D s) : CkI D s.r s.vs.length s.ms.length (s.vs.zip s.gs) s.ms := by
  have hF := Sta.okF h.1
  have hgl := hF.gl
  have h1 := hF.many
  have h2 := hF.ml
  have h3 := hF.r0
  have h4 := hF.r1
  have hz : (List.zipWith rcV s.vs s.gs).length = s.vs.length := by simp; omega
  obtain ⟨t, ht⟩ := h.2
  refine ⟨⟨rcH s, h.get rfl, ?_⟩, by have := h.len; omega, ?_, ?_, ⟨[4], h.get ?_, nbF_end⟩⟩
  · have e : rcH s = 1 :: [s.r, (s.vs.length : Int), (s.ms.length : Int)].flatMap enc := by unfold rcH; simp
    rw [e]
    exact nbF_enc (tag := 1) (ns := [s.r, (s.vs.length : Int), (s.ms.length : Int)]) (by omega) (by simp) (fun n hn => by
      simp only [List.mem_cons, List.not_mem_nil, or_false] at hn
      rcases hn with rfl | rfl | rfl <;> omega)
  · rw [← ht]
    unfold ckB
    rw [List.cons_append, List.drop_one, List.tail_cons, List.append_assoc, List.take_left' hz]
    exact rdAllV_yes hgl hF.vin
  · rw [← ht]
    unfold ckB
    rw [List.cons_append, Nat.add_comm 1, List.drop_succ_cons, List.append_assoc, List.drop_left' hz, List.append_assoc, List.take_left' (by simp)]
    exact rdAllM_yes fun m hm => by have := hF.min m hm; omega
  · unfold ckB
    rw [show 1 + s.vs.length + s.ms.length = (s.vs.length + s.ms.length) + 1 by omega, List.getElem?_cons_succ, List.getElem?_append_right (by omega), hz, List.getElem?_append_right (by simp)]
    simp
theorem CkI.ck {D : List (List Int)} {r : Int} {m w : Nat} {L : List (Int × Bool)} {M : List E3} (h : CkI D r m w L M) (hok : Sta.ok ⟨r, vsOf L, gsOf L, M⟩ = true) : Ck D ⟨r, vsOf L, gsOf L, M⟩ := by
  obtain ⟨⟨b, hb1, hb2⟩, hl, hv, hm, ⟨c, hc1, hc2⟩⟩ := h
  have lv := rdAll_len hv
  have lm := rdAll_len hm
  have ev := rdAllV_eq hv
  have em := rdAllM_eq hm
  have eb := (nbF_yes hb2).1
  have ec := (nbF_yes hc2).1
  rw [List.length_take, List.length_drop] at lv lm
  have hLm : L.length = m := by omega
  have hMw : M.length = w := by omega
  refine ⟨hok, ?_⟩
  have eH : rcH ⟨r, vsOf L, gsOf L, M⟩ = b := by
    rw [eb]
    unfold rcH
    dsimp only
    rw [vsOf_len, hLm, hMw]
    simp
  unfold ckB
  rw [eH]
  dsimp only
  rw [← ev, ← em]
  have ec' : c = [4] := by rw [ec]; rfl
  subst ec'
  refine ⟨D.drop (1 + m + w + 1), ?_⟩
  have hD0 : D = b :: D.drop 1 := by
    cases D with
    | nil => cases hb1
    | cons x D => simp only [List.getElem?_cons_zero, Option.some.injEq] at hb1; rw [hb1]; rfl
  have hDv : D.drop 1 = (D.drop 1).take m ++ D.drop (1 + m) := by
    conv => lhs; rw [← List.take_append_drop m (D.drop 1), List.drop_drop]
  have hDm : D.drop (1 + m) = (D.drop (1 + m)).take w ++ D.drop (1 + m + w) := by
    conv => lhs; rw [← List.take_append_drop w (D.drop (1 + m)), List.drop_drop]
  have hDe : D.drop (1 + m + w) = [4] :: D.drop (1 + m + w + 1) := by
    have hlt : 1 + m + w < D.length := by omega
    rw [List.drop_eq_getElem_cons hlt]
    rw [List.getElem?_eq_getElem hlt] at hc1
    injection hc1 with hc1
    rw [hc1]
  conv => rhs; rw [hD0, hDv, hDm, hDe]
  simp
end Go.Proofs.Ytmkecjamfippfaa.Abs
