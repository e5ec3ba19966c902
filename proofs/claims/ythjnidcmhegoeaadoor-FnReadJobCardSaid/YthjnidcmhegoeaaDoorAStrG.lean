/- Texts of jobs by states: the reference's writer of texts. No statement of the seat is proved here. -/
import Derived.Laws.IdiomStrings
import Derived.Test.YthjnidcmhegoeaaDoorTy
import Derived.Lib.Hide
import Derived.Test.YthjnidcmhegoeaaDoorAStrE
set_option linter.unusedSimpArgs false
set_option linter.unusedVariables false
namespace Go.Proofs.YthjnidcmhegoeaaDoor.Abs
open Go.RowKit
open R (val row ref)

open Go.Lib (decDigits decDigits_one hasPrefix)
/-- Bytes as cells. -/
def bytP (p : List UInt8) : List P0 := p.map fun b => byP b.toNat
section
variable {P : Program} {l : List (Nat × D)} {h : List (Nat × Ob)} {o : Oper} {m m' new : Bool} {p : List UInt8} {src dst e E : TypeId} {x : Operand} {k n : Nat}
/-- 'string(b)' of a row of the call's own. -/
theorem k_strOf (hp : 0 < p.length) (hs : P.underlying src = some (.slice e)) (he' : P.underlying e = some (.int .u8)) (hd : P.underlying dst = some .string) (ho : o.op = .convert src dst x) (hx : evO l x = some (.one (.own k 0 n 1))) (hk : lookHO h k = some (.sl E 1 new (bytP p))) (hn : n = p.length) : Loc P (lookH h) (evD (look l)) o (.one (.r true (val (strV p)))) :=
  loc_run fun base a w ι own hw he hH => by
    have h1 : (evD (look l) x).p ι base ⟨w, own⟩ (a.eval x) := he x (by rw [ho]; simp [Op.operands])
    rw [evO_spec hx] at h1
    obtain ⟨oo, cap, arr, E', hv, hoo, hnc, hcm, hb, hsz⟩ := h1
    have hoo' : oo = (ι k).2 := by rcases hoo with h | h <;> omega
    obtain ⟨hown, arr2, g1, g2, g3⟩ := hH k _ (lookHO_spec hk)
    refine ⟨.string ⟨p.toArray⟩, ?_, rfl, rfl⟩
    unfold execOp
    rw [ho]
    simp only [hv, hn]
    have hr := run_convert_bytes_back (P := P) (dst := dst) w src e ⟨(ι k).1, oo, none⟩ cap p hs he' hd (fun j hj => by
      have hj' : (bytP p)[j]? = some (byP p[j].toNat) := by unfold bytP; rw [List.getElem?_map, List.getElem?_eq_getElem hj]; rfl
      obtain ⟨p1, p2⟩ := g3 j _ hj'
      obtain ⟨u, hu, hr⟩ := p2 0 _ rfl
      have hr' := ((val_p (c := Cx.young ⟨w, own⟩ base new)).1 hr).1
      subst hr'
      rw [Addr.add_lit, cell_of_arr g1, hoo', ← hu]
      congr 1
      omega)
    simp only [Sem.run_bind, hr, Result.andThen_ok, Sem.run_pure]
end
theorem u_bys : Tryd.prog.underlying 32 = some (.slice 5) := by kernel_rfl
theorem dres_strE {H : Nat → Option Ob} {m : Bool} {p q : List UInt8} (h : p = q) : DRes H (.one (.r m (val (strV p)))) (strP q) := by subst h; exact dres_one cres_val
theorem d_str {m : Bool} {p q : List UInt8} (h : p = q) : D.one (.r m (val (strV p))) = .one (.r m (val (strV q))) := by rw [h]
/-! ### numbers -/
theorem dig_step {n : Nat} (h : 9 < n) : decDigits n = decDigits (n / 10) ++ [UInt8.ofNat (48 + n % 10)] := by rw [decDigits, dif_neg (by omega)]
theorem dig_bd {n : Nat} (h : n ≤ 100000) : (decDigits n).length ≤ 8 := by have := dig_len (u := n) (by omega); omega
set_option maxRecDepth 100000 in
set_option maxHeartbeats 4000000 in
theorem f_l24Number (n : Nat) (hn : n ≤ 100000) : Fn Tryd.prog 41 [iP (n : Int)] (.v (strP (decDigits n))) := by
  have conv : ∀ m : Nat, IntKind.u8.wrap (IntKind.i64.wrap (48 + (m : Int).tmod 10)) = ((UInt8.ofNat (48 + m % 10)).toNat : Int) := fun m => by
    rw [dg_toNat (by omega), Int.tmod_eq_emod_of_nonneg (by omega), IntWalk.i64_in _ (by omega)]
    unfold IntKind.wrap; simp [IntKind.bits, IntKind.signed]; omega
  refine fn_of (l := [.tmp 2]) Tryd.func41 (by kernel_rfl) rfl Tryd.ntmps41 rfl rfl ?_; simp only [argEnv, P0.d, Nat.reduceAdd]
  have c0 := conv n
  have hb0 : ∀ z : Int, z = ((UInt8.ofNat (48 + n % 10)).toNat : Int) → [P0.one (val (.int .u8 z))] = bytP [UInt8.ofNat (48 + n % 10)] := fun z hz => by rw [hz]; rfl
  have hb0' := hb0 _ c0
  repeat' (first | (with_reducible first | refine aw_seq ?_ | refine thn_normal ?_ | refine thn_ret ?_ | refine thn_exit ?_ | refine blk_normal ?_ | refine blk_ret ?_ | refine blk_hit ?_ | refine blk_miss rfl ?_ | refine aw_block ?_ | refine aw_ret ?_ | refine aw_skip ?_ | refine aw_exit ?_ | refine w_nil ?_ | refine x_nil (by kernel_rfl) ?_) | refine aw_region ?_ | refine aw_region_draw (by kernel_rfl) ?_ | refine aw_yes rfl ?_ | refine aw_no rfl ?_ | ((with_reducible refine w_seq ?_); first | refine r_q tbOk rfl rfl rfl rfl ?_ | refine r_e tbOk rfl rfl rfl rfl rfl ?_ | refine r_yes tbOk rfl rfl rfl rfl rfl rfl ?_ | refine w_no rfl rfl (lookO_spec rfl) rfl rfl rfl ?_ | refine w_un rfl rfl (lookO_spec rfl) rfl rfl ?_) | ((with_reducible refine w_drw ?_); first | refine rx_q tbOk rfl rfl rfl rfl ?_ | refine rx_e tbOk rfl rfl rfl rfl rfl ?_ | refine rx_yes tbOk rfl rfl rfl rfl rfl rfl ?_ | refine x_no rfl rfl (lookO_spec rfl) rfl rfl rfl ?_ | refine x_un rfl rfl (lookO_spec rfl) rfl rfl ?_) | ((first | refine' w_q rfl rfl ?xa rfl ?_ | refine' v_q rfl rfl ?xa rfl ?_ | refine' w_yes rfl rfl (lookO_spec rfl) rfl ?xa rfl ?_ | refine' v_yes rfl rfl (lookO_spec rfl) rfl ?xa rfl ?_); case xa => first | exact k_rem rfl rfl rfl (by decide) | exact k_conv u_i64 u_u8 rfl rfl | exact k_strOf (p := [UInt8.ofNat (48 + n % 10)]) (Nat.succ_pos 0) u_bys u_u8 u_str rfl rfl (by rw [← hb0']; rfl) rfl) | ((first | refine' w_e rfl ?xa ?xb ?xc ?xe ?_ | refine' v_e rfl ?xa ?xb ?xc ?xe ?_); (case xa => exact e_build [.tmp 7] tlOk rfl rfl rfl rfl rfl rfl (allN_one rfl) (by simp)); (case xb => rfl); (case xc => rfl); (case xe => rfl); try dsimp only [P0.d, Res.d, List.map_cons, List.map_nil, List.set_cons_zero, List.set_cons_succ, Nat.reduceAdd]) | ((first | refine aw_ways rfl ?_ ?_ | refine r_split rfl rfl rfl ?_ ?_) <;> intro hg_ <;> fail_if_success (exact Bool.noConfusion hg_)) <;> (try simp only [prn] at hg_) <;> (try first | contradiction | (exfalso; omega)))
  obtain ⟨F, hF⟩ : ∃ F : Nat × List UInt8 → St, ∀ x, F x = mkS 23 [(3, .one (.r true (val (strV x.2)))), (0, .one (.r true (int (x.1 : Int))))] [] := ⟨_, fun _ => rfl⟩
  obtain ⟨F0, hF0, hF1⟩ : ∃ F0 : Option (Nat × List UInt8) → St, F0 none = mkS 23 [(3, .one (.r true (val (strV [UInt8.ofNat (48 + n % 10)])))), (0, .one (.r false (int (n : Int))))] [] ∧ ∀ x, F0 (some x) = F x := ⟨fun o => match o with | none => mkS 23 [(3, .one (.r true (val (strV [UInt8.ofNat (48 + n % 10)])))), (0, .one (.r false (int (n : Int))))] [] | some x => F x, rfl, fun _ => rfl⟩
  refine aw_loopI (fun o : Option (Nat × List UInt8) => ∀ x, o = some x → x.1 ≤ 100000 ∧ decDigits n = (if 9 < x.1 then decDigits (x.1 / 10) else []) ++ x.2) F0 (fun o => match o with | none => 10000000 | some x => x.1) none (fun x h => by cases h) (by rw [hF0]; (refine weak_ren [] rfl ?_ ?_ <;> repeat' (first | exact trivial | refine subR_cons rfl ?_ ?_ | refine subHR_cons rfl ?_ ?_ | rfl | (refine d_int ?_; (first | rfl | omega | (rw [IntWalk.i64_in _ (by omega)] <;> omega) | (simp; done) | (simp; omega))) | (refine d_bool ?_; (first | (simp_all; done) | (rw [Bool.eq_iff_iff]; simp_all; done) | (rw [Bool.eq_iff_iff]; simp_all; omega) | (rw [Bool.eq_iff_iff]; simp; omega)))))) ?_
  intro o ho
  have hdn := dig_bd hn
  cases o with
  | none =>
    rw [hF0]
    by_cases h9 : 9 < n
    · have hfin : ∀ s' : St, Weak s' (F0 (some (n / 10, [UInt8.ofNat (48 + (n / 10) % 10)] ++ [UInt8.ofNat (48 + n % 10)]))) → ∃ x' : Option (Nat × List UInt8), (∀ x, x' = some x → x.1 ≤ 100000 ∧ decDigits n = (if 9 < x.1 then decDigits (x.1 / 10) else []) ++ x.2) ∧ Weak s' (F0 x') ∧ (match x' with | none => 10000000 | some x => x.1) < 10000000 := fun s' h => ⟨some (n / 10, [UInt8.ofNat (48 + (n / 10) % 10)] ++ [UInt8.ofNat (48 + n % 10)]), fun x hx => by
          injection hx with hx; subst hx
          refine ⟨by dsimp only; omega, ?_⟩
          dsimp only
          rw [dig_step h9]
          by_cases h99 : 9 < n / 10
          · rw [if_pos h99, dig_step h99]; simp
          · rw [if_neg h99, decDigits_one (by omega), Nat.mod_eq_of_lt (show n / 10 < 10 by omega)]; simp, h, by dsimp only; omega⟩
      rw [hF1, hF] at hfin
      have hq : (n : Int).tdiv 10 = ((n / 10 : Nat) : Int) := by rw [Int.tdiv_eq_ediv_of_nonneg (by omega)]; omega
      have hq2 : IntKind.i64.wrap ((n / 10 : Nat) : Int) = ((n / 10 : Nat) : Int) := IntWalk.i64_in _ (by omega)
      have hq3 : IntKind.i64.wrap ((n : Int).tdiv 10) = ((n / 10 : Nat) : Int) := by rw [hq, hq2]
      have c1 := conv (n / 10)
      rw [← hq3] at c1
      have hb1 : [P0.one (val (.int .u8 (IntKind.u8.wrap (IntKind.i64.wrap (48 + (IntKind.i64.wrap ((n : Int).tdiv 10)).tmod 10)))))] = bytP [UInt8.ofNat (48 + (n / 10) % 10)] := by rw [c1]; rfl
      clear hF hF0 hF1 ho conv hb0 hb0' c0
      repeat' (first | (with_reducible first | refine aw_seq ?_ | refine thn_normal ?_ | refine thn_ret ?_ | refine thn_exit ?_ | refine blk_normal ?_ | refine blk_ret ?_ | refine blk_hit ?_ | refine blk_miss rfl ?_ | refine aw_block ?_ | refine aw_ret ?_ | refine aw_skip ?_ | refine aw_exit ?_ | refine w_nil ?_ | refine x_nil (by kernel_rfl) ?_) | refine aw_region ?_ | refine aw_region_draw (by kernel_rfl) ?_ | refine aw_yes rfl ?_ | refine aw_no rfl ?_ | ((with_reducible refine w_seq ?_); first | refine r_q tbOk rfl rfl rfl rfl ?_ | refine r_e tbOk rfl rfl rfl rfl rfl ?_ | refine r_yes tbOk rfl rfl rfl rfl rfl rfl ?_ | refine w_no rfl rfl (lookO_spec rfl) rfl rfl rfl ?_ | refine w_un rfl rfl (lookO_spec rfl) rfl rfl ?_) | ((with_reducible refine w_drw ?_); first | refine rx_q tbOk rfl rfl rfl rfl ?_ | refine rx_e tbOk rfl rfl rfl rfl rfl ?_ | refine rx_yes tbOk rfl rfl rfl rfl rfl rfl ?_ | refine x_no rfl rfl (lookO_spec rfl) rfl rfl rfl ?_ | refine x_un rfl rfl (lookO_spec rfl) rfl rfl ?_) | ((first | refine' w_q rfl rfl ?xa rfl ?_ | refine' v_q rfl rfl ?xa rfl ?_ | refine' w_yes rfl rfl (lookO_spec rfl) rfl ?xa rfl ?_ | refine' v_yes rfl rfl (lookO_spec rfl) rfl ?xa rfl ?_); case xa => first | exact k_rem rfl rfl rfl (by decide) | exact k_div rfl rfl rfl (by decide) | exact k_conv u_i64 u_u8 rfl rfl | exact k_strOf (p := [UInt8.ofNat (48 + (n / 10) % 10)]) (Nat.succ_pos 0) u_bys u_u8 u_str rfl rfl (by rw [← hb1]; rfl) rfl | exact k_strAdd rfl rfl rfl (by simp) (by simp)) | ((first | refine' w_e rfl ?xa ?xb ?xc ?xe ?_ | refine' v_e rfl ?xa ?xb ?xc ?xe ?_); (case xa => exact e_build [.tmp 17] tlOk rfl rfl rfl rfl rfl rfl (allN_one rfl) (by simp)); (case xb => rfl); (case xc => rfl); (case xe => rfl); try dsimp only [P0.d, Res.d, List.map_cons, List.map_nil, List.set_cons_zero, List.set_cons_succ, Nat.reduceAdd]) | ((first | refine aw_ways rfl ?_ ?_ | refine r_split rfl rfl rfl ?_ ?_) <;> intro hg_ <;> fail_if_success (exact Bool.noConfusion hg_)) <;> (try simp only [prn] at hg_) <;> (try first | contradiction | (exfalso; omega)))
      all_goals first
        | (exfalso; omega)
        | (refine hfin _ ?_
           (refine weak_ren [] rfl ?_ ?_ <;> repeat' (first | exact trivial | refine subR_cons rfl ?_ ?_ | refine subHR_cons rfl ?_ ?_ | rfl | (refine d_int ?_; (first | rfl | omega | (rw [IntWalk.i64_in _ (by omega)] <;> omega) | (simp; done) | (simp; omega))) | (refine d_bool ?_; (first | (simp_all; done) | (rw [Bool.eq_iff_iff]; simp_all; done) | (rw [Bool.eq_iff_iff]; simp_all; omega) | (rw [Bool.eq_iff_iff]; simp; omega))) | exact d_int hq3)))
        | trace_state
    · rw [decDigits_one (by omega)]
      have hm : n % 10 = n := by omega
      clear hF hF0 hF1 ho conv hb0 hb0' c0
      repeat' (first | (with_reducible first | refine aw_seq ?_ | refine thn_normal ?_ | refine thn_ret ?_ | refine thn_exit ?_ | refine blk_normal ?_ | refine blk_ret ?_ | refine blk_hit ?_ | refine blk_miss rfl ?_ | refine aw_block ?_ | refine aw_ret ?_ | refine aw_skip ?_ | refine aw_exit ?_ | refine w_nil ?_ | refine x_nil (by kernel_rfl) ?_) | refine aw_region ?_ | refine aw_region_draw (by kernel_rfl) ?_ | refine aw_yes rfl ?_ | refine aw_no rfl ?_ | ((with_reducible refine w_seq ?_); first | refine r_q tbOk rfl rfl rfl rfl ?_ | refine r_e tbOk rfl rfl rfl rfl rfl ?_ | refine r_yes tbOk rfl rfl rfl rfl rfl rfl ?_ | refine w_no rfl rfl (lookO_spec rfl) rfl rfl rfl ?_ | refine w_un rfl rfl (lookO_spec rfl) rfl rfl ?_) | ((with_reducible refine w_drw ?_); first | refine rx_q tbOk rfl rfl rfl rfl ?_ | refine rx_e tbOk rfl rfl rfl rfl rfl ?_ | refine rx_yes tbOk rfl rfl rfl rfl rfl rfl ?_ | refine x_no rfl rfl (lookO_spec rfl) rfl rfl rfl ?_ | refine x_un rfl rfl (lookO_spec rfl) rfl rfl ?_) | ((first | refine aw_ways rfl ?_ ?_ | refine r_split rfl rfl rfl ?_ ?_) <;> intro hg_ <;> fail_if_success (exact Bool.noConfusion hg_)) <;> (try simp only [prn] at hg_) <;> (try first | contradiction | (exfalso; omega)))
      all_goals first
        | (exfalso; omega)
        | exact ret_tmp rfl (dres_strE (by rw [hm]))
        | trace_state
  | some x =>
    obtain ⟨q, s⟩ := x
    obtain ⟨hq, hE⟩ := ho _ rfl
    dsimp only at hq hE
    rw [hF1, hF]
    dsimp only
    have hsl : s.length ≤ 8 := by have := congrArg List.length hE; rw [List.length_append] at this; omega
    by_cases h9 : 9 < q
    · rw [if_pos h9] at hE
      have hfin : ∀ s' : St, Weak s' (F0 (some (q / 10, [UInt8.ofNat (48 + (q / 10) % 10)] ++ s))) → ∃ x' : Option (Nat × List UInt8), (∀ x, x' = some x → x.1 ≤ 100000 ∧ decDigits n = (if 9 < x.1 then decDigits (x.1 / 10) else []) ++ x.2) ∧ Weak s' (F0 x') ∧ (match x' with | none => 10000000 | some x => x.1) < q := fun s' h => ⟨some (q / 10, [UInt8.ofNat (48 + (q / 10) % 10)] ++ s), fun x hx => by
          injection hx with hx; subst hx
          refine ⟨by dsimp only; omega, ?_⟩
          dsimp only
          rw [hE]
          by_cases h99 : 9 < q / 10
          · rw [if_pos h99, dig_step h99]; simp
          · rw [if_neg h99, decDigits_one (by omega), Nat.mod_eq_of_lt (show q / 10 < 10 by omega)]; simp, h, by dsimp only; omega⟩
      rw [hF1, hF] at hfin
      have hq3 : IntKind.i64.wrap ((q : Int).tdiv 10) = ((q / 10 : Nat) : Int) := by rw [Int.tdiv_eq_ediv_of_nonneg (by omega), IntWalk.i64_in _ (by omega)]; omega
      have c1 := conv (q / 10)
      rw [← hq3] at c1
      have hb1 : [P0.one (val (.int .u8 (IntKind.u8.wrap (IntKind.i64.wrap (48 + (IntKind.i64.wrap ((q : Int).tdiv 10)).tmod 10)))))] = bytP [UInt8.ofNat (48 + (q / 10) % 10)] := by rw [c1]; rfl
      clear hF hF0 hF1 ho conv hb0 hb0' c0
      repeat' (first | (with_reducible first | refine aw_seq ?_ | refine thn_normal ?_ | refine thn_ret ?_ | refine thn_exit ?_ | refine blk_normal ?_ | refine blk_ret ?_ | refine blk_hit ?_ | refine blk_miss rfl ?_ | refine aw_block ?_ | refine aw_ret ?_ | refine aw_skip ?_ | refine aw_exit ?_ | refine w_nil ?_ | refine x_nil (by kernel_rfl) ?_) | refine aw_region ?_ | refine aw_region_draw (by kernel_rfl) ?_ | refine aw_yes rfl ?_ | refine aw_no rfl ?_ | ((with_reducible refine w_seq ?_); first | refine r_q tbOk rfl rfl rfl rfl ?_ | refine r_e tbOk rfl rfl rfl rfl rfl ?_ | refine r_yes tbOk rfl rfl rfl rfl rfl rfl ?_ | refine w_no rfl rfl (lookO_spec rfl) rfl rfl rfl ?_ | refine w_un rfl rfl (lookO_spec rfl) rfl rfl ?_) | ((with_reducible refine w_drw ?_); first | refine rx_q tbOk rfl rfl rfl rfl ?_ | refine rx_e tbOk rfl rfl rfl rfl rfl ?_ | refine rx_yes tbOk rfl rfl rfl rfl rfl rfl ?_ | refine x_no rfl rfl (lookO_spec rfl) rfl rfl rfl ?_ | refine x_un rfl rfl (lookO_spec rfl) rfl rfl ?_) | ((first | refine' w_q rfl rfl ?xa rfl ?_ | refine' v_q rfl rfl ?xa rfl ?_ | refine' w_yes rfl rfl (lookO_spec rfl) rfl ?xa rfl ?_ | refine' v_yes rfl rfl (lookO_spec rfl) rfl ?xa rfl ?_); case xa => first | exact k_rem rfl rfl rfl (by decide) | exact k_div rfl rfl rfl (by decide) | exact k_conv u_i64 u_u8 rfl rfl | exact k_strOf (p := [UInt8.ofNat (48 + (q / 10) % 10)]) (Nat.succ_pos 0) u_bys u_u8 u_str rfl rfl (by rw [← hb1]; rfl) rfl | exact k_strAdd rfl rfl rfl (by simp) (by omega)) | ((first | refine' w_e rfl ?xa ?xb ?xc ?xe ?_ | refine' v_e rfl ?xa ?xb ?xc ?xe ?_); (case xa => exact e_build [.tmp 17] tlOk rfl rfl rfl rfl rfl rfl (allN_one rfl) (by simp)); (case xb => rfl); (case xc => rfl); (case xe => rfl); try dsimp only [P0.d, Res.d, List.map_cons, List.map_nil, List.set_cons_zero, List.set_cons_succ, Nat.reduceAdd]) | ((first | refine aw_ways rfl ?_ ?_ | refine r_split rfl rfl rfl ?_ ?_) <;> intro hg_ <;> fail_if_success (exact Bool.noConfusion hg_)) <;> (try simp only [prn] at hg_) <;> (try first | contradiction | (exfalso; omega)))
      all_goals first
        | (exfalso; omega)
        | (refine hfin _ ?_
           (refine weak_ren [] rfl ?_ ?_ <;> repeat' (first | exact trivial | refine subR_cons rfl ?_ ?_ | refine subHR_cons rfl ?_ ?_ | rfl | (refine d_int ?_; (first | rfl | omega | (rw [IntWalk.i64_in _ (by omega)] <;> omega) | (simp; done) | (simp; omega))) | (refine d_bool ?_; (first | (simp_all; done) | (rw [Bool.eq_iff_iff]; simp_all; done) | (rw [Bool.eq_iff_iff]; simp_all; omega) | (rw [Bool.eq_iff_iff]; simp; omega))) | exact d_int hq3)))
        | trace_state
    · rw [if_neg h9, List.nil_append] at hE
      rw [hE]
      clear hF hF0 hF1 ho conv hb0 hb0' c0 hE
      repeat' (first | (with_reducible first | refine aw_seq ?_ | refine thn_normal ?_ | refine thn_ret ?_ | refine thn_exit ?_ | refine blk_normal ?_ | refine blk_ret ?_ | refine blk_hit ?_ | refine blk_miss rfl ?_ | refine aw_block ?_ | refine aw_ret ?_ | refine aw_skip ?_ | refine aw_exit ?_ | refine w_nil ?_ | refine x_nil (by kernel_rfl) ?_) | refine aw_region ?_ | refine aw_region_draw (by kernel_rfl) ?_ | refine aw_yes rfl ?_ | refine aw_no rfl ?_ | ((with_reducible refine w_seq ?_); first | refine r_q tbOk rfl rfl rfl rfl ?_ | refine r_e tbOk rfl rfl rfl rfl rfl ?_ | refine r_yes tbOk rfl rfl rfl rfl rfl rfl ?_ | refine w_no rfl rfl (lookO_spec rfl) rfl rfl rfl ?_ | refine w_un rfl rfl (lookO_spec rfl) rfl rfl ?_) | ((with_reducible refine w_drw ?_); first | refine rx_q tbOk rfl rfl rfl rfl ?_ | refine rx_e tbOk rfl rfl rfl rfl rfl ?_ | refine rx_yes tbOk rfl rfl rfl rfl rfl rfl ?_ | refine x_no rfl rfl (lookO_spec rfl) rfl rfl rfl ?_ | refine x_un rfl rfl (lookO_spec rfl) rfl rfl ?_) | ((first | refine aw_ways rfl ?_ ?_ | refine r_split rfl rfl rfl ?_ ?_) <;> intro hg_ <;> fail_if_success (exact Bool.noConfusion hg_)) <;> (try simp only [prn] at hg_) <;> (try first | contradiction | (exfalso; omega)))
      all_goals first
        | (exfalso; omega)
        | exact ret_tmp rfl (dres_strE rfl)
        | trace_state
end Go.Proofs.YthjnidcmhegoeaaDoor.Abs
