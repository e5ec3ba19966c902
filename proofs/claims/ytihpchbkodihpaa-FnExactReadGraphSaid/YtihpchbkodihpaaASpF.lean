/- ReadGraph of the reference by states. No statement of the seat is proved here. -/
import Derived.Test.YtihpchbkodihpaaTy
import Derived.Lib.Hide
import Derived.Test.YtihpchbkodihpaaASpE
set_option linter.unusedSimpArgs false
set_option linter.unusedVariables false
namespace Go.Proofs.Ytihpchbkodihpaa.Abs
open Go.RowKit
open R (val row ref)

theorem scanF_cnt {xs : List Int} (hx : bytesOk xs = true) : (scanF xs).1.length ≤ 2001 := by
  have hs := scan_its (xs := xs) xs.length 0 (by omega) (Nat.zero_le _)
  rw [List.drop_zero] at hs
  have h2 := itsF_len xs (xs.length + 1 - 0) 0
  have h3 := bytesOk_len hx
  rw [hs.1, List.length_map]; unfold itsA; omega
theorem rowsI_at1 {b0 : List Int} {bs : List (List Int)} {k : Nat} (h : k < bs.length) : (rowsI (b0 :: bs))[((k + 1 : Nat) : Int).toNat]? = some (rowP bs[k]) := by
  have := rowsI_get (bs := b0 :: bs) (k := k + 1) (by simp; omega)
  simpa using this
set_option maxRecDepth 100000 in
set_option maxHeartbeats 8000000 in
theorem f_specReadGraph (nil : Bool) (xs : List Int) (hl : xs.length ≤ 1048576) : Fn Try.prog 27 [.one (row nil 1 (ints xs))] (graphRes (readG xs)) := by
  have hli := ints_len xs
  cases hx : bytesOk xs
  · have KS := f_specScanBad nil xs hx
    have hR : readG xs = none := by unfold readG; rw [hx]; simp
    rw [hR]
    unfold graphRes
    refine fn_of (l := [.cell 2 25, .tmp 3]) Try.func27 (by kernel_rfl) rfl Try.ntmps27 rfl rfl ?_; simp only [argEnv, P0.d, Nat.reduceAdd]
    repeat' (first | (with_reducible first | refine aw_seq ?_ | refine thn_normal ?_ | refine thn_ret ?_ | refine thn_exit ?_ | refine blk_normal ?_ | refine blk_ret ?_ | refine blk_hit ?_ | refine blk_miss rfl ?_ | refine aw_block ?_ | refine aw_ret ?_ | refine aw_skip ?_ | refine aw_exit ?_ | refine w_nil ?_ | refine x_nil (by kernel_rfl) ?_) | refine aw_region ?_ | refine aw_region_draw (by kernel_rfl) ?_ | refine aw_yes rfl ?_ | refine aw_no rfl ?_ | ((with_reducible refine w_seq ?_); first | refine r_q tbOk rfl rfl rfl rfl ?_ | refine r_e tbOk rfl rfl rfl rfl rfl ?_ | refine r_yes tbOk rfl rfl rfl rfl rfl rfl ?_ | refine w_no rfl rfl (lookO_spec rfl) rfl rfl rfl ?_ | refine w_un rfl rfl (lookO_spec rfl) rfl rfl ?_) | ((with_reducible refine w_drw ?_); first | refine rx_q tbOk rfl rfl rfl rfl ?_ | refine rx_e tbOk rfl rfl rfl rfl rfl ?_ | refine rx_yes tbOk rfl rfl rfl rfl rfl rfl ?_ | refine x_no rfl rfl (lookO_spec rfl) rfl rfl rfl ?_ | refine x_un rfl rfl (lookO_spec rfl) rfl rfl ?_) | ((first | refine' w_q rfl rfl ?xa rfl ?_ | refine' v_q rfl rfl ?xa rfl ?_ | refine' w_yes rfl rfl (lookO_spec rfl) rfl ?xa rfl ?_ | refine' v_yes rfl rfl (lookO_spec rfl) rfl ?xa rfl ?_); case xa => exact k_call KS rfl ⟨asA_r (evO_spec rfl), trivial⟩) | ((first | refine aw_ways rfl ?_ ?_ | refine r_split rfl rfl rfl ?_ ?_) <;> intro hg_ <;> fail_if_success (exact Bool.noConfusion hg_)) <;> (try simp only [prn] at hg_) <;> (try first | contradiction | (exfalso; omega)))
    all_goals first
      | exact ret_2 (rv_cell rfl rfl (by (with_reducible first | exact ty3 | exact ty4 | exact ty5 | exact ty9 | exact ty17 | exact ty19 | exact ty22 | exact ty23 | exact ty25 | exact ty26 | exact ty28 | exact ty30 | exact ty36 | exact ty38 | exact ty40 | exact ty45 | exact ty66 | exact ty77 | exact ty80 | exact ty100 | exact ty112 | exact ty118 | exact ty126 | exact ty128 | exact ty131 | exact ty132)) rfl rfl rfl (dres_agg (by exact ⟨cres_val, cres_nil, trivial⟩))) (rv_tmp rfl (dres_bool rfl))
      | (exfalso; omega)
      | trace_state
  · have KS := f_specScanFrames nil xs hx
    obtain ⟨hok, _, _⟩ := scanF_inv xs.length xs (Nat.le_refl _) hx
    have hR : readG xs = if (scanF xs).2 = xs.length then graphB (scanF xs).1 else none := by unfold readG; rw [hx]; simp
    rw [hR]
    have hbl := scanF_cnt hx
    clear hR
    generalize scanF xs = S at *
    obtain ⟨bs, tk⟩ := S
    dsimp only at KS hok hbl ⊢
    by_cases ht : tk = xs.length
    · rw [if_pos ht]
      subst ht
      cases bs with
      | nil =>
        rw [show graphB [] = none from rfl]
        unfold graphRes
        refine fn_of (l := [.cell 2 25, .tmp 3]) Try.func27 (by kernel_rfl) rfl Try.ntmps27 rfl rfl ?_; simp only [argEnv, P0.d, Nat.reduceAdd]
        repeat' (first | (with_reducible first | refine aw_seq ?_ | refine thn_normal ?_ | refine thn_ret ?_ | refine thn_exit ?_ | refine blk_normal ?_ | refine blk_ret ?_ | refine blk_hit ?_ | refine blk_miss rfl ?_ | refine aw_block ?_ | refine aw_ret ?_ | refine aw_skip ?_ | refine aw_exit ?_ | refine w_nil ?_ | refine x_nil (by kernel_rfl) ?_) | refine aw_region ?_ | refine aw_region_draw (by kernel_rfl) ?_ | refine aw_yes rfl ?_ | refine aw_no rfl ?_ | ((with_reducible refine w_seq ?_); first | refine r_q tbOk rfl rfl rfl rfl ?_ | refine r_e tbOk rfl rfl rfl rfl rfl ?_ | refine r_yes tbOk rfl rfl rfl rfl rfl rfl ?_ | refine w_no rfl rfl (lookO_spec rfl) rfl rfl rfl ?_ | refine w_un rfl rfl (lookO_spec rfl) rfl rfl ?_) | ((with_reducible refine w_drw ?_); first | refine rx_q tbOk rfl rfl rfl rfl ?_ | refine rx_e tbOk rfl rfl rfl rfl rfl ?_ | refine rx_yes tbOk rfl rfl rfl rfl rfl rfl ?_ | refine x_no rfl rfl (lookO_spec rfl) rfl rfl rfl ?_ | refine x_un rfl rfl (lookO_spec rfl) rfl rfl ?_) | ((first | refine' w_q rfl rfl ?xa rfl ?_ | refine' v_q rfl rfl ?xa rfl ?_ | refine' w_yes rfl rfl (lookO_spec rfl) rfl ?xa rfl ?_ | refine' v_yes rfl rfl (lookO_spec rfl) rfl ?xa rfl ?_); case xa => exact k_call KS rfl ⟨asA_r (evO_spec rfl), trivial⟩) | ((first | refine aw_ways rfl ?_ ?_ | refine r_split rfl rfl rfl ?_ ?_) <;> intro hg_ <;> fail_if_success (exact Bool.noConfusion hg_)) <;> (try simp only [prn] at hg_) <;> (try first | contradiction | (exfalso; omega)))
        all_goals first
          | exact ret_2 (rv_cell rfl rfl (by (with_reducible first | exact ty3 | exact ty4 | exact ty5 | exact ty9 | exact ty17 | exact ty19 | exact ty22 | exact ty23 | exact ty25 | exact ty26 | exact ty28 | exact ty30 | exact ty36 | exact ty38 | exact ty40 | exact ty45 | exact ty66 | exact ty77 | exact ty80 | exact ty100 | exact ty112 | exact ty118 | exact ty126 | exact ty128 | exact ty131 | exact ty132)) rfl rfl rfl (dres_agg (by exact ⟨cres_val, cres_nil, trivial⟩))) (rv_tmp rfl (dres_bool rfl))
          | (exfalso; simp only [rowsI, List.map_nil, List.length_nil] at *; omega)
          | trace_state
      | cons b0 bs =>
        have KD := f_specDecode false b0 0
        have hrl : (rowsI (b0 :: bs)).length = bs.length + 1 := by rw [rowsI_len]; rfl
        have hix0 : (rowsI (b0 :: bs))[(0 : Int).toNat]? = some (rowP b0) := rfl
        have hGB : graphB (b0 :: bs) = match decAt b0 0, edgesB bs with | some (n, j), some es => if j = (b0.length : Int) ∧ gOk n es = true then some (n, es) else none | _, _ => none := rfl
        have hli0 := ints_len b0
        have hbs2 : bs.length ≤ 2000 := by rw [List.length_cons] at hbl; omega
        obtain ⟨n, j, ok0, KD', hG1, hG0⟩ : ∃ (n j : Int) (ok0 : Bool), Fn Try.prog 71 [.one (row false 1 (ints b0)), iP 0] (.tup [iP n, iP j, .one (bool ok0)]) ∧ (ok0 = true → graphB (b0 :: bs) = match edgesB bs with | some es => if j = (b0.length : Int) ∧ gOk n es = true then some (n, es) else none | none => none) ∧ (ok0 = false → graphB (b0 :: bs) = none) := by
          unfold decRes at KD
          rw [hGB]
          cases hd : decAt b0 0 with
          | none =>
            rw [hd] at KD
            exact ⟨_, _, _, KD, (fun h => by cases h), fun _ => rfl⟩
          | some r =>
            obtain ⟨n, j⟩ := r
            rw [hd] at KD
            exact ⟨_, _, _, KD, (fun _ => by cases edgesB bs <;> rfl), (fun h => by cases h)⟩
        clear KD hGB hok
        generalize graphB (b0 :: bs) = G at *
        refine fn_of (l := [.cell 2 25, .tmp 3]) Try.func27 (by kernel_rfl) rfl Try.ntmps27 rfl rfl ?_; simp only [argEnv, P0.d, Nat.reduceAdd]
        repeat' (first | (with_reducible first | refine aw_seq ?_ | refine thn_normal ?_ | refine thn_ret ?_ | refine thn_exit ?_ | refine blk_normal ?_ | refine blk_ret ?_ | refine blk_hit ?_ | refine blk_miss rfl ?_ | refine aw_block ?_ | refine aw_ret ?_ | refine aw_skip ?_ | refine aw_exit ?_ | refine w_nil ?_ | refine x_nil (by kernel_rfl) ?_) | refine aw_region ?_ | refine aw_region_draw (by kernel_rfl) ?_ | refine aw_yes rfl ?_ | refine aw_no rfl ?_ | ((with_reducible refine w_seq ?_); first | refine r_q tbOk rfl rfl rfl rfl ?_ | refine r_e tbOk rfl rfl rfl rfl rfl ?_ | refine r_yes tbOk rfl rfl rfl rfl rfl rfl ?_ | refine w_no rfl rfl (lookO_spec rfl) rfl rfl rfl ?_ | refine w_un rfl rfl (lookO_spec rfl) rfl rfl ?_) | ((with_reducible refine w_drw ?_); first | refine rx_q tbOk rfl rfl rfl rfl ?_ | refine rx_e tbOk rfl rfl rfl rfl rfl ?_ | refine rx_yes tbOk rfl rfl rfl rfl rfl rfl ?_ | refine x_no rfl rfl (lookO_spec rfl) rfl rfl rfl ?_ | refine x_un rfl rfl (lookO_spec rfl) rfl rfl ?_) | ((first | refine' w_q rfl rfl ?xa rfl ?_ | refine' v_q rfl rfl ?xa rfl ?_ | refine' w_yes rfl rfl (lookO_spec rfl) rfl ?xa rfl ?_ | refine' v_yes rfl rfl (lookO_spec rfl) rfl ?xa rfl ?_); case xa => first | exact k_call KS rfl ⟨asA_r (evO_spec rfl), trivial⟩ | exact k_index tbOk rfl rfl rfl rfl (by omega) (by exact hix0) | exact k_call KD' rfl ⟨asA_r (evO_spec rfl), asA_r (evO_spec rfl), trivial⟩) | ((first | refine aw_ways rfl ?_ ?_ | refine r_split rfl rfl rfl ?_ ?_) <;> intro hg_ <;> fail_if_success (exact Bool.noConfusion hg_)) <;> (try simp only [prn] at hg_) <;> (try first | contradiction | (exfalso; omega)))
        all_goals first
          | (exfalso; omega)
          | skip
        obtain ⟨S0, hS0⟩ : ∃ S0 : Bool → St, ∀ ok, S0 ok = mkS 79 [(10, .one (.r true (int ((0 + 1 : Nat) : Int)))), (9, .one (.ptr 9 0 0 0)), (8, .one (.r true (bool ok))), (7, .one (.r true (int j))), (4, .one (.r true (row false 1 (rowsI (b0 :: bs))))), (2, .one (.ptr 2 0 0 0))] [(9, .var 25 [.r true (int n), .r true (row true 0 [])]), (2, .var 25 [.r true (int 0), .r true (row true 0 [])])] := ⟨_, fun _ => rfl⟩
        obtain ⟨S1, hS1⟩ : ∃ S1 : Nat × List E3 × Bool → St, ∀ x, S1 x = mkS 79 [(10, .one (.r true (int ((x.1 + 1 : Nat) : Int)))), (9, .one (.ptr 9 0 0 0)), (8, .one (.r true (bool x.2.2))), (7, .one (.r true (int j))), (4, .one (.r true (row false 1 (rowsI (b0 :: bs))))), (2, .one (.ptr 2 0 0 0))] [(9, .var 25 [.r true (int n), .own 100 0 x.2.1.length 3]), (100, .sl 45 3 true (edges x.2.1)), (2, .var 25 [.r true (int 0), .r true (row true 0 [])])] := ⟨_, fun _ => rfl⟩
        obtain ⟨F, hF0, hF1⟩ : ∃ F : Option (Nat × List E3 × Bool) → St, F none = S0 ok0 ∧ ∀ x, F (some x) = S1 x := ⟨fun o => match o with | none => S0 ok0 | some x => S1 x, rfl, fun _ => rfl⟩
        refine aw_loopI (fun o : Option (Nat × List E3 × Bool) => ∀ x, o = some x → x.1 ≤ bs.length ∧ x.2.1.length = x.1 ∧ x.2.1 ≠ [] ∧ (x.2.2 = true → ok0 = true ∧ edgesB bs = (edgesB (bs.drop x.1)).map (fun r => x.2.1 ++ r)) ∧ (x.2.2 = false → G = none)) F (fun o => match o with | none => bs.length + 1 | some x => bs.length - x.1) none (fun x h => by cases h) (by rw [hF0, hS0]; (refine weak_ren [] rfl ?_ ?_ <;> repeat' (first | exact trivial | refine subR_cons rfl ?_ ?_ | refine subHR_cons rfl ?_ ?_ | rfl | (refine d_int ?_; (first | rfl | omega | (rw [IntWalk.i64_in _ (by omega)] <;> omega) | (simp; done) | (simp; omega))) | (refine d_bool ?_; (first | (simp_all; done) | (rw [Bool.eq_iff_iff]; simp_all; done) | (rw [Bool.eq_iff_iff]; simp_all; omega) | (rw [Bool.eq_iff_iff]; simp; omega)))))) ?_
        intro o ho
        cases o with
        | none =>
          rw [hF0, hS0]
          by_cases hlt : 0 < bs.length
          · have hix := rowsI_at1 (b0 := b0) hlt
            have hE : edgesB bs = match readE bs[0] with | some e => (edgesB (bs.drop 1)).map (fun r => e :: r) | none => none := (congrArg edgesB (by rw [← List.drop_eq_getElem_cons hlt, List.drop_zero])).trans edgesB_step
            generalize bs[0] = b at *
            have KE := f_specReadEdge false b
            have hw : IntKind.i64.wrap (((0 + 1 : Nat) : Int) + 1) = ((0 + 1 + 1 : Nat) : Int) := by decide
            obtain ⟨e, fine, KE', hE1, hE0⟩ : ∃ (e : E3) (fine : Bool), Fn Try.prog 72 [.one (row false 1 (ints b))] (.tup [edgeP e, .one (bool fine)]) ∧ (fine = true → edgesB bs = (edgesB (bs.drop 1)).map (fun r => [e] ++ r)) ∧ (fine = false → edgesB bs = none) := by
              unfold edgeRes at KE
              cases hr : readE b with
              | none =>
                rw [hr] at KE hE
                exact ⟨(0, 0, 0), false, KE, (fun h => by cases h), fun _ => hE⟩
              | some e =>
                obtain ⟨e1, e2, e3⟩ := e
                rw [hr] at KE hE
                exact ⟨(e1, e2, e3), true, KE, (fun _ => hE), (fun h => by cases h)⟩
            clear KE
            have hfin : ∀ s' : St, Weak s' (S1 (1, [e], ok0 && fine)) → ∃ x' : Option (Nat × List E3 × Bool), (∀ x, x' = some x → x.1 ≤ bs.length ∧ x.2.1.length = x.1 ∧ x.2.1 ≠ [] ∧ (x.2.2 = true → ok0 = true ∧ edgesB bs = (edgesB (bs.drop x.1)).map (fun r => x.2.1 ++ r)) ∧ (x.2.2 = false → G = none)) ∧ Weak s' (F x') ∧ (match x' with | none => bs.length + 1 | some x => bs.length - x.1) < bs.length + 1 := fun s' h => ⟨some (1, [e], ok0 && fine), fun x hx => by
                injection hx with hx; subst hx
                refine ⟨hlt, rfl, by simp, fun h => ?_, fun h => ?_⟩
                · have h : (ok0 && fine) = true := h
                  rw [Bool.and_eq_true] at h
                  exact ⟨h.1, hE1 h.2⟩
                · have h : (ok0 && fine) = false := h
                  cases ok0 with
                  | false => exact hG0 rfl
                  | true => rw [hG1 rfl, hE0 (by simpa using h)], (by rw [hF1]; exact h), by dsimp only; omega⟩
            rw [hS1] at hfin
            clear hE hE1 hE0 hG1 hG0 hF0 hF1 hS0 hS1 ho KS KD'
            obtain ⟨e1, e2, e3⟩ := e
            cases ok0 <;> cases fine
            all_goals
              repeat' (first | (with_reducible first | refine aw_seq ?_ | refine thn_normal ?_ | refine thn_ret ?_ | refine thn_exit ?_ | refine blk_normal ?_ | refine blk_ret ?_ | refine blk_hit ?_ | refine blk_miss rfl ?_ | refine aw_block ?_ | refine aw_ret ?_ | refine aw_skip ?_ | refine aw_exit ?_ | refine w_nil ?_ | refine x_nil (by kernel_rfl) ?_) | refine aw_region ?_ | refine aw_region_draw (by kernel_rfl) ?_ | refine aw_yes rfl ?_ | refine aw_no rfl ?_ | ((with_reducible refine w_seq ?_); first | refine r_q tbOk rfl rfl rfl rfl ?_ | refine r_e tbOk rfl rfl rfl rfl rfl ?_ | refine r_yes tbOk rfl rfl rfl rfl rfl rfl ?_ | refine w_no rfl rfl (lookO_spec rfl) rfl rfl rfl ?_ | refine w_un rfl rfl (lookO_spec rfl) rfl rfl ?_) | ((with_reducible refine w_drw ?_); first | refine rx_q tbOk rfl rfl rfl rfl ?_ | refine rx_e tbOk rfl rfl rfl rfl rfl ?_ | refine rx_yes tbOk rfl rfl rfl rfl rfl rfl ?_ | refine x_no rfl rfl (lookO_spec rfl) rfl rfl rfl ?_ | refine x_un rfl rfl (lookO_spec rfl) rfl rfl ?_) | ((first | refine' w_q rfl rfl ?xa rfl ?_ | refine' v_q rfl rfl ?xa rfl ?_ | refine' w_yes rfl rfl (lookO_spec rfl) rfl ?xa rfl ?_ | refine' v_yes rfl rfl (lookO_spec rfl) rfl ?xa rfl ?_); case xa => first | exact k_index tbOk rfl rfl rfl rfl (by omega) (by exact hix) | exact k_call KE' rfl ⟨asA_r (evO_spec rfl), trivial⟩) | ((first | refine' w_e rfl ?xa ?xb ?xc ?xe ?_ | refine' v_e rfl ?xa ?xb ?xc ?xe ?_); (case xa => first | exact e_build [.tmp 58] tlOk rfl rfl rfl rfl rfl rfl (allN_one rfl) (by simp) | exact e_append_nil tlOk rfl rfl rfl rfl rfl (slD_plain (slD_own (lookHO_spec rfl) rfl) (edge1_plain _ _ _)) (by simp) (by simp [maxLen]) (by simp)); (case xb => rfl); (case xc => rfl); (case xe => rfl); try dsimp only [P0.d, Res.d, List.map_cons, List.map_nil, List.set_cons_zero, List.set_cons_succ, Nat.reduceAdd]) | ((first | refine aw_ways rfl ?_ ?_ | refine r_split rfl rfl rfl ?_ ?_) <;> intro hg_ <;> fail_if_success (exact Bool.noConfusion hg_)) <;> (try simp only [prn] at hg_) <;> (try first | contradiction | (exfalso; omega)))
              all_goals first
                | (exfalso; omega)
                | (refine hfin _ ?_
                   (refine weak_ren [(100, 60)] rfl ?_ ?_ <;> repeat' (first | exact trivial | refine subR_cons rfl ?_ ?_ | refine subHR_cons rfl ?_ ?_ | rfl | (refine d_int ?_; (first | rfl | omega | (rw [IntWalk.i64_in _ (by omega)] <;> omega) | (simp; done) | (simp; omega))) | (refine d_bool ?_; (first | (simp_all; done) | (rw [Bool.eq_iff_iff]; simp_all; done) | (rw [Bool.eq_iff_iff]; simp_all; omega) | (rw [Bool.eq_iff_iff]; simp; omega))) | exact d_int hw)))
                | trace_state
          · have hb : bs = [] := List.eq_nil_of_length_eq_zero (by omega)
            clear hF0 hF1 hS0 hS1 ho KS KD'
            subst hb
            have KG := f_specGraphValid n true [] (by simp [maxLen])
            rw [show edgesB [] = some [] from rfl] at hG1
            dsimp only at hG1
            cases ok0
            · rw [hG0 rfl]
              unfold graphRes
              repeat' (first | (with_reducible first | refine aw_seq ?_ | refine thn_normal ?_ | refine thn_ret ?_ | refine thn_exit ?_ | refine blk_normal ?_ | refine blk_ret ?_ | refine blk_hit ?_ | refine blk_miss rfl ?_ | refine aw_block ?_ | refine aw_ret ?_ | refine aw_skip ?_ | refine aw_exit ?_ | refine w_nil ?_ | refine x_nil (by kernel_rfl) ?_) | refine aw_region ?_ | refine aw_region_draw (by kernel_rfl) ?_ | refine aw_yes rfl ?_ | refine aw_no rfl ?_ | ((with_reducible refine w_seq ?_); first | refine r_q tbOk rfl rfl rfl rfl ?_ | refine r_e tbOk rfl rfl rfl rfl rfl ?_ | refine r_yes tbOk rfl rfl rfl rfl rfl rfl ?_ | refine w_no rfl rfl (lookO_spec rfl) rfl rfl rfl ?_ | refine w_un rfl rfl (lookO_spec rfl) rfl rfl ?_) | ((with_reducible refine w_drw ?_); first | refine rx_q tbOk rfl rfl rfl rfl ?_ | refine rx_e tbOk rfl rfl rfl rfl rfl ?_ | refine rx_yes tbOk rfl rfl rfl rfl rfl rfl ?_ | refine x_no rfl rfl (lookO_spec rfl) rfl rfl rfl ?_ | refine x_un rfl rfl (lookO_spec rfl) rfl rfl ?_) | ((first | refine' w_q rfl rfl ?xa rfl ?_ | refine' v_q rfl rfl ?xa rfl ?_ | refine' w_yes rfl rfl (lookO_spec rfl) rfl ?xa rfl ?_ | refine' v_yes rfl rfl (lookO_spec rfl) rfl ?xa rfl ?_); case xa => first | exact k_index tbOk rfl rfl rfl rfl (by omega) (by exact hix0) | exact k_call KG rfl ⟨asA_agg (evO_spec rfl) ⟨cAr_r, cAr_nil, trivial⟩, trivial⟩) | ((first | refine aw_ways rfl ?_ ?_ | refine r_split rfl rfl rfl ?_ ?_) <;> intro hg_ <;> fail_if_success (exact Bool.noConfusion hg_)) <;> (try simp only [prn] at hg_) <;> (try first | contradiction | (exfalso; omega)))
              all_goals first
                | exact ret_2 (rv_cell rfl rfl (by (with_reducible first | exact ty3 | exact ty4 | exact ty5 | exact ty9 | exact ty17 | exact ty19 | exact ty22 | exact ty23 | exact ty25 | exact ty26 | exact ty28 | exact ty30 | exact ty36 | exact ty38 | exact ty40 | exact ty45 | exact ty66 | exact ty77 | exact ty80 | exact ty100 | exact ty112 | exact ty118 | exact ty126 | exact ty128 | exact ty131 | exact ty132)) rfl rfl rfl (dres_agg (by exact ⟨cres_val, cres_nil, trivial⟩))) (rv_tmp rfl (dres_bool rfl))
                | (exfalso; simp only [rowsI, List.map_cons, List.map_nil, List.length_cons, List.length_nil] at *; omega)
                | trace_state
            · rw [hG1 rfl]
              generalize gOk n [] = g at *
              by_cases hj : j = (b0.length : Int)
              · cases g
                · rw [if_neg (by simp)]
                  unfold graphRes
                  repeat' (first | (with_reducible first | refine aw_seq ?_ | refine thn_normal ?_ | refine thn_ret ?_ | refine thn_exit ?_ | refine blk_normal ?_ | refine blk_ret ?_ | refine blk_hit ?_ | refine blk_miss rfl ?_ | refine aw_block ?_ | refine aw_ret ?_ | refine aw_skip ?_ | refine aw_exit ?_ | refine w_nil ?_ | refine x_nil (by kernel_rfl) ?_) | refine aw_region ?_ | refine aw_region_draw (by kernel_rfl) ?_ | refine aw_yes rfl ?_ | refine aw_no rfl ?_ | ((with_reducible refine w_seq ?_); first | refine r_q tbOk rfl rfl rfl rfl ?_ | refine r_e tbOk rfl rfl rfl rfl rfl ?_ | refine r_yes tbOk rfl rfl rfl rfl rfl rfl ?_ | refine w_no rfl rfl (lookO_spec rfl) rfl rfl rfl ?_ | refine w_un rfl rfl (lookO_spec rfl) rfl rfl ?_) | ((with_reducible refine w_drw ?_); first | refine rx_q tbOk rfl rfl rfl rfl ?_ | refine rx_e tbOk rfl rfl rfl rfl rfl ?_ | refine rx_yes tbOk rfl rfl rfl rfl rfl rfl ?_ | refine x_no rfl rfl (lookO_spec rfl) rfl rfl rfl ?_ | refine x_un rfl rfl (lookO_spec rfl) rfl rfl ?_) | ((first | refine' w_q rfl rfl ?xa rfl ?_ | refine' v_q rfl rfl ?xa rfl ?_ | refine' w_yes rfl rfl (lookO_spec rfl) rfl ?xa rfl ?_ | refine' v_yes rfl rfl (lookO_spec rfl) rfl ?xa rfl ?_); case xa => first | exact k_index tbOk rfl rfl rfl rfl (by omega) (by exact hix0) | exact k_call KG rfl ⟨asA_agg (evO_spec rfl) ⟨cAr_r, cAr_nil, trivial⟩, trivial⟩) | ((first | refine aw_ways rfl ?_ ?_ | refine r_split rfl rfl rfl ?_ ?_) <;> intro hg_ <;> fail_if_success (exact Bool.noConfusion hg_)) <;> (try simp only [prn] at hg_) <;> (try first | contradiction | (exfalso; omega)))
                  all_goals first
                    | exact ret_2 (rv_cell rfl rfl (by (with_reducible first | exact ty3 | exact ty4 | exact ty5 | exact ty9 | exact ty17 | exact ty19 | exact ty22 | exact ty23 | exact ty25 | exact ty26 | exact ty28 | exact ty30 | exact ty36 | exact ty38 | exact ty40 | exact ty45 | exact ty66 | exact ty77 | exact ty80 | exact ty100 | exact ty112 | exact ty118 | exact ty126 | exact ty128 | exact ty131 | exact ty132)) rfl rfl rfl (dres_agg (by exact ⟨cres_val, cres_nil, trivial⟩))) (rv_tmp rfl (dres_bool rfl))
                    | (exfalso; simp only [rowsI, List.map_cons, List.map_nil, List.length_cons, List.length_nil] at *; omega)
                    | trace_state
                · rw [if_pos ⟨hj, rfl⟩]
                  unfold graphRes
                  dsimp only
                  rw [show decide (([] : List E3) = []) = true by simp]
                  repeat' (first | (with_reducible first | refine aw_seq ?_ | refine thn_normal ?_ | refine thn_ret ?_ | refine thn_exit ?_ | refine blk_normal ?_ | refine blk_ret ?_ | refine blk_hit ?_ | refine blk_miss rfl ?_ | refine aw_block ?_ | refine aw_ret ?_ | refine aw_skip ?_ | refine aw_exit ?_ | refine w_nil ?_ | refine x_nil (by kernel_rfl) ?_) | refine aw_region ?_ | refine aw_region_draw (by kernel_rfl) ?_ | refine aw_yes rfl ?_ | refine aw_no rfl ?_ | ((with_reducible refine w_seq ?_); first | refine r_q tbOk rfl rfl rfl rfl ?_ | refine r_e tbOk rfl rfl rfl rfl rfl ?_ | refine r_yes tbOk rfl rfl rfl rfl rfl rfl ?_ | refine w_no rfl rfl (lookO_spec rfl) rfl rfl rfl ?_ | refine w_un rfl rfl (lookO_spec rfl) rfl rfl ?_) | ((with_reducible refine w_drw ?_); first | refine rx_q tbOk rfl rfl rfl rfl ?_ | refine rx_e tbOk rfl rfl rfl rfl rfl ?_ | refine rx_yes tbOk rfl rfl rfl rfl rfl rfl ?_ | refine x_no rfl rfl (lookO_spec rfl) rfl rfl rfl ?_ | refine x_un rfl rfl (lookO_spec rfl) rfl rfl ?_) | ((first | refine' w_q rfl rfl ?xa rfl ?_ | refine' v_q rfl rfl ?xa rfl ?_ | refine' w_yes rfl rfl (lookO_spec rfl) rfl ?xa rfl ?_ | refine' v_yes rfl rfl (lookO_spec rfl) rfl ?xa rfl ?_); case xa => first | exact k_index tbOk rfl rfl rfl rfl (by omega) (by exact hix0) | exact k_call KG rfl ⟨asA_agg (evO_spec rfl) ⟨cAr_r, cAr_nil, trivial⟩, trivial⟩) | ((first | refine aw_ways rfl ?_ ?_ | refine r_split rfl rfl rfl ?_ ?_) <;> intro hg_ <;> fail_if_success (exact Bool.noConfusion hg_)) <;> (try simp only [prn] at hg_) <;> (try first | contradiction | (exfalso; omega)))
                  all_goals first
                    | exact ret_2 (rv_cell rfl rfl (by (with_reducible first | exact ty3 | exact ty4 | exact ty5 | exact ty9 | exact ty17 | exact ty19 | exact ty22 | exact ty23 | exact ty25 | exact ty26 | exact ty28 | exact ty30 | exact ty36 | exact ty38 | exact ty40 | exact ty45 | exact ty66 | exact ty77 | exact ty80 | exact ty100 | exact ty112 | exact ty118 | exact ty126 | exact ty128 | exact ty131 | exact ty132)) rfl rfl rfl (dres_agg (by exact ⟨cres_val, cres_nil, trivial⟩))) (rv_tmp rfl (dres_bool rfl))
                    | (exfalso; simp only [rowsI, List.map_cons, List.map_nil, List.length_cons, List.length_nil] at *; omega)
                    | trace_state
              · rw [if_neg (fun h => hj h.1)]
                unfold graphRes
                repeat' (first | (with_reducible first | refine aw_seq ?_ | refine thn_normal ?_ | refine thn_ret ?_ | refine thn_exit ?_ | refine blk_normal ?_ | refine blk_ret ?_ | refine blk_hit ?_ | refine blk_miss rfl ?_ | refine aw_block ?_ | refine aw_ret ?_ | refine aw_skip ?_ | refine aw_exit ?_ | refine w_nil ?_ | refine x_nil (by kernel_rfl) ?_) | refine aw_region ?_ | refine aw_region_draw (by kernel_rfl) ?_ | refine aw_yes rfl ?_ | refine aw_no rfl ?_ | ((with_reducible refine w_seq ?_); first | refine r_q tbOk rfl rfl rfl rfl ?_ | refine r_e tbOk rfl rfl rfl rfl rfl ?_ | refine r_yes tbOk rfl rfl rfl rfl rfl rfl ?_ | refine w_no rfl rfl (lookO_spec rfl) rfl rfl rfl ?_ | refine w_un rfl rfl (lookO_spec rfl) rfl rfl ?_) | ((with_reducible refine w_drw ?_); first | refine rx_q tbOk rfl rfl rfl rfl ?_ | refine rx_e tbOk rfl rfl rfl rfl rfl ?_ | refine rx_yes tbOk rfl rfl rfl rfl rfl rfl ?_ | refine x_no rfl rfl (lookO_spec rfl) rfl rfl rfl ?_ | refine x_un rfl rfl (lookO_spec rfl) rfl rfl ?_) | ((first | refine' w_q rfl rfl ?xa rfl ?_ | refine' v_q rfl rfl ?xa rfl ?_ | refine' w_yes rfl rfl (lookO_spec rfl) rfl ?xa rfl ?_ | refine' v_yes rfl rfl (lookO_spec rfl) rfl ?xa rfl ?_); case xa => first | exact k_index tbOk rfl rfl rfl rfl (by omega) (by exact hix0) | exact k_call KG rfl ⟨asA_agg (evO_spec rfl) ⟨cAr_r, cAr_nil, trivial⟩, trivial⟩) | ((first | refine aw_ways rfl ?_ ?_ | refine r_split rfl rfl rfl ?_ ?_) <;> intro hg_ <;> fail_if_success (exact Bool.noConfusion hg_)) <;> (try simp only [prn] at hg_) <;> (try first | contradiction | (exfalso; omega)))
                all_goals first
                  | exact ret_2 (rv_cell rfl rfl (by (with_reducible first | exact ty3 | exact ty4 | exact ty5 | exact ty9 | exact ty17 | exact ty19 | exact ty22 | exact ty23 | exact ty25 | exact ty26 | exact ty28 | exact ty30 | exact ty36 | exact ty38 | exact ty40 | exact ty45 | exact ty66 | exact ty77 | exact ty80 | exact ty100 | exact ty112 | exact ty118 | exact ty126 | exact ty128 | exact ty131 | exact ty132)) rfl rfl rfl (dres_agg (by exact ⟨cres_val, cres_nil, trivial⟩))) (rv_tmp rfl (dres_bool rfl))
                  | (exfalso; simp only [rowsI, List.map_cons, List.map_nil, List.length_cons, List.length_nil] at *; omega)
                  | trace_state
        | some x =>
          obtain ⟨k, es, ok⟩ := x
          obtain ⟨hk, hel, hne, hT, hN⟩ := ho _ rfl
          dsimp only at hk hel hne hT hN
          rw [hF1, hS1]
          dsimp only
          have hrow := (edges_len es).symm
          by_cases hlt : k < bs.length
          · have hix := rowsI_at1 (b0 := b0) hlt
            have hE : edgesB (bs.drop k) = match readE bs[k] with | some e => (edgesB (bs.drop (k + 1))).map (fun r => e :: r) | none => none := (congrArg edgesB (List.drop_eq_getElem_cons hlt)).trans edgesB_step
            generalize bs[k] = b at *
            have KE := f_specReadEdge false b
            have hw : IntKind.i64.wrap (((k + 1 : Nat) : Int) + 1) = ((k + 1 + 1 : Nat) : Int) := by rw [IntWalk.i64_in _ (by omega)]; omega
            obtain ⟨e, fine, KE', hE1, hE0⟩ : ∃ (e : E3) (fine : Bool), Fn Try.prog 72 [.one (row false 1 (ints b))] (.tup [edgeP e, .one (bool fine)]) ∧ (fine = true → edgesB (bs.drop k) = (edgesB (bs.drop (k + 1))).map (fun r => e :: r)) ∧ (fine = false → edgesB (bs.drop k) = none) := by
              unfold edgeRes at KE
              cases hr : readE b with
              | none =>
                rw [hr] at KE hE
                exact ⟨(0, 0, 0), false, KE, (fun h => by cases h), fun _ => hE⟩
              | some e =>
                obtain ⟨e1, e2, e3⟩ := e
                rw [hr] at KE hE
                exact ⟨(e1, e2, e3), true, KE, (fun _ => hE), (fun h => by cases h)⟩
            clear KE
            have hfin : ∀ s' : St, Weak s' (S1 (k + 1, es ++ [e], ok && fine)) → ∃ x' : Option (Nat × List E3 × Bool), (∀ x, x' = some x → x.1 ≤ bs.length ∧ x.2.1.length = x.1 ∧ x.2.1 ≠ [] ∧ (x.2.2 = true → ok0 = true ∧ edgesB bs = (edgesB (bs.drop x.1)).map (fun r => x.2.1 ++ r)) ∧ (x.2.2 = false → G = none)) ∧ Weak s' (F x') ∧ (match x' with | none => bs.length + 1 | some x => bs.length - x.1) < bs.length - k := fun s' h => ⟨some (k + 1, es ++ [e], ok && fine), fun x hx => by
                injection hx with hx; subst hx
                refine ⟨hlt, by simp [hel], by simp, fun h => ?_, fun h => ?_⟩
                · have h : (ok && fine) = true := h
                  rw [Bool.and_eq_true] at h
                  obtain ⟨h1, h2⟩ := hT h.1
                  refine ⟨h1, ?_⟩
                  rw [h2, hE1 h.2, Option.map_map]
                  congr 1
                  funext r
                  simp
                · have h : (ok && fine) = false := h
                  cases ok with
                  | false => exact hN rfl
                  | true =>
                    obtain ⟨h1, h2⟩ := hT rfl
                    rw [hG1 h1, h2, hE0 (by simpa using h)]; rfl, (by rw [hF1]; exact h), by dsimp only; omega⟩
            rw [hS1] at hfin
            clear hE hE1 hE0 hG1 hG0 hF0 hF1 hS0 hS1 ho KS KD' hT hN
            obtain ⟨e1, e2, e3⟩ := e
            cases ok <;> cases fine
            all_goals
              repeat' (first | (with_reducible first | refine aw_seq ?_ | refine thn_normal ?_ | refine thn_ret ?_ | refine thn_exit ?_ | refine blk_normal ?_ | refine blk_ret ?_ | refine blk_hit ?_ | refine blk_miss rfl ?_ | refine aw_block ?_ | refine aw_ret ?_ | refine aw_skip ?_ | refine aw_exit ?_ | refine w_nil ?_ | refine x_nil (by kernel_rfl) ?_) | refine aw_region ?_ | refine aw_region_draw (by kernel_rfl) ?_ | refine aw_yes rfl ?_ | refine aw_no rfl ?_ | ((with_reducible refine w_seq ?_); first | refine r_q tbOk rfl rfl rfl rfl ?_ | refine r_e tbOk rfl rfl rfl rfl rfl ?_ | refine r_yes tbOk rfl rfl rfl rfl rfl rfl ?_ | refine w_no rfl rfl (lookO_spec rfl) rfl rfl rfl ?_ | refine w_un rfl rfl (lookO_spec rfl) rfl rfl ?_) | ((with_reducible refine w_drw ?_); first | refine rx_q tbOk rfl rfl rfl rfl ?_ | refine rx_e tbOk rfl rfl rfl rfl rfl ?_ | refine rx_yes tbOk rfl rfl rfl rfl rfl rfl ?_ | refine x_no rfl rfl (lookO_spec rfl) rfl rfl rfl ?_ | refine x_un rfl rfl (lookO_spec rfl) rfl rfl ?_) | ((first | refine' w_q rfl rfl ?xa rfl ?_ | refine' v_q rfl rfl ?xa rfl ?_ | refine' w_yes rfl rfl (lookO_spec rfl) rfl ?xa rfl ?_ | refine' v_yes rfl rfl (lookO_spec rfl) rfl ?xa rfl ?_); case xa => first | exact k_index tbOk rfl rfl rfl rfl (by omega) (by exact hix) | exact k_call KE' rfl ⟨asA_r (evO_spec rfl), trivial⟩) | ((first | refine' w_e rfl ?xa ?xb ?xc ?xe ?_ | refine' v_e rfl ?xa ?xb ?xc ?xe ?_); (case xa => first | exact e_build [.tmp 58] tlOk rfl rfl rfl rfl rfl rfl (allN_one rfl) (by simp) | exact e_append tlOk rfl rfl rfl rfl rfl rfl (slD_plain (slD_own (lookHO_spec rfl) rfl) (edge1_plain _ _ _)) hrow (by simp only [maxLen, List.length_cons, List.length_nil]; omega) (by simp only [List.length_cons, List.length_nil]; omega)); (case xb => rfl); (case xc => rfl); (case xe => rfl); try dsimp only [P0.d, Res.d, List.map_cons, List.map_nil, List.set_cons_zero, List.set_cons_succ, Nat.reduceAdd]) | ((first | refine aw_ways rfl ?_ ?_ | refine r_split rfl rfl rfl ?_ ?_) <;> intro hg_ <;> fail_if_success (exact Bool.noConfusion hg_)) <;> (try simp only [prn] at hg_) <;> (try first | contradiction | (exfalso; omega)))
              all_goals first
                | (exfalso; omega)
                | (refine hfin _ ?_
                   (refine weak_ren [(100, 60)] rfl ?_ ?_ <;> repeat' (first | exact trivial | refine subR_cons rfl ?_ ?_ | refine subHR_cons rfl ?_ ?_ | rfl | (refine d_int ?_; (first | rfl | omega | (rw [IntWalk.i64_in _ (by omega)] <;> omega) | (simp; done) | (simp; omega))) | (refine d_bool ?_; (first | (simp_all; done) | (rw [Bool.eq_iff_iff]; simp_all; done) | (rw [Bool.eq_iff_iff]; simp_all; omega) | (rw [Bool.eq_iff_iff]; simp; omega))) | exact d_int hw | exact gvar2 rfl (cell_own (by simp only [List.length_append, List.length_cons, List.length_nil, edges_len])) | exact ob_sl rfl (edges_app es (e1, e2, e3)).symm)))
                | trace_state
          · obtain rfl : k = bs.length := by omega
            have KG := f_specGraphValid n false es (by simp only [maxLen]; omega)
            rw [List.drop_length, show edgesB [] = some [] from rfl] at hT
            clear hF0 hF1 hS0 hS1 ho KS KD'
            cases ok
            · rw [hN rfl]
              unfold graphRes
              repeat' (first | (with_reducible first | refine aw_seq ?_ | refine thn_normal ?_ | refine thn_ret ?_ | refine thn_exit ?_ | refine blk_normal ?_ | refine blk_ret ?_ | refine blk_hit ?_ | refine blk_miss rfl ?_ | refine aw_block ?_ | refine aw_ret ?_ | refine aw_skip ?_ | refine aw_exit ?_ | refine w_nil ?_ | refine x_nil (by kernel_rfl) ?_) | refine aw_region ?_ | refine aw_region_draw (by kernel_rfl) ?_ | refine aw_yes rfl ?_ | refine aw_no rfl ?_ | ((with_reducible refine w_seq ?_); first | refine r_q tbOk rfl rfl rfl rfl ?_ | refine r_e tbOk rfl rfl rfl rfl rfl ?_ | refine r_yes tbOk rfl rfl rfl rfl rfl rfl ?_ | refine w_no rfl rfl (lookO_spec rfl) rfl rfl rfl ?_ | refine w_un rfl rfl (lookO_spec rfl) rfl rfl ?_) | ((with_reducible refine w_drw ?_); first | refine rx_q tbOk rfl rfl rfl rfl ?_ | refine rx_e tbOk rfl rfl rfl rfl rfl ?_ | refine rx_yes tbOk rfl rfl rfl rfl rfl rfl ?_ | refine x_no rfl rfl (lookO_spec rfl) rfl rfl rfl ?_ | refine x_un rfl rfl (lookO_spec rfl) rfl rfl ?_) | ((first | refine' w_q rfl rfl ?xa rfl ?_ | refine' v_q rfl rfl ?xa rfl ?_ | refine' w_yes rfl rfl (lookO_spec rfl) rfl ?xa rfl ?_ | refine' v_yes rfl rfl (lookO_spec rfl) rfl ?xa rfl ?_); case xa => first | exact k_index tbOk rfl rfl rfl rfl (by omega) (by exact hix0) | exact k_call KG rfl ⟨asA_agg (evO_spec rfl) ⟨cAr_r, cAr_own0 (lookHO_spec rfl) hrow, trivial⟩, trivial⟩) | ((first | refine aw_ways rfl ?_ ?_ | refine r_split rfl rfl rfl ?_ ?_) <;> intro hg_ <;> fail_if_success (exact Bool.noConfusion hg_)) <;> (try simp only [prn] at hg_) <;> (try first | contradiction | (exfalso; omega)))
              all_goals first
                | exact ret_2 (rv_cell rfl rfl (by (with_reducible first | exact ty3 | exact ty4 | exact ty5 | exact ty9 | exact ty17 | exact ty19 | exact ty22 | exact ty23 | exact ty25 | exact ty26 | exact ty28 | exact ty30 | exact ty36 | exact ty38 | exact ty40 | exact ty45 | exact ty66 | exact ty77 | exact ty80 | exact ty100 | exact ty112 | exact ty118 | exact ty126 | exact ty128 | exact ty131 | exact ty132)) rfl rfl rfl (dres_agg (by exact ⟨cres_val, cres_nil, trivial⟩))) (rv_tmp rfl (dres_bool rfl))
                | (exfalso; omega)
                | trace_state
            · obtain ⟨h1, h2⟩ := hT rfl
              rw [hG1 h1, h2, Option.map_some, List.append_nil]
              dsimp only
              clear hT hN hG1 hG0 h2
              generalize gOk n es = g at *
              by_cases hj : j = (b0.length : Int)
              · cases g
                · rw [if_neg (by simp)]
                  unfold graphRes
                  repeat' (first | (with_reducible first | refine aw_seq ?_ | refine thn_normal ?_ | refine thn_ret ?_ | refine thn_exit ?_ | refine blk_normal ?_ | refine blk_ret ?_ | refine blk_hit ?_ | refine blk_miss rfl ?_ | refine aw_block ?_ | refine aw_ret ?_ | refine aw_skip ?_ | refine aw_exit ?_ | refine w_nil ?_ | refine x_nil (by kernel_rfl) ?_) | refine aw_region ?_ | refine aw_region_draw (by kernel_rfl) ?_ | refine aw_yes rfl ?_ | refine aw_no rfl ?_ | ((with_reducible refine w_seq ?_); first | refine r_q tbOk rfl rfl rfl rfl ?_ | refine r_e tbOk rfl rfl rfl rfl rfl ?_ | refine r_yes tbOk rfl rfl rfl rfl rfl rfl ?_ | refine w_no rfl rfl (lookO_spec rfl) rfl rfl rfl ?_ | refine w_un rfl rfl (lookO_spec rfl) rfl rfl ?_) | ((with_reducible refine w_drw ?_); first | refine rx_q tbOk rfl rfl rfl rfl ?_ | refine rx_e tbOk rfl rfl rfl rfl rfl ?_ | refine rx_yes tbOk rfl rfl rfl rfl rfl rfl ?_ | refine x_no rfl rfl (lookO_spec rfl) rfl rfl rfl ?_ | refine x_un rfl rfl (lookO_spec rfl) rfl rfl ?_) | ((first | refine' w_q rfl rfl ?xa rfl ?_ | refine' v_q rfl rfl ?xa rfl ?_ | refine' w_yes rfl rfl (lookO_spec rfl) rfl ?xa rfl ?_ | refine' v_yes rfl rfl (lookO_spec rfl) rfl ?xa rfl ?_); case xa => first | exact k_index tbOk rfl rfl rfl rfl (by omega) (by exact hix0) | exact k_call KG rfl ⟨asA_agg (evO_spec rfl) ⟨cAr_r, cAr_own0 (lookHO_spec rfl) hrow, trivial⟩, trivial⟩) | ((first | refine aw_ways rfl ?_ ?_ | refine r_split rfl rfl rfl ?_ ?_) <;> intro hg_ <;> fail_if_success (exact Bool.noConfusion hg_)) <;> (try simp only [prn] at hg_) <;> (try first | contradiction | (exfalso; omega)))
                  all_goals first
                    | exact ret_2 (rv_cell rfl rfl (by (with_reducible first | exact ty3 | exact ty4 | exact ty5 | exact ty9 | exact ty17 | exact ty19 | exact ty22 | exact ty23 | exact ty25 | exact ty26 | exact ty28 | exact ty30 | exact ty36 | exact ty38 | exact ty40 | exact ty45 | exact ty66 | exact ty77 | exact ty80 | exact ty100 | exact ty112 | exact ty118 | exact ty126 | exact ty128 | exact ty131 | exact ty132)) rfl rfl rfl (dres_agg (by exact ⟨cres_val, cres_nil, trivial⟩))) (rv_tmp rfl (dres_bool rfl))
                    | (exfalso; omega)
                    | trace_state
                · rw [if_pos ⟨hj, rfl⟩]
                  unfold graphRes
                  dsimp only
                  rw [show decide (es = []) = false by simp [hne]]
                  repeat' (first | (with_reducible first | refine aw_seq ?_ | refine thn_normal ?_ | refine thn_ret ?_ | refine thn_exit ?_ | refine blk_normal ?_ | refine blk_ret ?_ | refine blk_hit ?_ | refine blk_miss rfl ?_ | refine aw_block ?_ | refine aw_ret ?_ | refine aw_skip ?_ | refine aw_exit ?_ | refine w_nil ?_ | refine x_nil (by kernel_rfl) ?_) | refine aw_region ?_ | refine aw_region_draw (by kernel_rfl) ?_ | refine aw_yes rfl ?_ | refine aw_no rfl ?_ | ((with_reducible refine w_seq ?_); first | refine r_q tbOk rfl rfl rfl rfl ?_ | refine r_e tbOk rfl rfl rfl rfl rfl ?_ | refine r_yes tbOk rfl rfl rfl rfl rfl rfl ?_ | refine w_no rfl rfl (lookO_spec rfl) rfl rfl rfl ?_ | refine w_un rfl rfl (lookO_spec rfl) rfl rfl ?_) | ((with_reducible refine w_drw ?_); first | refine rx_q tbOk rfl rfl rfl rfl ?_ | refine rx_e tbOk rfl rfl rfl rfl rfl ?_ | refine rx_yes tbOk rfl rfl rfl rfl rfl rfl ?_ | refine x_no rfl rfl (lookO_spec rfl) rfl rfl rfl ?_ | refine x_un rfl rfl (lookO_spec rfl) rfl rfl ?_) | ((first | refine' w_q rfl rfl ?xa rfl ?_ | refine' v_q rfl rfl ?xa rfl ?_ | refine' w_yes rfl rfl (lookO_spec rfl) rfl ?xa rfl ?_ | refine' v_yes rfl rfl (lookO_spec rfl) rfl ?xa rfl ?_); case xa => first | exact k_index tbOk rfl rfl rfl rfl (by omega) (by exact hix0) | exact k_call KG rfl ⟨asA_agg (evO_spec rfl) ⟨cAr_r, cAr_own0 (lookHO_spec rfl) hrow, trivial⟩, trivial⟩) | ((first | refine aw_ways rfl ?_ ?_ | refine r_split rfl rfl rfl ?_ ?_) <;> intro hg_ <;> fail_if_success (exact Bool.noConfusion hg_)) <;> (try simp only [prn] at hg_) <;> (try first | contradiction | (exfalso; omega)))
                  all_goals first
                    | exact ret_2 (rv_cell rfl rfl (by (with_reducible first | exact ty3 | exact ty4 | exact ty5 | exact ty9 | exact ty17 | exact ty19 | exact ty22 | exact ty23 | exact ty25 | exact ty26 | exact ty28 | exact ty30 | exact ty36 | exact ty38 | exact ty40 | exact ty45 | exact ty66 | exact ty77 | exact ty80 | exact ty100 | exact ty112 | exact ty118 | exact ty126 | exact ty128 | exact ty131 | exact ty132)) rfl rfl rfl (dres_agg (by exact ⟨cres_val, cres_own0 (lookHO_spec rfl) hrow, trivial⟩))) (rv_tmp rfl (dres_bool rfl))
                    | (exfalso; omega)
                    | trace_state
              · rw [if_neg (fun h => hj h.1)]
                unfold graphRes
                repeat' (first | (with_reducible first | refine aw_seq ?_ | refine thn_normal ?_ | refine thn_ret ?_ | refine thn_exit ?_ | refine blk_normal ?_ | refine blk_ret ?_ | refine blk_hit ?_ | refine blk_miss rfl ?_ | refine aw_block ?_ | refine aw_ret ?_ | refine aw_skip ?_ | refine aw_exit ?_ | refine w_nil ?_ | refine x_nil (by kernel_rfl) ?_) | refine aw_region ?_ | refine aw_region_draw (by kernel_rfl) ?_ | refine aw_yes rfl ?_ | refine aw_no rfl ?_ | ((with_reducible refine w_seq ?_); first | refine r_q tbOk rfl rfl rfl rfl ?_ | refine r_e tbOk rfl rfl rfl rfl rfl ?_ | refine r_yes tbOk rfl rfl rfl rfl rfl rfl ?_ | refine w_no rfl rfl (lookO_spec rfl) rfl rfl rfl ?_ | refine w_un rfl rfl (lookO_spec rfl) rfl rfl ?_) | ((with_reducible refine w_drw ?_); first | refine rx_q tbOk rfl rfl rfl rfl ?_ | refine rx_e tbOk rfl rfl rfl rfl rfl ?_ | refine rx_yes tbOk rfl rfl rfl rfl rfl rfl ?_ | refine x_no rfl rfl (lookO_spec rfl) rfl rfl rfl ?_ | refine x_un rfl rfl (lookO_spec rfl) rfl rfl ?_) | ((first | refine' w_q rfl rfl ?xa rfl ?_ | refine' v_q rfl rfl ?xa rfl ?_ | refine' w_yes rfl rfl (lookO_spec rfl) rfl ?xa rfl ?_ | refine' v_yes rfl rfl (lookO_spec rfl) rfl ?xa rfl ?_); case xa => first | exact k_index tbOk rfl rfl rfl rfl (by omega) (by exact hix0) | exact k_call KG rfl ⟨asA_agg (evO_spec rfl) ⟨cAr_r, cAr_own0 (lookHO_spec rfl) hrow, trivial⟩, trivial⟩) | ((first | refine aw_ways rfl ?_ ?_ | refine r_split rfl rfl rfl ?_ ?_) <;> intro hg_ <;> fail_if_success (exact Bool.noConfusion hg_)) <;> (try simp only [prn] at hg_) <;> (try first | contradiction | (exfalso; omega)))
                all_goals first
                  | exact ret_2 (rv_cell rfl rfl (by (with_reducible first | exact ty3 | exact ty4 | exact ty5 | exact ty9 | exact ty17 | exact ty19 | exact ty22 | exact ty23 | exact ty25 | exact ty26 | exact ty28 | exact ty30 | exact ty36 | exact ty38 | exact ty40 | exact ty45 | exact ty66 | exact ty77 | exact ty80 | exact ty100 | exact ty112 | exact ty118 | exact ty126 | exact ty128 | exact ty131 | exact ty132)) rfl rfl rfl (dres_agg (by exact ⟨cres_val, cres_nil, trivial⟩))) (rv_tmp rfl (dres_bool rfl))
                  | (exfalso; omega)
                  | trace_state
    · rw [if_neg ht]
      unfold graphRes
      refine fn_of (l := [.cell 2 25, .tmp 3]) Try.func27 (by kernel_rfl) rfl Try.ntmps27 rfl rfl ?_; simp only [argEnv, P0.d, Nat.reduceAdd]
      repeat' (first | (with_reducible first | refine aw_seq ?_ | refine thn_normal ?_ | refine thn_ret ?_ | refine thn_exit ?_ | refine blk_normal ?_ | refine blk_ret ?_ | refine blk_hit ?_ | refine blk_miss rfl ?_ | refine aw_block ?_ | refine aw_ret ?_ | refine aw_skip ?_ | refine aw_exit ?_ | refine w_nil ?_ | refine x_nil (by kernel_rfl) ?_) | refine aw_region ?_ | refine aw_region_draw (by kernel_rfl) ?_ | refine aw_yes rfl ?_ | refine aw_no rfl ?_ | ((with_reducible refine w_seq ?_); first | refine r_q tbOk rfl rfl rfl rfl ?_ | refine r_e tbOk rfl rfl rfl rfl rfl ?_ | refine r_yes tbOk rfl rfl rfl rfl rfl rfl ?_ | refine w_no rfl rfl (lookO_spec rfl) rfl rfl rfl ?_ | refine w_un rfl rfl (lookO_spec rfl) rfl rfl ?_) | ((with_reducible refine w_drw ?_); first | refine rx_q tbOk rfl rfl rfl rfl ?_ | refine rx_e tbOk rfl rfl rfl rfl rfl ?_ | refine rx_yes tbOk rfl rfl rfl rfl rfl rfl ?_ | refine x_no rfl rfl (lookO_spec rfl) rfl rfl rfl ?_ | refine x_un rfl rfl (lookO_spec rfl) rfl rfl ?_) | ((first | refine' w_q rfl rfl ?xa rfl ?_ | refine' v_q rfl rfl ?xa rfl ?_ | refine' w_yes rfl rfl (lookO_spec rfl) rfl ?xa rfl ?_ | refine' v_yes rfl rfl (lookO_spec rfl) rfl ?xa rfl ?_); case xa => exact k_call KS rfl ⟨asA_r (evO_spec rfl), trivial⟩) | ((first | refine aw_ways rfl ?_ ?_ | refine r_split rfl rfl rfl ?_ ?_) <;> intro hg_ <;> fail_if_success (exact Bool.noConfusion hg_)) <;> (try simp only [prn] at hg_) <;> (try first | contradiction | (exfalso; omega)))
      all_goals first
        | exact ret_2 (rv_cell rfl rfl (by (with_reducible first | exact ty3 | exact ty4 | exact ty5 | exact ty9 | exact ty17 | exact ty19 | exact ty22 | exact ty23 | exact ty25 | exact ty26 | exact ty28 | exact ty30 | exact ty36 | exact ty38 | exact ty40 | exact ty45 | exact ty66 | exact ty77 | exact ty80 | exact ty100 | exact ty112 | exact ty118 | exact ty126 | exact ty128 | exact ty131 | exact ty132)) rfl rfl rfl (dres_agg (by exact ⟨cres_val, cres_nil, trivial⟩))) (rv_tmp rfl (dres_bool rfl))
        | (exfalso; omega)
        | trace_state
end Go.Proofs.Ytihpchbkodihpaa.Abs
