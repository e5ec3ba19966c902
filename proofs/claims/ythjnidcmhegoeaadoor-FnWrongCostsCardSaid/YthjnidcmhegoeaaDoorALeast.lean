/- Least costs by states: the program's walk over a heap. No statement of the seat is proved here. -/
import Derived.Test.YthjnidcmhegoeaaDoorTy
import Derived.Lib.Hide
import Derived.Test.YthjnidcmhegoeaaDoorAHeaps
import Derived.Test.YthjnidcmhegoeaaDoorAList
import Derived.Test.YthjnidcmhegoeaaDoorAHopJ
set_option linter.unusedSimpArgs false
set_option linter.unusedVariables false
namespace Go.Proofs.YthjnidcmhegoeaaDoor.Abs
open Go.RowKit
open R (val row ref)

theorem outE_le (es : List E3) (v : Int) : (outE es v).length ≤ es.length := by unfold outE; exact List.length_filter_le _ _
set_option maxRecDepth 100000 in
set_option maxHeartbeats 16000000 in
theorem f_leastCosts (m : Nat) (es : List E3) (s : Int) (hm : m ≤ 16) (hl : es.length ≤ 40) (hI : Inside m es) (hw : ∀ e ∈ es, 0 ≤ e.2.2) (hw2 : ∀ e ∈ es, e.2.2 ≤ 20) (hs : 0 ≤ s ∧ s < (m : Int)) :
    FnO Tryd.prog 62 [.one (row false 1 (lstP m es)), iP s] 3 1 (ints (costsN m es s m)) := by
  have KU := f_unknowns m hm
  have hlp := lstP_len m es
  have hlen0 : (lstP m es).length = m := hlp
  rw [← hlp] at KU
  obtain ⟨u, hu, hni⟩ := u_reached
  obtain ⟨u', hu', hni'⟩ := u_preached
  have hD0 := Dj.init hI hs
  refine fn_ofO Tryd.func62 (by kernel_rfl) rfl Tryd.ntmps62 rfl rfl ?_
  simp only [argEnv, P0.d, Nat.reduceAdd, List.map_cons, List.map_nil]
  repeat' (first | (with_reducible first | refine aw_seq ?_ | refine thn_normal ?_ | refine thn_ret ?_ | refine thn_exit ?_ | refine blk_normal ?_ | refine blk_ret ?_ | refine blk_hit ?_ | refine blk_miss rfl ?_ | refine aw_block ?_ | refine aw_ret ?_ | refine aw_skip ?_ | refine aw_exit ?_ | refine w_nil ?_ | refine x_nil (by kernel_rfl) ?_) | refine aw_region ?_ | refine aw_region_draw (by kernel_rfl) ?_ | refine aw_yes rfl ?_ | refine aw_no rfl ?_ | ((with_reducible refine w_seq ?_); first | refine r_q tbOk rfl rfl rfl rfl ?_ | refine r_e tbOk rfl rfl rfl rfl rfl ?_ | refine r_yes tbOk rfl rfl rfl rfl rfl rfl ?_ | refine w_no rfl rfl (lookO_spec rfl) rfl rfl rfl ?_ | refine w_un rfl rfl (lookO_spec rfl) rfl rfl ?_) | ((with_reducible refine w_drw ?_); first | refine rx_q tbOk rfl rfl rfl rfl ?_ | refine rx_e tbOk rfl rfl rfl rfl rfl ?_ | refine rx_yes tbOk rfl rfl rfl rfl rfl rfl ?_ | refine x_no rfl rfl (lookO_spec rfl) rfl rfl rfl ?_ | refine x_un rfl rfl (lookO_spec rfl) rfl rfl ?_) | ((first | refine' w_e rfl ?xa ?xb ?xc ?xe ?_ | refine' v_e rfl ?xa ?xb ?xc ?xe ?_); (case xa => first | exact e_callO KU rfl rfl ⟨asA_r (evO_spec rfl), trivial⟩ | exact e_build [.tmp 15] tlOk rfl rfl rfl rfl rfl rfl (allN_one rfl) (by simp)); (case xb => rfl); (case xc => rfl); (case xe => rfl); try dsimp only [P0.d, Res.d, List.map_cons, List.map_nil, List.set_cons_zero, List.set_cons_succ, Nat.reduceAdd]) | ((first | refine aw_ways rfl ?_ ?_ | refine r_split rfl rfl rfl ?_ ?_) <;> intro hg_ <;> fail_if_success (exact Bool.noConfusion hg_)) <;> (try simp only [prn] at hg_) <;> (try first | contradiction | (exfalso; omega)))
  rw [hlp]
  obtain ⟨F, hF⟩ : ∃ F : List Int × List (Int × Int) → St, ∀ x, F x = mkS 76 [(6, .one (.ptr 200 0 0 0)), (5, .one (.own 100 0 m 1)), (0, .one (.r false (row false 1 (lstP m es))))] [(200, .var 126 [.own 201 0 x.2.length 2]), (201, .sl 124 2 true (rQ x.2)), (100, .sl 3 1 true (ints x.1))] := ⟨_, fun _ => rfl⟩
  refine aw_loopI (fun x : List Int × List (Int × Int) => (∃ d rk, Dj m es s x.1 x.2 d rk (fun _ => False)) ∧ Hp x.2.length x.2 ∧ x.2.length + open_ es x.1 ≤ 41) F (fun x => x.2.length + open_ es x.1) (List.replicate m (-1), [(0, s)]) ⟨⟨_, _, hD0⟩, (fun k h0 hk => by simp at hk; omega), by have := List.length_filter_le (fun e : E3 => decide (val (List.replicate m (-1)) e.1 = -1)) es; unfold open_; simp; omega⟩ (by rw [hF]; (refine weak_ren [(200, 17), (201, 16), (100, 13)] rfl ?_ ?_ <;> repeat' (first | exact trivial | refine subR_cons rfl ?_ ?_ | refine subHR_cons rfl ?_ ?_ | rfl | (refine d_int ?_; (first | rfl | omega | (rw [IntWalk.i64_in _ (by omega)] <;> omega) | (simp; done) | (simp; omega))) | (refine d_bool ?_; (first | (simp_all; done) | (rw [Bool.eq_iff_iff]; simp_all; done) | (rw [Bool.eq_iff_iff]; simp_all; omega) | (rw [Bool.eq_iff_iff]; simp; omega))) | exact d_own (by rw [ints_len, List.length_replicate])))) ?_
  rintro ⟨xs, q⟩ ⟨⟨d, rk, hD⟩, hH, hQ⟩
  dsimp only at hD hH hQ
  rw [hF]
  dsimp only
  have hxl := hD.len
  have hxi : (ints xs).length = m := by rw [ints_len, hxl]
  have hql := rQ_len q
  have KL := f_heapLen (rQ q) (by omega)
  rw [hql] at KL
  clear KU hD0
  cases q with
  | nil =>
    have hE := (hD.done hI hw hs).2
    rw [hE]
    clear hF
    repeat' (first | (with_reducible first | refine aw_seq ?_ | refine thn_normal ?_ | refine thn_ret ?_ | refine thn_exit ?_ | refine blk_normal ?_ | refine blk_ret ?_ | refine blk_hit ?_ | refine blk_miss rfl ?_ | refine aw_block ?_ | refine aw_ret ?_ | refine aw_skip ?_ | refine aw_exit ?_ | refine w_nil ?_ | refine x_nil (by kernel_rfl) ?_) | refine aw_region ?_ | refine aw_region_draw (by kernel_rfl) ?_ | refine aw_yes rfl ?_ | refine aw_no rfl ?_ | ((with_reducible refine w_seq ?_); first | refine r_q tbOk rfl rfl rfl rfl ?_ | refine r_e tbOk rfl rfl rfl rfl rfl ?_ | refine r_yes tbOk rfl rfl rfl rfl rfl rfl ?_ | refine w_no rfl rfl (lookO_spec rfl) rfl rfl rfl ?_ | refine w_un rfl rfl (lookO_spec rfl) rfl rfl ?_) | ((with_reducible refine w_drw ?_); first | refine rx_q tbOk rfl rfl rfl rfl ?_ | refine rx_e tbOk rfl rfl rfl rfl rfl ?_ | refine rx_yes tbOk rfl rfl rfl rfl rfl rfl ?_ | refine x_no rfl rfl (lookO_spec rfl) rfl rfl rfl ?_ | refine x_un rfl rfl (lookO_spec rfl) rfl rfl ?_) | ((first | refine' w_q rfl rfl ?xa rfl ?_ | refine' v_q rfl rfl ?xa rfl ?_ | refine' w_yes rfl rfl (lookO_spec rfl) rfl ?xa rfl ?_ | refine' v_yes rfl rfl (lookO_spec rfl) rfl ?xa rfl ?_); case xa => exact k_call KL rfl ⟨asA_own0H (evO_spec rfl) (lookHO_spec rfl) rfl, trivial⟩) | ((first | refine aw_ways rfl ?_ ?_ | refine r_split rfl rfl rfl ?_ ?_) <;> intro hg_ <;> fail_if_success (exact Bool.noConfusion hg_)) <;> (try simp only [prn] at hg_) <;> (try first | contradiction | (exfalso; omega)))
    all_goals first
      | (exfalso; simp at *; done)
      | exact ret_own rfl rfl hxi.symm
      | trace_state
  | cons q0 qt =>
    obtain ⟨k, hk⟩ : ∃ k, (q0 :: qt).length = k + 1 := ⟨_, rfl⟩
    obtain ⟨p1, p2, p3, p4, p5, p6⟩ := popH_spec hH (by simp)
    generalize q0 :: qt = q at *
    have hpk : (popH q).length = k := by omega
    have KP := f_heapPop q k hk hH (by omega)
    have hD1 := hD.perm (q' := popR q :: popH q) (fun x => p1.mem_iff.symm)
    have hque := hD1.que _ List.mem_cons_self
    have hbd := hD.bd2 hI hw2 hm
    have hmem : popR q ∈ q := p1.mem_iff.2 List.mem_cons_self
    have hpos := hD.pos
    clear p1 p5 p6
    rw [hk] at hQ KL ⊢
    rw [hk] at hql
    unfold rqI at KP
    generalize popH q = q' at *
    obtain ⟨r, hr⟩ : ∃ r, r = popR q := ⟨_, rfl⟩
    rw [← hr] at KP p2 hD1 hque hmem
    obtain ⟨c, v⟩ := r
    dsimp only at KP hque
    obtain ⟨hdc, ⟨hv0, hv1⟩, _⟩ := hque
    have hcb := hbd.2 _ hmem
    dsimp only at hcb
    clear hr
    obtain ⟨nv, hnv⟩ : ∃ nv : Nat, v = (nv : Int) := ⟨v.toNat, by omega⟩
    by_cases hne : xs.getD (0 + v.toNat) 0 = -1
    · have hvm : Go.Proofs.YthjnidcmhegoeaaDoor.val xs v = -1 := by rw [← val_at]; exact hne
      have hT := hD1.take hI hs p2 hvm
      dsimp only at hT
      have hvv : Go.Proofs.YthjnidcmhegoeaaDoor.val (setv xs v c) v = c := by rw [val_setv hv0 (by omega) hv0, if_pos rfl]
      have hop := open_take hxl ⟨hv0, hv1⟩ hvm (c := c) (by omega) es hI
      have hLm : ∀ e ∈ outE es v, e ∈ es ∧ e.1 = v := fun e he => mem_outE.1 he
      have hT := hT.weak (Y := fun e => e.1 = v ∧ e ∈ outE es v) (fun e he hx => ⟨hx, mem_outE.2 ⟨he, hx⟩⟩)
      have hLl := outE_le es v
      have hat := lstP_at (es := es) hv0 hv1
      have hS : (ints xs).set (0 + v.toNat) (iP c) = ints (setv xs v c) := by rw [ints_set, Nat.zero_add]; rfl
      generalize decide (outE es v = []) = nb at *
      generalize outE es v = L at *
      generalize (fun u => if u = v then m - unset xs else rk u) = rk' at *
      have hx'l : (setv xs v c).length = m := by rw [setv_len]; exact hxl
      have hx'i : (ints (setv xs v c)).length = m := by rw [ints_len, hx'l]
      have hLe := edges_len L
      obtain ⟨xs', hxs'⟩ : ∃ xs', xs' = setv xs v c := ⟨_, rfl⟩
      rw [← hxs'] at hT hvv hop hS hx'l hx'i
      have hfin : ∀ q2 : List (Int × Int), Dj m es s xs' q2 c rk' (fun e => e.1 = v ∧ e ∈ L.drop L.length) → Hp q2.length q2 → q2.length ≤ k + L.length → ∀ s' : St, Weak s' (F (xs', q2)) → ∃ x' : List Int × List (Int × Int), ((∃ d rk, Dj m es s x'.1 x'.2 d rk (fun _ => False)) ∧ Hp x'.2.length x'.2 ∧ x'.2.length + open_ es x'.1 ≤ 41) ∧ Weak s' (F x') ∧ x'.2.length + open_ es x'.1 < k + 1 + open_ es xs := fun q2 h1 h2 h3 s' hs' =>
        ⟨(xs', q2), ⟨⟨c, rk', h1.weak (fun e _ hx => by have := hx.2; rw [List.drop_length] at this; cases this)⟩, h2, by dsimp only; omega⟩, hs', by dsimp only; omega⟩
      clear hxs' hD1 hD hH p2
      repeat' (first | (with_reducible first | refine aw_seq ?_ | refine thn_normal ?_ | refine thn_ret ?_ | refine thn_exit ?_ | refine blk_normal ?_ | refine blk_ret ?_ | refine blk_hit ?_ | refine blk_miss rfl ?_ | refine aw_block ?_ | refine aw_ret ?_ | refine aw_skip ?_ | refine aw_exit ?_ | refine w_nil ?_ | refine x_nil (by kernel_rfl) ?_) | refine aw_region ?_ | refine aw_region_draw (by kernel_rfl) ?_ | refine aw_yes rfl ?_ | refine aw_no rfl ?_ | ((with_reducible refine w_seq ?_); first | refine r_q tbOk rfl rfl rfl rfl ?_ | refine r_e tbOk rfl rfl rfl rfl rfl ?_ | refine r_yes tbOk rfl rfl rfl rfl rfl rfl ?_ | refine w_no rfl rfl (lookO_spec rfl) rfl rfl rfl ?_ | refine w_un rfl rfl (lookO_spec rfl) rfl rfl ?_) | ((with_reducible refine w_drw ?_); first | refine rx_q tbOk rfl rfl rfl rfl ?_ | refine rx_e tbOk rfl rfl rfl rfl rfl ?_ | refine rx_yes tbOk rfl rfl rfl rfl rfl rfl ?_ | refine x_no rfl rfl (lookO_spec rfl) rfl rfl rfl ?_ | refine x_un rfl rfl (lookO_spec rfl) rfl rfl ?_) | ((first | refine' w_q rfl rfl ?xa rfl ?_ | refine' v_q rfl rfl ?xa rfl ?_ | refine' w_yes rfl rfl (lookO_spec rfl) rfl ?xa rfl ?_ | refine' v_yes rfl rfl (lookO_spec rfl) rfl ?xa rfl ?_); case xa => first | exact k_call KL rfl ⟨asA_own0H (evO_spec rfl) (lookHO_spec rfl) hql.symm, trivial⟩ | exact k_ifP hu' hni' rfl rfl | exact k_assert hu hni rfl rfl | exact k_at 36 rfl (k_indexO tbOk rfl rfl rfl rfl (by omega) (by omega)) | exact k_at 45 rfl (k_indexO tbOk rfl rfl rfl rfl (by omega) (by omega)) | exact k_loadI tbOk rfl rfl rfl rfl (by omega) | exact k_at 49 rfl (k_index tbOk rfl rfl rfl rfl (by exact hv0) (by exact hat))) | ((first | refine' w_e rfl ?xa ?xb ?xc ?xe ?_ | refine' v_e rfl ?xa ?xb ?xc ?xe ?_); (case xa => first | exact e_callS [(1000000000, 200), (1000000001, 201)] KP rfl ⟨asD_ren (evO_spec rfl), trivial⟩ (by (repeat' (first | exact trivial | refine subHR_cons rfl ?_ ?_ | rfl))) rfl | exact e_storeS tbOk rfl rfl rfl rfl rfl rfl rfl rfl (by rw [hxi]; omega)); (case xb => rfl); (case xc => rfl); (case xe => rfl); try dsimp only [P0.d, Res.d, List.map_cons, List.map_nil, List.set_cons_zero, List.set_cons_succ, Nat.reduceAdd]) | ((first | refine aw_ways rfl ?_ ?_ | refine r_split rfl rfl rfl ?_ ?_) <;> intro hg_ <;> fail_if_success (exact Bool.noConfusion hg_)) <;> (try simp only [prn] at hg_) <;> (try first | contradiction | (exfalso; omega)))
      all_goals try (exfalso; simp_all; done)
      clear KL KP hat
      obtain ⟨F2, hF2⟩ : ∃ F2 : Nat × List (Int × Int) → St, ∀ x, F2 x = mkS 76 [(52, .one (.r true (int x.1))), (51, .one (.r true (int L.length))), (50, .one (.r false (row nb 3 (edges L)))), (7, .one (.ptr 7 0 0 0)), (6, .one (.ptr 200 0 0 0)), (5, .one (.own 100 0 m 1)), (0, .one (.r false (row false 1 (lstP m es))))] [(7, .var 124 [.r true (int c), .r true (int v)]), (200, .var 126 [.own 201 0 x.2.length 2]), (201, .sl 124 2 true (rQ x.2)), (100, .sl 3 1 true (ints xs'))] := ⟨_, fun _ => rfl⟩
      refine aw_loopI (fun x : Nat × List (Int × Int) => x.1 ≤ L.length ∧ Dj m es s xs' x.2 c rk' (fun e => e.1 = v ∧ e ∈ L.drop x.1) ∧ Hp x.2.length x.2 ∧ x.2.length ≤ k + x.1) F2 (fun x => L.length - x.1) (0, q') ⟨Nat.zero_le _, hT, p3, by dsimp only; omega⟩ (by rw [hF2]; (refine weak_ren [] rfl ?_ ?_ <;> repeat' (first | exact trivial | refine subR_cons rfl ?_ ?_ | refine subHR_cons rfl ?_ ?_ | rfl | (refine d_int ?_; (first | rfl | omega | (rw [IntWalk.i64_in _ (by omega)] <;> omega) | (simp; done) | (simp; omega))) | (refine d_bool ?_; (first | (simp_all; done) | (rw [Bool.eq_iff_iff]; simp_all; done) | (rw [Bool.eq_iff_iff]; simp_all; omega) | (rw [Bool.eq_iff_iff]; simp; omega))) | exact d_int (by rw [hLe]) | exact ovarH (cellH hpk.symm) | exact ob_sl rfl hS))) ?_
      rintro ⟨i, q2⟩ ⟨hi, hD2, hH2, hQ2⟩
      dsimp only at hi hD2 hH2 hQ2
      rw [hF2]
      dsimp only
      have hq2l := rQ_len q2
      by_cases hlt : i < L.length
      · have hix := edges_at hlt
        obtain ⟨he0, he1⟩ := hLm L[i] (List.getElem_mem hlt)
        have hEI := (hI _ he0).2
        have hw0 := hw _ he0
        have hw1 := hw2 _ he0
        rw [List.drop_eq_getElem_cons hlt] at hD2
        have hD3 := hD2.push hI hw he0 he1 hvv
        generalize L[i] = e at *
        obtain ⟨e1, e2, e3⟩ := e
        dsimp only at *
        have hwr : IntKind.i64.wrap (c + e3) = c + e3 := IntWalk.i64_in _ (by omega)
        have hwi : IntKind.i64.wrap ((i : Int) + 1) = ((i + 1 : Nat) : Int) := by rw [IntWalk.i64_in _ (by omega)]; omega
        have KH := f_heapPush q2 (c + e3, e2) (by omega)
        obtain ⟨ps1, ps2⟩ := pushH_spec hH2 (c + e3, e2)
        have hpl := ps1.length_eq
        rw [List.length_cons] at hpl
        unfold Go.Proofs.YthjnidcmhegoeaaDoor.psh at hD3
        dsimp only at hD3
        rw [← val_at] at hD3
        have hN1 : xs'.getD (0 + e2.toNat) 0 = -1 → ∀ s' : St, Weak s' (F2 (i + 1, pushH q2 (c + e3, e2))) → ∃ x' : Nat × List (Int × Int), (x'.1 ≤ L.length ∧ Dj m es s xs' x'.2 c rk' (fun e => e.1 = v ∧ e ∈ L.drop x'.1) ∧ Hp x'.2.length x'.2 ∧ x'.2.length ≤ k + x'.1) ∧ Weak s' (F2 x') ∧ L.length - x'.1 < L.length - i := fun hc s' hs' =>
          ⟨(i + 1, pushH q2 (c + e3, e2)), ⟨hlt, by rw [if_pos hc] at hD3; exact hD3.perm (fun r => ps1.mem_iff), ps2, by dsimp only; omega⟩, hs', by dsimp only; omega⟩
        have hN2 : ¬ xs'.getD (0 + e2.toNat) 0 = -1 → ∀ s' : St, Weak s' (F2 (i + 1, q2)) → ∃ x' : Nat × List (Int × Int), (x'.1 ≤ L.length ∧ Dj m es s xs' x'.2 c rk' (fun e => e.1 = v ∧ e ∈ L.drop x'.1) ∧ Hp x'.2.length x'.2 ∧ x'.2.length ≤ k + x'.1) ∧ Weak s' (F2 x') ∧ L.length - x'.1 < L.length - i := fun hc s' hs' =>
          ⟨(i + 1, q2), ⟨hlt, by rw [if_neg hc] at hD3; exact hD3, hH2, by dsimp only; omega⟩, hs', by dsimp only; omega⟩
        rw [hF2] at hN1 hN2
        dsimp only at hN1 hN2
        rw [hpl] at hN1
        unfold rqI at KH
        dsimp only at KH
        generalize pushH q2 (c + e3, e2) = q3 at *
        rw [← hwr] at KH
        clear hF2 hfin hD2 hD3 hH2 ps1 ps2 hT hLm
        repeat' (first | (with_reducible first | refine aw_seq ?_ | refine thn_normal ?_ | refine thn_ret ?_ | refine thn_exit ?_ | refine blk_normal ?_ | refine blk_ret ?_ | refine blk_hit ?_ | refine blk_miss rfl ?_ | refine aw_block ?_ | refine aw_ret ?_ | refine aw_skip ?_ | refine aw_exit ?_ | refine w_nil ?_ | refine x_nil (by kernel_rfl) ?_) | refine aw_region ?_ | refine aw_region_draw (by kernel_rfl) ?_ | refine aw_yes rfl ?_ | refine aw_no rfl ?_ | ((with_reducible refine w_seq ?_); first | refine r_q tbOk rfl rfl rfl rfl ?_ | refine r_e tbOk rfl rfl rfl rfl rfl ?_ | refine r_yes tbOk rfl rfl rfl rfl rfl rfl ?_ | refine w_no rfl rfl (lookO_spec rfl) rfl rfl rfl ?_ | refine w_un rfl rfl (lookO_spec rfl) rfl rfl ?_) | ((with_reducible refine w_drw ?_); first | refine rx_q tbOk rfl rfl rfl rfl ?_ | refine rx_e tbOk rfl rfl rfl rfl rfl ?_ | refine rx_yes tbOk rfl rfl rfl rfl rfl rfl ?_ | refine x_no rfl rfl (lookO_spec rfl) rfl rfl rfl ?_ | refine x_un rfl rfl (lookO_spec rfl) rfl rfl ?_) | ((first | refine' w_q rfl rfl ?xa rfl ?_ | refine' v_q rfl rfl ?xa rfl ?_ | refine' w_yes rfl rfl (lookO_spec rfl) rfl ?xa rfl ?_ | refine' v_yes rfl rfl (lookO_spec rfl) rfl ?xa rfl ?_); case xa => first | exact k_ifP hu' hni' rfl rfl | exact k_ifA hu hni rfl rfl | exact k_at 54 rfl (k_index tbOk rfl rfl rfl rfl (by omega) (by exact hix)) | exact k_indexO tbOk rfl rfl rfl rfl (by exact hEI.1) (by exact hEI.2) | exact k_loadI tbOk rfl rfl rfl rfl (by first | omega | (dsimp only; omega))) | ((first | refine' w_e rfl ?xa ?xb ?xc ?xe ?_ | refine' v_e rfl ?xa ?xb ?xc ?xe ?_); (case xa => exact e_callS [(1000000000, 200), (1000001, 201), (2000001, 502)] KH rfl ⟨asD_ren (evO_spec rfl), by rw [evO_spec rfl]; exact asD_r rfl, trivial⟩ (by (repeat' (first | exact trivial | refine subHR_cons rfl ?_ ?_ | rfl))) rfl); (case xb => rfl); (case xc => rfl); (case xe => rfl); try dsimp only [P0.d, Res.d, List.map_cons, List.map_nil, List.set_cons_zero, List.set_cons_succ, Nat.reduceAdd]) | ((first | refine aw_ways rfl ?_ ?_ | refine r_split rfl rfl rfl ?_ ?_) <;> intro hg_ <;> fail_if_success (exact Bool.noConfusion hg_)) <;> (try simp only [prn] at hg_) <;> (try first | contradiction | (exfalso; omega)))
        all_goals first
          | (refine hN1 (by simpa using hg_) _ ?_
             (refine weak_ren [(201, 502)] rfl ?_ ?_ <;> repeat' (first | exact trivial | refine subR_cons rfl ?_ ?_ | refine subHR_cons rfl ?_ ?_ | rfl | (refine d_int ?_; (first | rfl | omega | (rw [IntWalk.i64_in _ (by omega)] <;> omega) | (simp; done) | (simp; omega))) | (refine d_bool ?_; (first | (simp_all; done) | (rw [Bool.eq_iff_iff]; simp_all; done) | (rw [Bool.eq_iff_iff]; simp_all; omega) | (rw [Bool.eq_iff_iff]; simp; omega))) | exact d_int hwi)))
          | (refine hN2 (by simpa using hg_) _ ?_
             (refine weak_ren [] rfl ?_ ?_ <;> repeat' (first | exact trivial | refine subR_cons rfl ?_ ?_ | refine subHR_cons rfl ?_ ?_ | rfl | (refine d_int ?_; (first | rfl | omega | (rw [IntWalk.i64_in _ (by omega)] <;> omega) | (simp; done) | (simp; omega))) | (refine d_bool ?_; (first | (simp_all; done) | (rw [Bool.eq_iff_iff]; simp_all; done) | (rw [Bool.eq_iff_iff]; simp_all; omega) | (rw [Bool.eq_iff_iff]; simp; omega))) | exact d_int hwi)))
          | trace_state
      · obtain rfl : i = L.length := by omega
        repeat' (first | (with_reducible first | refine aw_seq ?_ | refine thn_normal ?_ | refine thn_ret ?_ | refine thn_exit ?_ | refine blk_normal ?_ | refine blk_ret ?_ | refine blk_hit ?_ | refine blk_miss rfl ?_ | refine aw_block ?_ | refine aw_ret ?_ | refine aw_skip ?_ | refine aw_exit ?_ | refine w_nil ?_ | refine x_nil (by kernel_rfl) ?_) | refine aw_region ?_ | refine aw_region_draw (by kernel_rfl) ?_ | refine aw_yes rfl ?_ | refine aw_no rfl ?_ | ((with_reducible refine w_seq ?_); first | refine r_q tbOk rfl rfl rfl rfl ?_ | refine r_e tbOk rfl rfl rfl rfl rfl ?_ | refine r_yes tbOk rfl rfl rfl rfl rfl rfl ?_ | refine w_no rfl rfl (lookO_spec rfl) rfl rfl rfl ?_ | refine w_un rfl rfl (lookO_spec rfl) rfl rfl ?_) | ((with_reducible refine w_drw ?_); first | refine rx_q tbOk rfl rfl rfl rfl ?_ | refine rx_e tbOk rfl rfl rfl rfl rfl ?_ | refine rx_yes tbOk rfl rfl rfl rfl rfl rfl ?_ | refine x_no rfl rfl (lookO_spec rfl) rfl rfl rfl ?_ | refine x_un rfl rfl (lookO_spec rfl) rfl rfl ?_) | ((first | refine aw_ways rfl ?_ ?_ | refine r_split rfl rfl rfl ?_ ?_) <;> intro hg_ <;> fail_if_success (exact Bool.noConfusion hg_)) <;> (try simp only [prn] at hg_) <;> (try first | contradiction | (exfalso; omega)))
        all_goals first
          | (refine hfin q2 hD2 hH2 hQ2 _ ?_
             rw [hF]
             (refine weak_ren [] rfl ?_ ?_ <;> repeat' (first | exact trivial | refine subR_cons rfl ?_ ?_ | refine subHR_cons rfl ?_ ?_ | rfl | (refine d_int ?_; (first | rfl | omega | (rw [IntWalk.i64_in _ (by omega)] <;> omega) | (simp; done) | (simp; omega))) | (refine d_bool ?_; (first | (simp_all; done) | (rw [Bool.eq_iff_iff]; simp_all; done) | (rw [Bool.eq_iff_iff]; simp_all; omega) | (rw [Bool.eq_iff_iff]; simp; omega))))))
          | trace_state
    · have hskipF : ∀ s' : St, Weak s' (F (xs, q')) → ∃ x' : List Int × List (Int × Int), ((∃ d rk, Dj m es s x'.1 x'.2 d rk (fun _ => False)) ∧ Hp x'.2.length x'.2 ∧ x'.2.length + open_ es x'.1 ≤ 41) ∧ Weak s' (F x') ∧ x'.2.length + open_ es x'.1 < k + 1 + open_ es xs := fun s' hs' =>
        ⟨(xs, q'), ⟨⟨d, rk, hD1.skip (by rw [val_at] at hne; exact hne)⟩, p3, by dsimp only; omega⟩, hs', by dsimp only; omega⟩
      rw [hF] at hskipF
      clear hF hD1 hD hH
      repeat' (first | (with_reducible first | refine aw_seq ?_ | refine thn_normal ?_ | refine thn_ret ?_ | refine thn_exit ?_ | refine blk_normal ?_ | refine blk_ret ?_ | refine blk_hit ?_ | refine blk_miss rfl ?_ | refine aw_block ?_ | refine aw_ret ?_ | refine aw_skip ?_ | refine aw_exit ?_ | refine w_nil ?_ | refine x_nil (by kernel_rfl) ?_) | refine aw_region ?_ | refine aw_region_draw (by kernel_rfl) ?_ | refine aw_yes rfl ?_ | refine aw_no rfl ?_ | ((with_reducible refine w_seq ?_); first | refine r_q tbOk rfl rfl rfl rfl ?_ | refine r_e tbOk rfl rfl rfl rfl rfl ?_ | refine r_yes tbOk rfl rfl rfl rfl rfl rfl ?_ | refine w_no rfl rfl (lookO_spec rfl) rfl rfl rfl ?_ | refine w_un rfl rfl (lookO_spec rfl) rfl rfl ?_) | ((with_reducible refine w_drw ?_); first | refine rx_q tbOk rfl rfl rfl rfl ?_ | refine rx_e tbOk rfl rfl rfl rfl rfl ?_ | refine rx_yes tbOk rfl rfl rfl rfl rfl rfl ?_ | refine x_no rfl rfl (lookO_spec rfl) rfl rfl rfl ?_ | refine x_un rfl rfl (lookO_spec rfl) rfl rfl ?_) | ((first | refine' w_q rfl rfl ?xa rfl ?_ | refine' v_q rfl rfl ?xa rfl ?_ | refine' w_yes rfl rfl (lookO_spec rfl) rfl ?xa rfl ?_ | refine' v_yes rfl rfl (lookO_spec rfl) rfl ?xa rfl ?_); case xa => first | exact k_call KL rfl ⟨asA_own0H (evO_spec rfl) (lookHO_spec rfl) hql.symm, trivial⟩ | exact k_ifP hu' hni' rfl rfl | exact k_assert hu hni rfl rfl | exact k_at 36 rfl (k_indexO tbOk rfl rfl rfl rfl (by omega) (by omega)) | exact k_loadI tbOk rfl rfl rfl rfl (by omega)) | ((first | refine' w_e rfl ?xa ?xb ?xc ?xe ?_ | refine' v_e rfl ?xa ?xb ?xc ?xe ?_); (case xa => exact e_callS [(1000000000, 200), (1000000001, 201)] KP rfl ⟨asD_ren (evO_spec rfl), trivial⟩ (by (repeat' (first | exact trivial | refine subHR_cons rfl ?_ ?_ | rfl))) rfl); (case xb => rfl); (case xc => rfl); (case xe => rfl); try dsimp only [P0.d, Res.d, List.map_cons, List.map_nil, List.set_cons_zero, List.set_cons_succ, Nat.reduceAdd]) | ((first | refine aw_ways rfl ?_ ?_ | refine r_split rfl rfl rfl ?_ ?_) <;> intro hg_ <;> fail_if_success (exact Bool.noConfusion hg_)) <;> (try simp only [prn] at hg_) <;> (try first | contradiction | (exfalso; omega)))
      all_goals first
        | (refine hskipF _ ?_
           (refine weak_ren [] rfl ?_ ?_ <;> repeat' (first | exact trivial | refine subR_cons rfl ?_ ?_ | refine subHR_cons rfl ?_ ?_ | rfl | (refine d_int ?_; (first | rfl | omega | (rw [IntWalk.i64_in _ (by omega)] <;> omega) | (simp; done) | (simp; omega))) | (refine d_bool ?_; (first | (simp_all; done) | (rw [Bool.eq_iff_iff]; simp_all; done) | (rw [Bool.eq_iff_iff]; simp_all; omega) | (rw [Bool.eq_iff_iff]; simp; omega))) | exact ovarH (cellH hpk.symm))))
        | (exfalso; simp_all; done)
        | trace_state
end Go.Proofs.YthjnidcmhegoeaaDoor.Abs
