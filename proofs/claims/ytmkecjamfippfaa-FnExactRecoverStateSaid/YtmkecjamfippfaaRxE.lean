/- slices.Concat of two rows of numbers. No statement of the seat is proved here. -/
import Derived.Deep.RegionHeld3
import Derived.Deep.RegionLaw
import Derived.Lib.Hide
import Derived.Test.YtmkecjamfippfaaRxD
set_option linter.unusedSimpArgs false
set_option linter.unusedVariables false
namespace Go.Proofs.Ytmkecjamfippfaa.Abs
open Go.RowKit
open R (val row ref)

set_option maxRecDepth 100000 in
set_option maxHeartbeats 1000000 in
theorem sliceGrowN (n : Nat) (w : World) (hn : n ≤ 4194304) :
    Calls Try.prog 137 #[.slice none 0 0, .int .i64 n] w fun e w' => ∃ ao c, e = .returned (.slice ao 0 c) ∧ Own w' w.heap.size 3 1 ao 0 c [] ∧ Below w.heap.size w w' ∧ (ao = none ↔ n = 0) := by
  by_cases h0 : n = 0
  · subst h0
    go_enter Try.func137, Try.ntmps137
    go_wp2
    go_ret
    exact ⟨none, 0, rfl, Own.nil_ _ _ _ _, Below.refl _ _, by simp⟩
  · obtain ⟨i, hi, hz, hsz, hby⟩ := (el_int).info
    have hp : (0 : Int) < n := by omega
    have hold : (Builtin.firstCells i.size 0 (.slice none 0 0)).run Try.prog w.drew = .ok (([] : List Value)).toArray w.drew := by
      rw [hsz]; exact run_firstCells_none w.drew 1 0 0 0
    have hf : Builtin.nextslicecap (0 + n) 0 * i.bytes ≤ 281474976710656 := by
      rw [hby]; exact growslice_fits (by omega) (by omega)
    have hr := fun ty => Lib.run_append_grow_zeros (P := Try.prog) w 24 3 ty 3 i (.int .i64 0) .i64 .i64 Try.underlying24 Try.underlying3 hi hz none 0 0 [] hold n (by omega) (by rw [hsz]; omega) (by omega) (by omega) (by rw [hby]; omega) hf
    rw [Nat.zero_add] at hr
    have hG1 : n ≤ grownCap w n 0 3 := grownCap_ge w _ _ _
    have hG2 := grownCap_le_maxLen w n 0 3 (by unfold maxLen; omega)
    generalize grownCap w n 0 3 = G at *
    have hGm : G ≤ 9223372036854775807 := by unfold maxLen at hG2; omega
    have HG := Lib.hid hG2
    clear hold hf hi hz hsz hby hG2
    go_enter Try.func137, Try.ntmps137
    go_wp2_with (at_builtin; refine Lib.wpList_append_run _ rfl _ _ _ _ rfl _ _ rfl rfl _ _ (hr _) ?_)
    all_goals
      go_ret
      refine ⟨_, _, rfl, ?_, ?_, by simp [h0]⟩
      · exact own_cap _ _ (by simp [Builtin.zeroCells, show (Value.int IntKind.i64 0).cells = #[.int .i64 0] from rfl]; try omega) HG.out
      · exact (by repeat' (first|(with_reducible exact Below.refl _ _)|(with_reducible assumption)|(with_reducible refine Below.alloc ?_ ?_ _)|(with_reducible refine Below.drew ?_)|(with_reducible refine below_drewN ?_ _)|(with_reducible refine Below.setCell ?_ ?_ _)|(refine bstep (by with_reducible assumption) ?_)|(refine bstep2 (by with_reducible assumption) (by first|omega|(simp; done)|(simp; omega)) ?_)|go_size))
set_option maxRecDepth 100000 in
set_option maxHeartbeats 1000000 in
theorem sliceConcatN (B o cp : Nat) (a1 a2 : Option Addr) (c1 c2 : Nat) (xs ys : List Int) (w : World) (hx : xs.length ≤ 1048576) (hy : ys.length ≤ 1048576) (h1 : Sl w a1 xs) (h2 : Sl w a2 ys)
    (hc1 : w.cell? ⟨B, o, none⟩ = some (.slice a1 xs.length c1)) (hc2 : w.cell? ⟨B, o + 1, none⟩ = some (.slice a2 ys.length c2)) :
    Calls Try.prog 125 #[.slice (some ⟨B, o, none⟩) 2 cp] w fun e w' => ∃ ao c, e = .returned (.slice ao (xs ++ ys).length c) ∧ Own w' w.heap.size 3 1 ao (xs ++ ys).length c (iv (xs ++ ys)) ∧ Below w.heap.size w w' ∧ (ao = none ↔ xs.length + ys.length = 0) := by
  have hBw := World.block_lt_of_cell? w _ hc1
  have H1 := Lib.hid h1
  have H2 := Lib.hid h2
  clear h1 h2
  have hs := sz_ints
  go_enter Try.func125, Try.ntmps125
  go_wp2
  refine wp_loop_rounds 3 ?_
  rw [rounds_succ]
  go_wp2
  rw [rounds_succ]
  go_wp2
  rw [rounds_succ]
  go_wp2_with fail
  refine (sliceGrowN (xs.length + ys.length) _ (by omega)).mono ?_
  rintro e w1 ⟨ao1, k1, rfl, hown1, hb1, hn1⟩
  have hc1' := (hb1.cell (p := ⟨B, o, none⟩) hBw).trans hc1
  have hc2' := (hb1.cell (p := ⟨B, o + 1, none⟩) hBw).trans hc2
  have hz1 := hb1.size
  have C2 := Lib.hid hc2
  clear hc1 hc2
  go_wp2
  have O1 := Lib.hid hown1
  clear hown1
  refine wp_loop_rounds 3 ?_
  rw [rounds_succ]
  go_wp2_with (first | (at_builtin; refine wp_app _ el_int rfl (.tmp 31) (.tmp 32) rfl w.heap.size rfl O1.out rfl (H1.out.below hb1 (Nat.le_refl _)) (oneCell_iv _) (by simp only [maxLen]; omega) (by omega) (by omega) ?_; intro ao2 k2 w2 hown2 hg2 hat2 hz2))
  have hb2 : Below w.heap.size w w2 := hb1.grown hg2 hb1.size (fun g hg => (O1.out.lt_ g hg).1)
  have hzz2 := hg2.size
  rw [Nat.zero_add, List.nil_append] at hown2
  have hc3 := (hb2.cell (p := ⟨B, o + 1, none⟩) hBw).trans C2.out
  clear hc1' hc2'
  rw [rounds_succ]
  go_wp2_with (first | (at_builtin; refine wp_app _ el_int rfl (.tmp 31) (.tmp 32) rfl w.heap.size rfl hown2 rfl (H2.out.below hb2 (Nat.le_refl _)) (oneCell_iv _) (by simp only [maxLen]; omega) (by omega) (by omega) ?_; intro ao3 k3 w3 hown3 hg3 hat3 hz3))
  have hb3 : Below w.heap.size w w3 := hb2.grown hg3 hb2.size (fun g hg => (hown2.lt_ g hg).1)
  have O3 := Lib.hid hown3
  clear hown3 hown2
  rw [rounds_succ]
  go_wp2
  go_ret
  refine ⟨ao3, k3, by rw [List.length_append]; simp, ?_, hb3, ?_⟩
  · have h := O3.out
    simpa [iv] using h
  · rw [hz3, hz2, hn1]
    omega
theorem own_res {w' : World} {base c : Nat} {ao : Option Addr} {xs : List Int} {nil : Bool} (h : Own w' base 3 1 ao xs.length c (iv xs)) (hn : ao = none ↔ nil = true) : (P0.one (row nil 1 (ints xs))).p ⟨w', fun b => b < base⟩ (.slice ao xs.length c) := by
  obtain ⟨b, o, ha, hi⟩ := h.sl.ints
  rcases h.2 with ⟨hv, h0⟩ | ⟨g, cap, cur, hv, hg, hh, hnc, hcm, hcs, ht⟩
  · simp at hv
    obtain ⟨rfl, h0', rfl⟩ := hv
    refine row_p.2 ⟨none, 0, by rw [ints_len], by rw [ints_len]; simp only [maxLen]; omega, hn.symm, fun _ => rfl, fun hp => by rw [ints_len] at hp; omega⟩
  · simp at hv
    obtain ⟨rfl, rfl⟩ := hv
    refine row_p.2 ⟨_, c, by rw [ints_len], by rw [ints_len]; exact ⟨hnc, hcm⟩, hn.symm, fun h => by (cases h), fun hp => ⟨g, 0, rfl, lt_of_heap hh, ?_, fun i e he => ?_⟩⟩
    · show ¬ g < base
      omega
    · unfold ints at he
      rw [List.getElem?_map, Option.map_eq_some_iff] at he
      obtain ⟨z, hz1, rfl⟩ := he
      refine ⟨rfl, fun j r hj => ?_⟩
      match j, hj with
      | 0, hj =>
        obtain rfl : int z = r := by simpa [P0.rs] using hj
        obtain ⟨hil, hzz⟩ := List.getElem?_eq_some_iff.1 hz1
        refine ⟨.int .i64 z, ?_, (val_p (c := ⟨w', fun b => b < base⟩)).2 ⟨rfl, rfl⟩⟩
        have := hi i hil
        rw [List.getD_eq_getElem?_getD, hz1] at this
        have ha' := ha.resolve_left (by omega)
        injection ha' with ha'
        injection ha' with hb ho
        subst hb ho
        show w'.cell? ⟨g, 0 + i * 1 + 0, none⟩ = _
        rw [Nat.mul_one, Nat.add_zero]
        exact this
      | j + 1, hj => simp [P0.rs] at hj
def rows2 (n1 : Bool) (xs : List Int) (n2 : Bool) (ys : List Int) : List P0 := [.one (row n1 1 (ints xs)), .one (row n2 1 (ints ys))]
theorem f_concat (n1 n2 : Bool) (xs ys : List Int) (hx : xs.length ≤ 1048576) (hy : ys.length ≤ 1048576) :
    Fn Try.prog 125 [.one (row false 1 (rows2 n1 xs n2 ys))] (.v (.one (row (decide (xs.length + ys.length = 0)) 1 (ints (xs ++ ys))))) := by
  refine ⟨ent_of Try.func125 (by kernel_rfl) rfl, fun w vs _ hA => ?_⟩
  match vs, hA with
  | [v], ⟨h1, _⟩ =>
    obtain ⟨ao, cap, rfl, hc, _, _, h5⟩ := row_p.1 h1
    obtain ⟨b, o, rfl, hb, _, hr⟩ := h5 (by unfold rows2; simp)
    obtain ⟨_, g1⟩ := hr 0 _ rfl
    obtain ⟨_, g2⟩ := hr 1 _ rfl
    obtain ⟨u1, e1, p1⟩ := g1 0 _ rfl
    obtain ⟨u2, e2, p2⟩ := g2 0 _ rfl
    obtain ⟨a1, c1, rfl, s1, _⟩ := ints_arg p1
    obtain ⟨a2, c2, rfl, s2, _⟩ := ints_arg p2
    refine (sliceConcatN b o cap a1 a2 c1 c2 xs ys w hx hy s1 s2 ?_ ?_).mono ?_
    · simpa using e1
    · simpa using e2
    · rintro e w' ⟨ao, c, rfl, hO, hB, hn⟩
      exact ⟨_, rfl, own_res hO (by rw [hn]; simp), hB⟩
end Go.Proofs.Ytmkecjamfippfaa.Abs
set_option linter.unusedSimpArgs false
set_option linter.unusedVariables false
namespace Go.Proofs.Ytmkecjamfippfaa.Abs
open Go.RowKit
open R (val row ref)

end Go.Proofs.Ytmkecjamfippfaa.Abs
set_option linter.unusedSimpArgs false
set_option linter.unusedVariables false
namespace Go.Proofs.Ytmkecjamfippfaa.Abs
open Go.RowKit
open R (val row ref)

end Go.Proofs.Ytmkecjamfippfaa.Abs
set_option linter.unusedSimpArgs false
set_option linter.unusedVariables false
namespace Go.Proofs.Ytmkecjamfippfaa.Abs
open Go.RowKit
open R (val row ref)

theorem allN_two {sz : Nat} {a b : P0} (ha : a.n = sz) (hb : b.n = sz) : AllN sz [a, b] := fun i e he => by
  match i, he with
  | 0, he => obtain rfl : a = e := by simpa using he
             exact ha
  | 1, he => obtain rfl : b = e := by simpa using he
             exact hb
  | i + 2, he => simp at he
theorem cres_own0D {H : Nat → Option Ob} {k n sz : Nat} {E : TypeId} {els els' : List P0} (hk : H k = some (.sl E sz true els)) (hn : n = els.length) (he : els = els') : CRes H (.own k 0 n sz) (row false sz els') := he ▸ cres_own0 hk hn
set_option maxRecDepth 100000 in
set_option maxHeartbeats 4000000 in
theorem f_cloneD (nil : Bool) (xs : List Int) (hn : nil = true → xs = []) (hl : xs.length ≤ 1048576) : Fn Try.prog 101 [.one (row nil 1 (ints xs))] (.v (.one (row nil 1 (ints xs)))) := by
  have hlen := ints_len xs
  cases nil with
  | true =>
    have := hn rfl
    subst this
    refine fn_of (l := [.tmp 2]) Try.func101 (by kernel_rfl) rfl Try.ntmps101 rfl rfl ?_; simp only [argEnv, P0.d, Nat.reduceAdd]
    repeat' (first|(with_reducible first|refine aw_seq ?_|refine thn_normal ?_|refine thn_ret ?_|refine thn_exit ?_|refine blk_normal ?_|refine blk_ret ?_|refine blk_hit ?_|refine blk_miss rfl ?_|refine aw_block ?_|refine aw_ret ?_|refine aw_skip ?_|refine aw_exit ?_|refine w_nil ?_|refine x_nil (by kernel_rfl) ?_)|refine aw_region ?_|refine aw_region_draw (by kernel_rfl) ?_|refine aw_yes rfl ?_|refine aw_no rfl ?_|((with_reducible refine w_seq ?_); first|refine r_q tbOk rfl rfl rfl rfl ?_|refine r_e tbOk rfl rfl rfl rfl rfl ?_|refine r_yes tbOk rfl rfl rfl rfl rfl rfl ?_|refine w_no rfl rfl (lookO_spec rfl) rfl rfl rfl ?_|refine w_un rfl rfl (lookO_spec rfl) rfl rfl ?_)|((with_reducible refine w_drw ?_); first|refine rx_q tbOk rfl rfl rfl rfl ?_|refine rx_e tbOk rfl rfl rfl rfl rfl ?_|refine rx_yes tbOk rfl rfl rfl rfl rfl rfl ?_|refine x_no rfl rfl (lookO_spec rfl) rfl rfl rfl ?_|refine x_un rfl rfl (lookO_spec rfl) rfl rfl ?_)|((first|refine' w_q rfl rfl ?xa rfl ?_|refine' v_q rfl rfl ?xa rfl ?_|refine' w_yes rfl rfl (lookO_spec rfl) rfl ?xa rfl ?_|refine' v_yes rfl rfl (lookO_spec rfl) rfl ?xa rfl ?_); case xa => exact k_nil_eq tbOk rfl rfl rfl rfl)|((first|refine aw_ways rfl ?_ ?_|refine r_split rfl rfl rfl ?_ ?_) <;> intro hg_ <;> fail_if_success (exact Bool.noConfusion hg_)) <;> (try simp only [prn] at hg_) <;> (try first|contradiction|(exfalso; omega)))
    exact ret_tmp rfl (dres_one cres_nil)
  | false =>
    refine fn_of (l := [.tmp 2]) Try.func101 (by kernel_rfl) rfl Try.ntmps101 rfl rfl ?_; simp only [argEnv, P0.d, Nat.reduceAdd]
    repeat' (first|(with_reducible first|refine aw_seq ?_|refine thn_normal ?_|refine thn_ret ?_|refine thn_exit ?_|refine blk_normal ?_|refine blk_ret ?_|refine blk_hit ?_|refine blk_miss rfl ?_|refine aw_block ?_|refine aw_ret ?_|refine aw_skip ?_|refine aw_exit ?_|refine w_nil ?_|refine x_nil (by kernel_rfl) ?_)|refine aw_region ?_|refine aw_region_draw (by kernel_rfl) ?_|refine aw_yes rfl ?_|refine aw_no rfl ?_|((with_reducible refine w_seq ?_); first|refine r_q tbOk rfl rfl rfl rfl ?_|refine r_e tbOk rfl rfl rfl rfl rfl ?_|refine r_yes tbOk rfl rfl rfl rfl rfl rfl ?_|refine w_no rfl rfl (lookO_spec rfl) rfl rfl rfl ?_|refine w_un rfl rfl (lookO_spec rfl) rfl rfl ?_)|((with_reducible refine w_drw ?_); first|refine rx_q tbOk rfl rfl rfl rfl ?_|refine rx_e tbOk rfl rfl rfl rfl rfl ?_|refine rx_yes tbOk rfl rfl rfl rfl rfl rfl ?_|refine x_no rfl rfl (lookO_spec rfl) rfl rfl rfl ?_|refine x_un rfl rfl (lookO_spec rfl) rfl rfl ?_)|((first|refine' w_q rfl rfl ?xa rfl ?_|refine' v_q rfl rfl ?xa rfl ?_|refine' w_yes rfl rfl (lookO_spec rfl) rfl ?xa rfl ?_|refine' v_yes rfl rfl (lookO_spec rfl) rfl ?xa rfl ?_); case xa => exact k_nil_eq tbOk rfl rfl rfl rfl)|((first|refine' w_e rfl ?xa ?xb ?xc ?xe ?_|refine' v_e rfl ?xa ?xb ?xc ?xe ?_); (case xa => first|exact e_build [] tlOk rfl rfl rfl rfl rfl rfl (by simp [AllN]) (by simp)|exact e_append tlOk rfl rfl rfl rfl rfl rfl (slD_plain slD_row (ints_plain _)) rfl (by simp only [maxLen, List.length_append, List.length_cons, List.length_nil]; omega) (by (try simp only [List.length_append, List.length_cons, List.length_nil]); omega)); (case xb => rfl); (case xc => rfl); (case xe => rfl); try dsimp only [P0.d, Res.d, List.map_cons, List.map_nil, List.set_cons_zero, List.set_cons_succ, Nat.reduceAdd])|((first|refine aw_ways rfl ?_ ?_|refine r_split rfl rfl rfl ?_ ?_) <;> intro hg_ <;> fail_if_success (exact Bool.noConfusion hg_)) <;> (try simp only [prn] at hg_) <;> (try first|contradiction|(exfalso; omega)))
    all_goals first
      | exact ret_tmp rfl (dres_one (cres_own0D (lookHO_spec rfl) (by simp only [List.length_append]) (List.nil_append _)))
      | trace_state
end Go.Proofs.Ytmkecjamfippfaa.Abs
set_option linter.unusedSimpArgs false
set_option linter.unusedVariables false
namespace Go.Proofs.Ytmkecjamfippfaa.Abs
open Go.RowKit
open R (val row ref)

end Go.Proofs.Ytmkecjamfippfaa.Abs
set_option linter.unusedSimpArgs false
set_option linter.unusedVariables false
namespace Go.Proofs.Ytmkecjamfippfaa.Abs
open Go.RowKit
open R (val row ref)

theorem disk_bytes {xs ys : List Int} (h : diskOk xs ys = true) : bytesOk (xs ++ ys) = true := by
  unfold diskOk at h
  simp only [Bool.and_eq_true, decide_eq_true_eq] at h
  refine bytesOk_of (fun z hz => ?_) (by rw [List.length_append]; exact h.2)
  rcases List.mem_append.1 hz with hz | hz
  · exact bytesOk_mem h.1.1 hz
  · exact bytesOk_mem h.1.2 hz
set_option maxRecDepth 100000 in
set_option maxHeartbeats 4000000 in
theorem f_implBytes (n1 n2 : Bool) (xs ys : List Int) (hl : xs.length ≤ 1048576) (hl' : ys.length ≤ 1048576) : Fn Try.prog 100 [diskP n1 xs n2 ys] (.v (.one (row (decide (xs.length + ys.length = 0)) 1 (ints (xs ++ ys))))) := by
  have K2 := f_concat n1 n2 xs ys hl hl'
  unfold rows2 at K2
  refine fn_of (l := [.tmp 2]) Try.func100 (by kernel_rfl) rfl Try.ntmps100 rfl rfl ?_; simp only [argEnv, P0.d, Nat.reduceAdd, diskP, List.map_cons, List.map_nil]
  repeat' (first|(with_reducible first|refine aw_seq ?_|refine thn_normal ?_|refine thn_ret ?_|refine thn_exit ?_|refine blk_normal ?_|refine blk_ret ?_|refine blk_hit ?_|refine blk_miss rfl ?_|refine aw_block ?_|refine aw_ret ?_|refine aw_skip ?_|refine aw_exit ?_|refine w_nil ?_|refine x_nil (by kernel_rfl) ?_)|refine aw_region ?_|refine aw_region_draw (by kernel_rfl) ?_|refine aw_yes rfl ?_|refine aw_no rfl ?_|((with_reducible refine w_seq ?_); first|refine r_q tbOk rfl rfl rfl rfl ?_|refine r_e tbOk rfl rfl rfl rfl rfl ?_|refine r_yes tbOk rfl rfl rfl rfl rfl rfl ?_|refine w_no rfl rfl (lookO_spec rfl) rfl rfl rfl ?_|refine w_un rfl rfl (lookO_spec rfl) rfl rfl ?_)|((with_reducible refine w_drw ?_); first|refine rx_q tbOk rfl rfl rfl rfl ?_|refine rx_e tbOk rfl rfl rfl rfl rfl ?_|refine rx_yes tbOk rfl rfl rfl rfl rfl rfl ?_|refine x_no rfl rfl (lookO_spec rfl) rfl rfl rfl ?_|refine x_un rfl rfl (lookO_spec rfl) rfl rfl ?_)|((first|refine' w_q rfl rfl ?xa rfl ?_|refine' v_q rfl rfl ?xa rfl ?_|refine' w_yes rfl rfl (lookO_spec rfl) rfl ?xa rfl ?_|refine' v_yes rfl rfl (lookO_spec rfl) rfl ?xa rfl ?_); case xa => exact k_call K2 rfl ⟨asA_own0H (evO_spec rfl) (lookHO_spec rfl) rfl, trivial⟩)|((first|refine' w_e rfl ?xa ?xb ?xc ?xe ?_|refine' v_e rfl ?xa ?xb ?xc ?xe ?_); (case xa => exact e_build [.tmp 4, .tmp 6] tlOk rfl rfl rfl rfl rfl rfl (allN_two rfl rfl) (by simp)); (case xb => rfl); (case xc => rfl); (case xe => rfl); try dsimp only [P0.d, Res.d, List.map_cons, List.map_nil, List.set_cons_zero, List.set_cons_succ, Nat.reduceAdd])|((first|refine aw_ways rfl ?_ ?_|refine r_split rfl rfl rfl ?_ ?_) <;> intro hg_ <;> fail_if_success (exact Bool.noConfusion hg_)) <;> (try simp only [prn] at hg_) <;> (try first|contradiction|(exfalso; omega)))
  all_goals first
    | exact ret_tmp rfl (dres_one cres_new)
    | trace_state
set_option maxRecDepth 100000 in
set_option maxHeartbeats 4000000 in
theorem f_implRecords (n1 n2 : Bool) (xs ys : List Int) (hv : diskOk xs ys = true) : Fn Try.prog 61 [diskP n1 xs n2 ys] (.v (.one (row (decide ((scanF (xs ++ ys)).1 = [])) 1 (rowsI (scanF (xs ++ ys)).1)))) := by
  have hl : xs.length + ys.length ≤ 2000 := by unfold diskOk at hv; simp at hv; omega
  have KV := f_implDiskValid n1 n2 xs ys (by omega) (by omega)
  rw [hv] at KV
  have KB := f_implBytes n1 n2 xs ys (by omega) (by omega)
  have KS := f_implScanFrames (decide (xs.length + ys.length = 0)) (xs ++ ys) (disk_bytes hv)
  generalize scanF (xs ++ ys) = S at *
  generalize decide (xs.length + ys.length = 0) = dn at *
  refine fn_of (l := [.tmp 2]) Try.func61 (by kernel_rfl) rfl Try.ntmps61 rfl rfl ?_; simp only [argEnv, P0.d, Nat.reduceAdd, diskP, List.map_cons, List.map_nil]
  repeat' (first|(with_reducible first|refine aw_seq ?_|refine thn_normal ?_|refine thn_ret ?_|refine thn_exit ?_|refine blk_normal ?_|refine blk_ret ?_|refine blk_hit ?_|refine blk_miss rfl ?_|refine aw_block ?_|refine aw_ret ?_|refine aw_skip ?_|refine aw_exit ?_|refine w_nil ?_|refine x_nil (by kernel_rfl) ?_)|refine aw_region ?_|refine aw_region_draw (by kernel_rfl) ?_|refine aw_yes rfl ?_|refine aw_no rfl ?_|((with_reducible refine w_seq ?_); first|refine r_q tbOk rfl rfl rfl rfl ?_|refine r_e tbOk rfl rfl rfl rfl rfl ?_|refine r_yes tbOk rfl rfl rfl rfl rfl rfl ?_|refine w_no rfl rfl (lookO_spec rfl) rfl rfl rfl ?_|refine w_un rfl rfl (lookO_spec rfl) rfl rfl ?_)|((with_reducible refine w_drw ?_); first|refine rx_q tbOk rfl rfl rfl rfl ?_|refine rx_e tbOk rfl rfl rfl rfl rfl ?_|refine rx_yes tbOk rfl rfl rfl rfl rfl rfl ?_|refine x_no rfl rfl (lookO_spec rfl) rfl rfl rfl ?_|refine x_un rfl rfl (lookO_spec rfl) rfl rfl ?_)|((first|refine' w_q rfl rfl ?xa rfl ?_|refine' v_q rfl rfl ?xa rfl ?_|refine' w_yes rfl rfl (lookO_spec rfl) rfl ?xa rfl ?_|refine' v_yes rfl rfl (lookO_spec rfl) rfl ?xa rfl ?_); case xa => first|exact k_call KV rfl ⟨asA_agg (evO_spec rfl) ⟨cAr_r, cAr_r, trivial⟩, trivial⟩|exact k_call KB rfl ⟨asA_agg (evO_spec rfl) ⟨cAr_r, cAr_r, trivial⟩, trivial⟩|exact k_call KS rfl ⟨asA_r (evO_spec rfl), trivial⟩)|((first|refine aw_ways rfl ?_ ?_|refine r_split rfl rfl rfl ?_ ?_) <;> intro hg_ <;> fail_if_success (exact Bool.noConfusion hg_)) <;> (try simp only [prn] at hg_) <;> (try first|contradiction|(exfalso; omega)))
  all_goals first
    | exact ret_tmp rfl (dres_one cres_new)
    | trace_state
end Go.Proofs.Ytmkecjamfippfaa.Abs
set_option linter.unusedSimpArgs false
set_option linter.unusedVariables false
namespace Go.Proofs.Ytmkecjamfippfaa.Abs
open Go.RowKit
open R (val row ref)

def rdN (xs : List Int) : Nat → Nat → List Int → Option (List Int × Nat)
  | 0, p, acc => some (acc, p)
  | k + 1, p, acc => if p < xs.length then (if (numF 3 0 0 1 xs p).2.1 then rdN xs k (numF 3 0 0 1 xs p).2.2 (acc ++ [(numF 3 0 0 1 xs p).1]) else none) else none
def nbE (b : List Int) : Option (List Int × Nat) → Option (List Int) × Bool
  | some (ns, p) => (some ns, decide (p = b.length))
  | none => (none, false)
def nbF (tag : Int) (k : Nat) (b : List Int) : Option (List Int) × Bool :=
  if bodyOk b = true ∧ b.head? = some tag then nbE b (rdN b k 1 []) else (none, false)
def nbRes : Option (List Int) × Bool → Res
  | (some ns, q) => .tup [.one (row false 1 (ints ns)), .one (bool q)]
  | (none, _) => .tup [.one (row true 1 []), .one (bool false)]
set_option maxRecDepth 100000 in
set_option maxHeartbeats 4000000 in
theorem f_numberEnd (m1 m2 nil : Bool) (xs : List Int) (hx : xs.length ≤ 2000) :
    FnS Try.prog 119 [.one (.ptr 1000000000 0 0 0)] (brH 1000000000 m1 m2 nil xs xs.length) (.tup true [iP 0, .one (bool false)]) (brH 1000000000 m1 m2 nil xs xs.length) := by
  have K := f_next m1 m2 nil xs xs.length hx hx
  rw [if_neg (by omega), show decide (xs.length < xs.length) = false by simp, List.getElem?_eq_none (by omega)] at K
  dsimp only at K
  unfold brH at *
  refine fnS_of (l := [.tmp 2, .tmp 3]) Try.func119 (by kernel_rfl) rfl Try.ntmps119 rfl rfl ?_; simp only [dEnv, Nat.reduceAdd]
  repeat' (first|(with_reducible first|refine aw_seq ?_|refine thn_normal ?_|refine thn_ret ?_|refine thn_exit ?_|refine blk_normal ?_|refine blk_ret ?_|refine blk_hit ?_|refine blk_miss rfl ?_|refine aw_block ?_|refine aw_ret ?_|refine aw_skip ?_|refine aw_exit ?_|refine w_nil ?_|refine x_nil (by kernel_rfl) ?_)|refine aw_region ?_|refine aw_region_draw (by kernel_rfl) ?_|refine aw_yes rfl ?_|refine aw_no rfl ?_|((with_reducible refine w_seq ?_); first|refine r_q tbOk rfl rfl rfl rfl ?_|refine r_e tbOk rfl rfl rfl rfl rfl ?_|refine r_yes tbOk rfl rfl rfl rfl rfl rfl ?_|refine w_no rfl rfl (lookO_spec rfl) rfl rfl rfl ?_|refine w_un rfl rfl (lookO_spec rfl) rfl rfl ?_)|((with_reducible refine w_drw ?_); first|refine rx_q tbOk rfl rfl rfl rfl ?_|refine rx_e tbOk rfl rfl rfl rfl rfl ?_|refine rx_yes tbOk rfl rfl rfl rfl rfl rfl ?_|refine x_no rfl rfl (lookO_spec rfl) rfl rfl rfl ?_|refine x_un rfl rfl (lookO_spec rfl) rfl rfl ?_)|((first|refine aw_ways rfl ?_ ?_|refine r_split rfl rfl rfl ?_ ?_) <;> intro hg_ <;> fail_if_success (exact Bool.noConfusion hg_)) <;> (try simp only [prn] at hg_) <;> (try first|contradiction|(exfalso; omega)))
  refine aw_loopI (fun x : Nat => x = 0) (fun x => mkS 44 [(6, .one (.r true (int (x : Int)))), (0, .one (.ptr 1000000000 0 0 0))] [(1000000000, .var 134 [.r m1 (row nil 1 (ints xs)), .r m2 (int (xs.length : Int))])]) (fun x => x) 0 rfl (by (refine weak_ren [] rfl ?_ ?_ <;> repeat' (first|exact trivial|refine subR_cons rfl ?_ ?_|refine subHR_cons rfl ?_ ?_|rfl|(refine d_int ?_; (first|rfl|omega|(rw [IntWalk.i64_in _ (by omega)] <;> omega)|(simp; done)|(simp; omega)))|(refine d_bool ?_; (first|(simp_all; done)|(rw [Bool.eq_iff_iff]; simp_all; done)|(rw [Bool.eq_iff_iff]; simp_all; omega)|(rw [Bool.eq_iff_iff]; simp; omega)))))) ?_
  rintro x rfl
  repeat' (first|(with_reducible first|refine aw_seq ?_|refine thn_normal ?_|refine thn_ret ?_|refine thn_exit ?_|refine blk_normal ?_|refine blk_ret ?_|refine blk_hit ?_|refine blk_miss rfl ?_|refine aw_block ?_|refine aw_ret ?_|refine aw_skip ?_|refine aw_exit ?_|refine w_nil ?_|refine x_nil (by kernel_rfl) ?_)|refine aw_region ?_|refine aw_region_draw (by kernel_rfl) ?_|refine aw_yes rfl ?_|refine aw_no rfl ?_|((with_reducible refine w_seq ?_); first|refine r_q tbOk rfl rfl rfl rfl ?_|refine r_e tbOk rfl rfl rfl rfl rfl ?_|refine r_yes tbOk rfl rfl rfl rfl rfl rfl ?_|refine w_no rfl rfl (lookO_spec rfl) rfl rfl rfl ?_|refine w_un rfl rfl (lookO_spec rfl) rfl rfl ?_)|((with_reducible refine w_drw ?_); first|refine rx_q tbOk rfl rfl rfl rfl ?_|refine rx_e tbOk rfl rfl rfl rfl rfl ?_|refine rx_yes tbOk rfl rfl rfl rfl rfl rfl ?_|refine x_no rfl rfl (lookO_spec rfl) rfl rfl rfl ?_|refine x_un rfl rfl (lookO_spec rfl) rfl rfl ?_)|((first|refine' w_e rfl ?xa ?xb ?xc ?xe ?_|refine' v_e rfl ?xa ?xb ?xc ?xe ?_); (case xa => exact at_dst 15 rfl (e_callS [] K rfl ⟨asD_ren (evO_spec rfl), trivial⟩ (by (repeat' (first|exact trivial|refine subHR_cons rfl ?_ ?_|rfl))) rfl)); (case xb => rfl); (case xc => rfl); (case xe => rfl); try dsimp only [P0.d, Res.d, List.map_cons, List.map_nil, List.set_cons_zero, List.set_cons_succ, Nat.reduceAdd])|((first|refine aw_ways rfl ?_ ?_|refine r_split rfl rfl rfl ?_ ?_) <;> intro hg_ <;> fail_if_success (exact Bool.noConfusion hg_)) <;> (try simp only [prn] at hg_) <;> (try first|contradiction|(exfalso; omega)))
  all_goals first
   |exact ret_D [] rfl (by (repeat' (first|exact trivial|refine subHR_cons rfl ?_ ?_|rfl))) (retD_tup2 (rv_tmp rfl (dres_int rfl)) (rv_tmp rfl (dres_bool rfl)) rfl)
    | (exfalso; omega)
    | trace_state
theorem f_numberAny (m1 m2 nil : Bool) (xs : List Int) (p : Nat) (hx : bytesOk xs = true) (hp : p ≤ xs.length) :
    ∃ n ok p' m2', FnS Try.prog 119 [.one (.ptr 1000000000 0 0 0)] (brH 1000000000 m1 m2 nil xs p) (.tup true [iP n, .one (bool ok)]) (brH 1000000000 m1 m2' nil xs p') ∧ p' ≤ xs.length ∧ ∀ k acc, rdN xs (k + 1) p acc = if ok then rdN xs k p' (acc ++ [n]) else none := by
  by_cases h : p < xs.length
  · exact ⟨_, _, _, _, f_number m1 m2 nil xs p hx h, numF_bd 3 0 0 1 p hp, fun k acc => by rw [rdN, if_pos h]⟩
  · obtain rfl : p = xs.length := by omega
    exact ⟨0, false, _, m2, f_numberEnd m1 m2 nil xs (bytesOk_len hx), hp, fun k acc => by rw [rdN, if_neg h]; rfl⟩
set_option maxRecDepth 100000 in
set_option maxHeartbeats 8000000 in
theorem f_numbersNo (nil : Bool) (b : List Int) (tag k : Int) (h : ¬ (bodyOk b = true ∧ b.head? = some tag)) : Fn Try.prog 88 [.one (row nil 1 (ints b)), iP tag, iP k] (.tup [.one (row true 1 []), .one (bool false)]) := by
  have KB := f_implBodyOk nil b
  cases hb : bodyOk b
  · rw [hb] at KB
    refine fn_of (l := [.tmp 6, .tmp 7]) Try.func88 (by kernel_rfl) rfl Try.ntmps88 rfl rfl ?_; simp only [argEnv, P0.d, Nat.reduceAdd]
    repeat' (first|(with_reducible first|refine aw_seq ?_|refine thn_normal ?_|refine thn_ret ?_|refine thn_exit ?_|refine blk_normal ?_|refine blk_ret ?_|refine blk_hit ?_|refine blk_miss rfl ?_|refine aw_block ?_|refine aw_ret ?_|refine aw_skip ?_|refine aw_exit ?_|refine w_nil ?_|refine x_nil (by kernel_rfl) ?_)|refine aw_region ?_|refine aw_region_draw (by kernel_rfl) ?_|refine aw_yes rfl ?_|refine aw_no rfl ?_|((with_reducible refine w_seq ?_); first|refine r_q tbOk rfl rfl rfl rfl ?_|refine r_e tbOk rfl rfl rfl rfl rfl ?_|refine r_yes tbOk rfl rfl rfl rfl rfl rfl ?_|refine w_no rfl rfl (lookO_spec rfl) rfl rfl rfl ?_|refine w_un rfl rfl (lookO_spec rfl) rfl rfl ?_)|((with_reducible refine w_drw ?_); first|refine rx_q tbOk rfl rfl rfl rfl ?_|refine rx_e tbOk rfl rfl rfl rfl rfl ?_|refine rx_yes tbOk rfl rfl rfl rfl rfl rfl ?_|refine x_no rfl rfl (lookO_spec rfl) rfl rfl rfl ?_|refine x_un rfl rfl (lookO_spec rfl) rfl rfl ?_)|((first|refine' w_q rfl rfl ?xa rfl ?_|refine' v_q rfl rfl ?xa rfl ?_|refine' w_yes rfl rfl (lookO_spec rfl) rfl ?xa rfl ?_|refine' v_yes rfl rfl (lookO_spec rfl) rfl ?xa rfl ?_); case xa => exact k_call KB rfl ⟨asA_r (evO_spec rfl), trivial⟩)|((first|refine aw_ways rfl ?_ ?_|refine r_split rfl rfl rfl ?_ ?_) <;> intro hg_ <;> fail_if_success (exact Bool.noConfusion hg_)) <;> (try simp only [prn] at hg_) <;> (try first|contradiction|(exfalso; omega)))
    all_goals first
      | exact ret_2 (rv_tmp rfl (dres_one cres_nil)) (rv_tmp rfl (dres_bool rfl))
      | trace_state
  · rw [hb] at KB
    cases b with
    | nil => cases hb
    | cons z b =>
      have hz : z ≠ tag := fun e => h ⟨hb, by rw [e]; rfl⟩
      have hx2 : (ints (z :: b))[(0 : Int).toNat]? = some (iP z) := rfl
      have hl : (ints (z :: b)).length = b.length + 1 := by rw [ints_len]; rfl
      refine fn_of (l := [.tmp 6, .tmp 7]) Try.func88 (by kernel_rfl) rfl Try.ntmps88 rfl rfl ?_; simp only [argEnv, P0.d, Nat.reduceAdd]
      repeat' (first|(with_reducible first|refine aw_seq ?_|refine thn_normal ?_|refine thn_ret ?_|refine thn_exit ?_|refine blk_normal ?_|refine blk_ret ?_|refine blk_hit ?_|refine blk_miss rfl ?_|refine aw_block ?_|refine aw_ret ?_|refine aw_skip ?_|refine aw_exit ?_|refine w_nil ?_|refine x_nil (by kernel_rfl) ?_)|refine aw_region ?_|refine aw_region_draw (by kernel_rfl) ?_|refine aw_yes rfl ?_|refine aw_no rfl ?_|((with_reducible refine w_seq ?_); first|refine r_q tbOk rfl rfl rfl rfl ?_|refine r_e tbOk rfl rfl rfl rfl rfl ?_|refine r_yes tbOk rfl rfl rfl rfl rfl rfl ?_|refine w_no rfl rfl (lookO_spec rfl) rfl rfl rfl ?_|refine w_un rfl rfl (lookO_spec rfl) rfl rfl ?_)|((with_reducible refine w_drw ?_); first|refine rx_q tbOk rfl rfl rfl rfl ?_|refine rx_e tbOk rfl rfl rfl rfl rfl ?_|refine rx_yes tbOk rfl rfl rfl rfl rfl rfl ?_|refine x_no rfl rfl (lookO_spec rfl) rfl rfl rfl ?_|refine x_un rfl rfl (lookO_spec rfl) rfl rfl ?_)|((first|refine' w_q rfl rfl ?xa rfl ?_|refine' v_q rfl rfl ?xa rfl ?_|refine' w_yes rfl rfl (lookO_spec rfl) rfl ?xa rfl ?_|refine' v_yes rfl rfl (lookO_spec rfl) rfl ?xa rfl ?_); case xa => first|exact k_call KB rfl ⟨asA_r (evO_spec rfl), trivial⟩|exact k_index tbOk rfl rfl rfl rfl (by omega) hx2)|((first|refine aw_ways rfl ?_ ?_|refine r_split rfl rfl rfl ?_ ?_) <;> intro hg_ <;> fail_if_success (exact Bool.noConfusion hg_)) <;> (try simp only [prn] at hg_) <;> (try first|contradiction|(exfalso; omega)))
      all_goals first
        | exact ret_2 (rv_tmp rfl (dres_one cres_nil)) (rv_tmp rfl (dres_bool rfl))
        | (exfalso; simp_all; done)
        | trace_state
theorem fill_next {acc : List Int} {k : Nat} {n : Int} (h : acc.length < k) : (ints (acc ++ List.replicate (k - acc.length) 0)).set acc.length (iP n) = ints ((acc ++ [n]) ++ List.replicate (k - (acc.length + 1)) 0) := by
  have e : k - acc.length = (k - (acc.length + 1)) + 1 := by omega
  rw [e, List.replicate_succ]
  unfold ints
  simp [List.set_append]
set_option maxRecDepth 100000 in
set_option maxHeartbeats 8000000 in
theorem f_numbersYes (nil : Bool) (b : List Int) (tag : Int) (k : Nat) (hk3 : k ≤ 3) (hb : bodyOk b = true) (hh : b.head? = some tag) : Fn Try.prog 88 [.one (row nil 1 (ints b)), iP tag, iP (k : Int)] (nbRes (nbF tag k b)) := by
  have KB := f_implBodyOk nil b
  rw [hb] at KB
  have hby : bytesOk b = true := by unfold bodyOk at hb; simp only [Bool.and_eq_true] at hb; exact hb.1.1
  have hbl : 1 ≤ b.length := by unfold bodyOk at hb; simp at hb; omega
  obtain ⟨RR, hRR⟩ : ∃ RR, RR = rdN b k 1 [] := ⟨_, rfl⟩
  have hX : nbF tag k b = nbE b RR := by rw [hRR]; unfold nbF; rw [if_pos ⟨hb, hh⟩]
  rw [hX]
  clear hX
  have hx2 : (ints b)[(0 : Int).toNat]? = some (iP tag) := by
    cases b with
    | nil => cases hh
    | cons z b => simp only [List.head?_cons, Option.some.injEq] at hh; rw [← hh]; rfl
  have hlb := ints_len b
  clear hb hh
  refine fn_of (l := [.tmp 6, .tmp 7]) Try.func88 (by kernel_rfl) rfl Try.ntmps88 rfl rfl ?_; simp only [argEnv, P0.d, Nat.reduceAdd]
  repeat' (first|(with_reducible first|refine aw_seq ?_|refine thn_normal ?_|refine thn_ret ?_|refine thn_exit ?_|refine blk_normal ?_|refine blk_ret ?_|refine blk_hit ?_|refine blk_miss rfl ?_|refine aw_block ?_|refine aw_ret ?_|refine aw_skip ?_|refine aw_exit ?_|refine w_nil ?_|refine x_nil (by kernel_rfl) ?_)|refine aw_region ?_|refine aw_region_draw (by kernel_rfl) ?_|refine aw_yes rfl ?_|refine aw_no rfl ?_|((with_reducible refine w_seq ?_); first|refine r_q tbOk rfl rfl rfl rfl ?_|refine r_e tbOk rfl rfl rfl rfl rfl ?_|refine r_yes tbOk rfl rfl rfl rfl rfl rfl ?_|refine w_no rfl rfl (lookO_spec rfl) rfl rfl rfl ?_|refine w_un rfl rfl (lookO_spec rfl) rfl rfl ?_)|((with_reducible refine w_drw ?_); first|refine rx_q tbOk rfl rfl rfl rfl ?_|refine rx_e tbOk rfl rfl rfl rfl rfl ?_|refine rx_yes tbOk rfl rfl rfl rfl rfl rfl ?_|refine x_no rfl rfl (lookO_spec rfl) rfl rfl rfl ?_|refine x_un rfl rfl (lookO_spec rfl) rfl rfl ?_)|((first|refine' w_q rfl rfl ?xa rfl ?_|refine' v_q rfl rfl ?xa rfl ?_|refine' w_yes rfl rfl (lookO_spec rfl) rfl ?xa rfl ?_|refine' v_yes rfl rfl (lookO_spec rfl) rfl ?xa rfl ?_); case xa => first|exact k_call KB rfl ⟨asA_r (evO_spec rfl), trivial⟩|exact k_index tbOk rfl rfl rfl rfl (by omega) hx2)|((first|refine' w_e rfl ?xa ?xb ?xc ?xe ?_|refine' v_e rfl ?xa ?xb ?xc ?xe ?_); (case xa => exact e_make tlOk rfl rfl rfl rfl rfl rfl (c := k) rfl rfl (by omega) (by simp only [maxLen]; omega)); (case xb => rfl); (case xc => rfl); (case xe => rfl); try dsimp only [P0.d, Res.d, List.map_cons, List.map_nil, List.set_cons_zero, List.set_cons_succ, Nat.reduceAdd])|((first|refine aw_ways rfl ?_ ?_|refine r_split rfl rfl rfl ?_ ?_) <;> intro hg_ <;> fail_if_success (exact Bool.noConfusion hg_)) <;> (try simp only [prn] at hg_) <;> (try first|contradiction|(exfalso; omega)))
  obtain ⟨F, hFs⟩ : ∃ F : Nat × Bool × List Int → St, ∀ p m2 acc, F (p, m2, acc) = mkS 45 [(29, .one (.r true (int (acc.length : Int)))), (28, .one (.r true (int (k : Int)))), (9, .one (.own 100 0 k 1)), (8, .one (.ptr 8 0 0 0))] [(100, .sl 3 1 true (ints (acc ++ List.replicate (k - acc.length) 0))), (8, .var 134 [.r false (row nil 1 (ints b)), .r m2 (int (p : Int))])] := ⟨fun x => mkS 45 [(29, .one (.r true (int (x.2.2.length : Int)))), (28, .one (.r true (int (k : Int)))), (9, .one (.own 100 0 k 1)), (8, .one (.ptr 8 0 0 0))] [(100, .sl 3 1 true (ints (x.2.2 ++ List.replicate (k - x.2.2.length) 0))), (8, .var 134 [.r false (row nil 1 (ints b)), .r x.2.1 (int (x.1 : Int))])], fun _ _ _ => rfl⟩
  refine aw_loopI (fun x : Nat × Bool × List Int => x.1 ≤ b.length ∧ x.2.2.length ≤ k ∧ RR = rdN b (k - x.2.2.length) x.1 x.2.2) F (fun x => k - x.2.2.length) (1, true, []) ⟨hbl, Nat.zero_le _, hRR⟩ (by
    rw [hFs]
    (refine weak_ren [(100, 26)] rfl ?_ ?_ <;> repeat' (first|exact trivial|refine subR_cons rfl ?_ ?_|refine subHR_cons rfl ?_ ?_|rfl|(refine d_int ?_; (first|rfl|omega|(rw [IntWalk.i64_in _ (by omega)] <;> omega)|(simp; done)|(simp; omega)))|(refine d_bool ?_; (first|(simp_all; done)|(rw [Bool.eq_iff_iff]; simp_all; done)|(rw [Bool.eq_iff_iff]; simp_all; omega)|(rw [Bool.eq_iff_iff]; simp; omega)))|exact ob_sl rfl (by unfold ints; simp)))) ?_
  rintro ⟨p, m2, acc⟩ ⟨hp, hacc, hE⟩
  dsimp only at hp hacc hE
  have hlr : (ints (acc ++ List.replicate (k - acc.length) 0)).length = k := by rw [ints_len]; simp; omega
  clear hRR hx2
  by_cases hlt : acc.length < k
  · obtain ⟨n, ok, p', m2', KN, hp', hstep⟩ := f_numberAny false m2 nil b p hby hp
    rw [show k - acc.length = (k - (acc.length + 1)) + 1 by omega, hstep] at hE
    have hnext := fill_next (n := n) hlt
    cases ok
    · rw [if_neg (by decide)] at hE
      rw [hE, hFs]
      unfold nbE nbRes brH at *
      dsimp only
      clear hFs hE hstep KB hnext
      repeat' (first|(with_reducible first|refine aw_seq ?_|refine thn_normal ?_|refine thn_ret ?_|refine thn_exit ?_|refine blk_normal ?_|refine blk_ret ?_|refine blk_hit ?_|refine blk_miss rfl ?_|refine aw_block ?_|refine aw_ret ?_|refine aw_skip ?_|refine aw_exit ?_|refine w_nil ?_|refine x_nil (by kernel_rfl) ?_)|refine aw_region ?_|refine aw_region_draw (by kernel_rfl) ?_|refine aw_yes rfl ?_|refine aw_no rfl ?_|((with_reducible refine w_seq ?_); first|refine r_q tbOk rfl rfl rfl rfl ?_|refine r_e tbOk rfl rfl rfl rfl rfl ?_|refine r_yes tbOk rfl rfl rfl rfl rfl rfl ?_|refine w_no rfl rfl (lookO_spec rfl) rfl rfl rfl ?_|refine w_un rfl rfl (lookO_spec rfl) rfl rfl ?_)|((with_reducible refine w_drw ?_); first|refine rx_q tbOk rfl rfl rfl rfl ?_|refine rx_e tbOk rfl rfl rfl rfl rfl ?_|refine rx_yes tbOk rfl rfl rfl rfl rfl rfl ?_|refine x_no rfl rfl (lookO_spec rfl) rfl rfl rfl ?_|refine x_un rfl rfl (lookO_spec rfl) rfl rfl ?_)|((first|refine' w_e rfl ?xa ?xb ?xc ?xe ?_|refine' v_e rfl ?xa ?xb ?xc ?xe ?_); (case xa => exact at_dst 33 rfl (e_callS [(1000000000, 8)] KN rfl ⟨asD_ren (evO_spec rfl), trivial⟩ (by (repeat' (first|exact trivial|refine subHR_cons rfl ?_ ?_|rfl))) rfl)); (case xb => rfl); (case xc => rfl); (case xe => rfl); try dsimp only [P0.d, Res.d, List.map_cons, List.map_nil, List.set_cons_zero, List.set_cons_succ, Nat.reduceAdd])|((first|refine aw_ways rfl ?_ ?_|refine r_split rfl rfl rfl ?_ ?_) <;> intro hg_ <;> fail_if_success (exact Bool.noConfusion hg_)) <;> (try simp only [prn] at hg_) <;> (try first|contradiction|(exfalso; omega)))
      all_goals first
        | exact ret_2 (rv_tmp rfl (dres_one cres_nil)) (rv_tmp rfl (dres_bool rfl))
        | (exfalso; omega)
        | trace_state
    · rw [if_pos rfl] at hE
      have hfin : ∀ s' : St, Weak s' (F (p', m2', acc ++ [n])) → ∃ x' : Nat × Bool × List Int, (x'.1 ≤ b.length ∧ x'.2.2.length ≤ k ∧ RR = rdN b (k - x'.2.2.length) x'.1 x'.2.2) ∧ Weak s' (F x') ∧ k - x'.2.2.length < k - acc.length := fun s' h => ⟨(p', m2', acc ++ [n]), ⟨hp', by simp; omega, by rw [hE]; simp⟩, h, by simp; omega⟩
      rw [hFs] at hfin ⊢
      have hw1 : IntKind.i64.wrap ((acc.length : Int) + 1) = ((acc ++ [n]).length : Int) := by rw [IntWalk.i64_in _ (by omega)]; simp
      have hls : (acc ++ [n]).length = acc.length + 1 := by simp
      rw [hls, ← hnext] at hfin
      rw [hls] at hw1
      clear hFs hE hstep KB hnext
      generalize ints (acc ++ List.replicate (k - acc.length) 0) = els at *
      unfold brH at *
      repeat' (first|(with_reducible first|refine aw_seq ?_|refine thn_normal ?_|refine thn_ret ?_|refine thn_exit ?_|refine blk_normal ?_|refine blk_ret ?_|refine blk_hit ?_|refine blk_miss rfl ?_|refine aw_block ?_|refine aw_ret ?_|refine aw_skip ?_|refine aw_exit ?_|refine w_nil ?_|refine x_nil (by kernel_rfl) ?_)|refine aw_region ?_|refine aw_region_draw (by kernel_rfl) ?_|refine aw_yes rfl ?_|refine aw_no rfl ?_|((with_reducible refine w_seq ?_); first|refine r_q tbOk rfl rfl rfl rfl ?_|refine r_e tbOk rfl rfl rfl rfl rfl ?_|refine r_yes tbOk rfl rfl rfl rfl rfl rfl ?_|refine w_no rfl rfl (lookO_spec rfl) rfl rfl rfl ?_|refine w_un rfl rfl (lookO_spec rfl) rfl rfl ?_)|((with_reducible refine w_drw ?_); first|refine rx_q tbOk rfl rfl rfl rfl ?_|refine rx_e tbOk rfl rfl rfl rfl rfl ?_|refine rx_yes tbOk rfl rfl rfl rfl rfl rfl ?_|refine x_no rfl rfl (lookO_spec rfl) rfl rfl rfl ?_|refine x_un rfl rfl (lookO_spec rfl) rfl rfl ?_)|((first|refine' w_q rfl rfl ?xa rfl ?_|refine' v_q rfl rfl ?xa rfl ?_|refine' w_yes rfl rfl (lookO_spec rfl) rfl ?xa rfl ?_|refine' v_yes rfl rfl (lookO_spec rfl) rfl ?xa rfl ?_); case xa => exact k_indexO tbOk rfl rfl rfl rfl (by omega) (by omega))|((first|refine' w_e rfl ?xa ?xb ?xc ?xe ?_|refine' v_e rfl ?xa ?xb ?xc ?xe ?_); (case xa => first|exact at_dst 33 rfl (e_callS [(1000000000, 8)] KN rfl ⟨asD_ren (evO_spec rfl), trivial⟩ (by (repeat' (first|exact trivial|refine subHR_cons rfl ?_ ?_|rfl))) rfl)|exact e_storeS tbOk rfl rfl rfl rfl rfl rfl rfl rfl (by omega)); (case xb => rfl); (case xc => rfl); (case xe => rfl); try dsimp only [P0.d, Res.d, List.map_cons, List.map_nil, List.set_cons_zero, List.set_cons_succ, Nat.reduceAdd])|((first|refine aw_ways rfl ?_ ?_|refine r_split rfl rfl rfl ?_ ?_) <;> intro hg_ <;> fail_if_success (exact Bool.noConfusion hg_)) <;> (try simp only [prn] at hg_) <;> (try first|contradiction|(exfalso; omega)))
      all_goals first
        | (refine hfin _ ?_
           (refine weak_ren [] rfl ?_ ?_ <;> repeat' (first|exact trivial|refine subR_cons rfl ?_ ?_|refine subHR_cons rfl ?_ ?_|rfl|(refine d_int ?_; (first|rfl|omega|(rw [IntWalk.i64_in _ (by omega)] <;> omega)|(simp; done)|(simp; omega)))|(refine d_bool ?_; (first|(simp_all; done)|(rw [Bool.eq_iff_iff]; simp_all; done)|(rw [Bool.eq_iff_iff]; simp_all; omega)|(rw [Bool.eq_iff_iff]; simp; omega)))|exact d_int hw1|exact ob_sl rfl (by rw [Nat.zero_add, Int.toNat_natCast]))))
        | (exfalso; omega)
        | trace_state
  · have hke : acc.length = k := by omega
    have KD := f_brDone false m2 nil b p
    subst hke
    rw [Nat.sub_self, rdN] at hE
    rw [hE, hFs]
    unfold nbE nbRes brH at *
    dsimp only
    rw [Nat.sub_self, List.replicate_zero, List.append_nil]
    have hla := (ints_len acc).symm
    clear hFs hE KB hlr
    repeat' (first|(with_reducible first|refine aw_seq ?_|refine thn_normal ?_|refine thn_ret ?_|refine thn_exit ?_|refine blk_normal ?_|refine blk_ret ?_|refine blk_hit ?_|refine blk_miss rfl ?_|refine aw_block ?_|refine aw_ret ?_|refine aw_skip ?_|refine aw_exit ?_|refine w_nil ?_|refine x_nil (by kernel_rfl) ?_)|refine aw_region ?_|refine aw_region_draw (by kernel_rfl) ?_|refine aw_yes rfl ?_|refine aw_no rfl ?_|((with_reducible refine w_seq ?_); first|refine r_q tbOk rfl rfl rfl rfl ?_|refine r_e tbOk rfl rfl rfl rfl rfl ?_|refine r_yes tbOk rfl rfl rfl rfl rfl rfl ?_|refine w_no rfl rfl (lookO_spec rfl) rfl rfl rfl ?_|refine w_un rfl rfl (lookO_spec rfl) rfl rfl ?_)|((with_reducible refine w_drw ?_); first|refine rx_q tbOk rfl rfl rfl rfl ?_|refine rx_e tbOk rfl rfl rfl rfl rfl ?_|refine rx_yes tbOk rfl rfl rfl rfl rfl rfl ?_|refine x_no rfl rfl (lookO_spec rfl) rfl rfl rfl ?_|refine x_un rfl rfl (lookO_spec rfl) rfl rfl ?_)|((first|refine' w_e rfl ?xa ?xb ?xc ?xe ?_|refine' v_e rfl ?xa ?xb ?xc ?xe ?_); (case xa => exact at_dst 44 rfl (e_callS [(1000000000, 8)] KD rfl ⟨asD_ren (evO_spec rfl), trivial⟩ (by (repeat' (first|exact trivial|refine subHR_cons rfl ?_ ?_|rfl))) rfl)); (case xb => rfl); (case xc => rfl); (case xe => rfl); try dsimp only [P0.d, Res.d, List.map_cons, List.map_nil, List.set_cons_zero, List.set_cons_succ, Nat.reduceAdd])|((first|refine aw_ways rfl ?_ ?_|refine r_split rfl rfl rfl ?_ ?_) <;> intro hg_ <;> fail_if_success (exact Bool.noConfusion hg_)) <;> (try simp only [prn] at hg_) <;> (try first|contradiction|(exfalso; omega)))
    all_goals first
      | exact ret_2 (rv_tmp rfl (dres_one (cres_own0 (lookHO_spec rfl) hla))) (rv_tmp rfl (dres_bool rfl))
      | (exfalso; omega)
      | trace_state
theorem f_numbersBehind (nil : Bool) (b : List Int) (tag : Int) (k : Nat) (hk3 : k ≤ 3) : Fn Try.prog 88 [.one (row nil 1 (ints b)), iP tag, iP (k : Int)] (nbRes (nbF tag k b)) := by
  by_cases h : bodyOk b = true ∧ b.head? = some tag
  · exact f_numbersYes nil b tag k hk3 h.1 h.2
  · have e : nbF tag k b = (none, false) := by unfold nbF; rw [if_neg h]
    rw [e]
    exact f_numbersNo nil b tag k h
end Go.Proofs.Ytmkecjamfippfaa.Abs
set_option linter.unusedSimpArgs false
set_option linter.unusedVariables false
namespace Go.Proofs.Ytmkecjamfippfaa.Abs
open Go.RowKit
open R (val row ref)

theorem numF_yes {xs : List Int} {p : Nat} (hb : ∀ z ∈ xs, 0 ≤ z ∧ z ≤ 255) (hp : p ≤ xs.length) (h : (numF 3 0 0 1 xs p).2.1 = true) :
    (xs.drop p).take ((numF 3 0 0 1 xs p).2.2 - p) = enc (numF 3 0 0 1 xs p).1 ∧ p < (numF 3 0 0 1 xs p).2.2 ∧ (numF 3 0 0 1 xs p).2.2 ≤ xs.length ∧ 0 ≤ (numF 3 0 0 1 xs p).1 ∧ (numF 3 0 0 1 xs p).1 ≤ 1000000 := by
  have hd := numF_dec 3 0 0 1 xs p
  rw [if_pos h] at hd
  have hc := dec_canon (l := xs.drop p) (fun z hz => hb z (List.mem_of_mem_drop hz)) hd
  have hbd := numF_bd (xs := xs) 3 0 0 1 p hp
  obtain ⟨c1, c2, c3, c4, c5⟩ := hc
  rw [Nat.zero_add] at c1 c3
  exact ⟨c1, by omega, hbd, c4, c5⟩
theorem numF_enc {xs : List Int} {p : Nat} {n : Int} {r : List Int} (h0 : 0 ≤ n) (h1 : n ≤ 1000000) (hx : xs.drop p = enc n ++ r) : (numF 3 0 0 1 xs p).2.1 = true ∧ (numF 3 0 0 1 xs p).1 = n ∧ (numF 3 0 0 1 xs p).2.2 = p + (enc n).length := by
  have hd := numF_dec 3 0 0 1 xs p
  have he := dec_enc h0 h1 r
  rw [← hx] at he
  unfold dec at he
  rw [he] at hd
  have hp := enc_pos h0 h1
  split at hd
  · rename_i ht
    injection hd with hd
    injection hd with e1 e2
    exact ⟨ht, e1.symm, by omega⟩
  · cases hd
theorem rdN_yes {xs : List Int} (hb : ∀ z ∈ xs, 0 ≤ z ∧ z ≤ 255) : ∀ (k p : Nat) (acc ns : List Int) (q : Nat), p ≤ xs.length → rdN xs k p acc = some (ns, q) →
    ∃ ms, ns = acc ++ ms ∧ ms.length = k ∧ (∀ n ∈ ms, 0 ≤ n ∧ n ≤ 1000000) ∧ xs.drop p = ms.flatMap enc ++ xs.drop q ∧ p ≤ q ∧ q ≤ xs.length
  | 0, p, acc, ns, q, hp, h => by
    rw [rdN] at h
    injection h with h
    injection h with e1 e2
    exact ⟨[], by rw [← e1]; simp, rfl, fun n hn => absurd hn (by simp), by rw [e2]; rfl, by omega, by omega⟩
  | k + 1, p, acc, ns, q, hp, h => by
    rw [rdN] at h
    split at h
    · split at h
      · rename_i hlt hok
        obtain ⟨c1, c2, c3, c4, c5⟩ := numF_yes hb hp hok
        obtain ⟨ms, e1, e2, e3, e4, e5, e6⟩ := rdN_yes hb k _ _ _ _ c3 h
        refine ⟨(numF 3 0 0 1 xs p).1 :: ms, by rw [e1]; simp, by simp [e2], fun n hn => ?_, ?_, by omega, e6⟩
        · rcases List.mem_cons.1 hn with h' | h'
          · rw [h']; exact ⟨c4, c5⟩
          · exact e3 n h'
        · rw [List.flatMap_cons, ← c1, List.append_assoc, ← e4]
          have : (numF 3 0 0 1 xs p).2.2 = p + ((numF 3 0 0 1 xs p).2.2 - p) := by omega
          conv => rhs; rhs; rw [this, ← List.drop_drop]
          rw [List.take_append_drop]
      · cases h
    · cases h
theorem rdN_enc {xs : List Int} : ∀ (ms : List Int) (p : Nat) (acc r : List Int), (∀ n ∈ ms, 0 ≤ n ∧ n ≤ 1000000) → xs.drop p = ms.flatMap enc ++ r → rdN xs ms.length p acc = some (acc ++ ms, p + (ms.flatMap enc).length)
  | [], p, acc, r, _, _ => by simp [rdN]
  | n :: ms, p, acc, r, hn, hx => by
    have h0 := hn n (List.mem_cons_self ..)
    rw [List.flatMap_cons, List.append_assoc] at hx
    obtain ⟨c1, c2, c3⟩ := numF_enc h0.1 h0.2 hx
    have hp := enc_pos h0.1 h0.2
    have hl := congrArg List.length hx
    rw [List.length_drop, List.length_append] at hl
    have hd : xs.drop (p + (enc n).length) = ms.flatMap enc ++ r := by
      rw [← List.drop_drop, hx, List.drop_left]
    have ih := rdN_enc ms (p + (enc n).length) (acc ++ [n]) r (fun m hm => hn m (List.mem_cons_of_mem _ hm)) hd
    rw [List.length_cons, rdN, if_pos (by omega), if_pos c1, c2, c3, ih]
    simp; omega
theorem bodyOk_by {b : List Int} (h : bodyOk b = true) : ∀ z ∈ b, 0 ≤ z ∧ z ≤ 255 := fun z hz => by
  unfold bodyOk at h
  simp only [Bool.and_eq_true] at h
  obtain ⟨i, hi, rfl⟩ := List.getElem_of_mem hz
  exact bytesOk_get h.1.1 i hi
theorem nbF_yes {tag : Int} {k : Nat} {b ns : List Int} (h : nbF tag k b = (some ns, true)) : b = tag :: ns.flatMap enc ∧ ns.length = k ∧ ∀ n ∈ ns, 0 ≤ n ∧ n ≤ 1000000 := by
  unfold nbF at h
  split at h
  · rename_i hc
    obtain ⟨hb, hh⟩ := hc
    cases b with
    | nil => cases hh
    | cons z b =>
      simp only [List.head?_cons, Option.some.injEq] at hh
      subst hh
      cases hr : rdN (z :: b) k 1 [] with
      | none => rw [hr] at h; cases h
      | some x =>
        obtain ⟨ms, q⟩ := x
        rw [hr] at h
        simp only [nbE, Prod.mk.injEq, Option.some.injEq, decide_eq_true_eq] at h
        obtain ⟨rfl, hq⟩ := h
        obtain ⟨ms', e1, e2, e3, e4, e5, e6⟩ := rdN_yes (bodyOk_by hb) k 1 [] ms q (by simp) hr
        rw [List.nil_append] at e1
        subst e1
        rw [hq, List.drop_of_length_le (Nat.le_refl _), List.append_nil] at e4
        refine ⟨?_, e2, e3⟩
        simp only [List.drop_one, List.tail_cons] at e4
        rw [← e4]
  · cases h
theorem enc_flat_bytes {ns : List Int} : ∀ z ∈ ns.flatMap enc, 0 ≤ z ∧ z ≤ 255 := fun z hz => by
  rw [List.mem_flatMap] at hz
  obtain ⟨n, _, h⟩ := hz
  exact enc_bytes n z h
theorem enc_flat_len : ∀ ns : List Int, (ns.flatMap enc).length ≤ 3 * ns.length
  | [] => by simp
  | n :: ns => by
    have := enc_flat_len ns
    have := enc_len n
    rw [List.flatMap_cons, List.length_append, List.length_cons]
    omega
theorem nbF_enc {tag : Int} {ns : List Int} (ht : 0 ≤ tag ∧ tag ≤ 255) (hk : ns.length ≤ 3) (hn : ∀ n ∈ ns, 0 ≤ n ∧ n ≤ 1000000) : nbF tag ns.length (tag :: ns.flatMap enc) = (some ns, true) := by
  have hl := enc_flat_len ns
  have hb : bodyOk (tag :: ns.flatMap enc) = true := by
    unfold bodyOk
    have h1 : bytesOk (tag :: ns.flatMap enc) = true := bytesOk_of (fun z hz => by
      rcases List.mem_cons.1 hz with h | h
      · rw [h]; exact ht
      · exact enc_flat_bytes z h) (by rw [List.length_cons]; omega)
    rw [h1]
    simp only [Bool.true_and, Bool.and_eq_true, decide_eq_true_eq, List.length_cons]
    omega
  unfold nbF
  rw [if_pos ⟨hb, rfl⟩, rdN_enc ns 1 [] [] hn (by rw [List.append_nil]; rfl)]
  unfold nbE
  rw [List.nil_append]
  have e : 1 + (ns.flatMap enc).length = (tag :: ns.flatMap enc).length := by rw [List.length_cons]; omega
  simp only [e, decide_true]
theorem nbF_len {tag : Int} {k : Nat} {b ns : List Int} {q : Bool} (h : nbF tag k b = (some ns, q)) : ns.length = k := by
  unfold nbF at h
  split at h
  · rename_i hc
    cases hr : rdN b k 1 [] with
    | none => rw [hr] at h; cases h
    | some x =>
      obtain ⟨ms, p⟩ := x
      rw [hr] at h
      simp only [nbE, Prod.mk.injEq, Option.some.injEq] at h
      have hbl : 1 ≤ b.length := by
        have := hc.1
        unfold bodyOk at this; simp at this; omega
      obtain ⟨ms', e1, e2, _⟩ := rdN_yes (bodyOk_by hc.1) k 1 [] ms p hbl hr
      rw [← h.1, e1]; simpa using e2
  · cases h
end Go.Proofs.Ytmkecjamfippfaa.Abs
set_option linter.unusedSimpArgs false
set_option linter.unusedVariables false
namespace Go.Proofs.Ytmkecjamfippfaa.Abs
open Go.RowKit
open R (val row ref)

theorem decForm (d : Option (Int × Int)) : ∃ n i t, decRes d = .tup [iP n, iP i, .one (bool t)] ∧ d = (if t then some (n, i) else none) ∧ (t = false → n = 0 ∧ i = 0) := by
  cases d with
  | none => exact ⟨0, 0, false, rfl, rfl, fun _ => ⟨rfl, rfl⟩⟩
  | some p => exact ⟨p.1, p.2, true, rfl, rfl, fun h => by cases h⟩
theorem edgeForm (d : Option (Int × Int × Int)) : ∃ (e : E3) (t : Bool), edgeRes d = .tup [edgeP e, .one (bool t)] ∧ d = (if t then some e else none) := by
  cases d with
  | none => exact ⟨(0, 0, 0), false, rfl, rfl⟩
  | some p => exact ⟨p, true, rfl, rfl⟩
theorem decForm_at {b : List Int} {i n j : Int} {t : Bool} (h : decAt b i = (if t then some (n, j) else none)) (ht : t = true) : 0 ≤ n ∧ n ≤ 1000000 ∧ 0 < j ∧ j ≤ b.length := by
  rw [ht, if_pos rfl] at h
  obtain ⟨h1, h2, h3, h4, h5⟩ := decAt_canon2 h
  simp only [fits, decide_eq_true_eq] at h5
  omega
def rdLoop (D : List (List Int)) (many : Nat) : Nat → Nat → Sta → Sta × Bool
  | 0, _, x => (x, true)
  | f + 1, k, x =>
    if k < many then
      match rcdV (D.getD (k + 1) []) with
      | some (v, g) => rdLoop D many f (k + 1) ⟨x.r, x.vs ++ [v], x.gs ++ [g], x.ms⟩
      | none => (x, false)
    else
      match readE ((D.getD (k + 1) []).drop 1) with
      | some e => rdLoop D many f (k + 1) ⟨x.r, x.vs, x.gs, x.ms ++ [e]⟩
      | none => (x, false)
def wantB (x : Sta) : List (List Int) := if x.ok then ckB x else []
open Classical in
noncomputable def rdFin (D : List (List Int)) (R : Sta × Bool) : Sta × Int × Bool :=
  if R.2 then (R.1, ((wantB R.1).length : Int), R.1.ok && decide (ckB R.1 <+: D)) else (R.1, 0, false)
def zSta : Sta := ⟨0, [], [], []⟩
noncomputable def rdRes (D : List (List Int)) : Sta × Int × Bool :=
  match D with
  | [] => (zSta, 0, false)
  | h :: t => match rcdH h with
    | some (r, m, w) => if m ≤ 16 ∧ w ≤ 2000 ∧ m + w + 1 < ((h :: t).length : Int) then rdFin (h :: t) (rdLoop (h :: t) m.toNat (m.toNat + w.toNat) 0 ⟨r, [], [], []⟩) else (zSta, 0, false)
    | none => (zSta, 0, false)
theorem rdLoop_ck {D : List (List Int)} {s : Sta} (h : Ck D s) : ∀ f k, k + f = s.vs.length + s.ms.length → rdLoop D s.vs.length f k ⟨s.r, s.vs.take k, s.gs.take k, s.ms.take (k - s.vs.length)⟩ = (s, true)
  | 0, k, hk => by
    have hg := (Sta.okF h.1).gl
    unfold rdLoop
    rw [List.take_of_length_le (by omega), List.take_of_length_le (by omega), List.take_of_length_le (by omega)]
  | f + 1, k, hk => by
    have hg := (Sta.okF h.1).gl
    unfold rdLoop
    by_cases hlt : k < s.vs.length
    · rw [if_pos hlt]
      obtain ⟨b, g, e1, e2, e3⟩ := h.val hlt
      have hb : D.getD (k + 1) [] = b := by rw [List.getD_eq_getElem?_getD, Nat.add_comm, e1]; rfl
      rw [hb, e3]
      have hgk : s.gs[k]'(by omega) = g := by rw [List.getElem?_eq_getElem (by omega)] at e2; injection e2
      have ih := rdLoop_ck h f (k + 1) (by omega)
      rw [List.take_succ_eq_append_getElem hlt, List.take_succ_eq_append_getElem (by omega : k < s.gs.length), hgk, show k + 1 - s.vs.length = k - s.vs.length by omega] at ih
      exact ih
    · rw [if_neg hlt]
      have hj : k - s.vs.length < s.ms.length := by omega
      obtain ⟨b, e1, e2⟩ := h.msg hj
      have hb : D.getD (k + 1) [] = b := by rw [List.getD_eq_getElem?_getD, show k + 1 = 1 + s.vs.length + (k - s.vs.length) by omega, e1]; rfl
      rw [hb, e2]
      have ih := rdLoop_ck h f (k + 1) (by omega)
      rw [show k + 1 - s.vs.length = (k - s.vs.length) + 1 by omega, List.take_succ_eq_append_getElem hj, List.take_of_length_le (by omega : s.vs.length ≤ k + 1), List.take_of_length_le (by omega : s.gs.length ≤ k + 1)] at ih
      rw [List.take_of_length_le (by omega : s.vs.length ≤ k), List.take_of_length_le (by omega : s.gs.length ≤ k)]
      exact ih
theorem rdRes_ck {D : List (List Int)} {s : Sta} (h : Ck D s) : (rdRes D).1 = s ∧ (rdRes D).2.2 = true := by
  obtain ⟨b, e1, e2⟩ := h.head
  have hF := Sta.okF h.1
  have hl := h.len
  have h1 := hF.many
  have h2 := hF.ml
  have hL := rdLoop_ck h (s.vs.length + s.ms.length) 0 (by omega)
  simp only [List.take_zero, Nat.zero_sub] at hL
  match D, e1 with
  | hd :: t, e1 =>
    simp only [List.getElem?_cons_zero, Option.some.injEq] at e1
    subst e1
    simp only [rdRes, e2]
    rw [if_pos ⟨by omega, by omega, by omega⟩, Int.toNat_natCast, Int.toNat_natCast, hL]
    unfold rdFin
    have hp : ckB s <+: hd :: t := h.2
    simp [h.1, hp]
theorem rdRes_only {D : List (List Int)} (h : (rdRes D).2.2 = true) : Ck D (rdRes D).1 := by
  cases D with
  | nil => cases h
  | cons hd t =>
    cases he : rcdH hd with
    | none =>
      simp only [rdRes, he] at h
      cases h
    | some p =>
      obtain ⟨r, m, w⟩ := p
      simp only [rdRes, he] at h ⊢
      split at h
      · rename_i hc
        rw [if_pos hc]
        unfold rdFin at h ⊢
        split at h
        · rename_i hr
          rw [if_pos hr]
          simp only [Bool.and_eq_true, decide_eq_true_eq] at h
          exact ⟨h.1, h.2⟩
        · cases h
      · cases h
theorem rdRes_some {D : List (List Int)} (h : (rdRes D).2.2 = true) : ckAt D = some (rdRes D).1 := ckAt_some (rdRes_only h)
theorem rdRes_none {D : List (List Int)} (h : (rdRes D).2.2 = false) : ckAt D = none := ckAt_none fun s hs => by
  rw [(rdRes_ck hs).2] at h; cases h
end Go.Proofs.Ytmkecjamfippfaa.Abs
set_option linter.unusedSimpArgs false
set_option linter.unusedVariables false
namespace Go.Proofs.Ytmkecjamfippfaa.Abs
open Go.RowKit
open R (val row ref)

theorem k_callV {P : Program} {l : List (Nat × D)} {h : List (Nat × Ob)} {o : Oper} {f : FuncId} {res : Res} {x : Operand} {xs : List Operand} {ys : List P0} {tys : Array TypeId} {nn : Bool} (hf : Fn P f ys res) (ho : o.op = .call { callee := .value x, args := xs.toArray, argTypes := tys }) (hx : evO l x = some (.one (.r nn (R.val (Value.func (.func f) #[] #[])))))
    (ha : AsArgs (lookH h) (evD (look l)) xs ys) : Loc P (lookH h) (evD (look l)) o res.d := by
  intro base a w ι own hown hbase hev hH _ K Q hK
  have hm : ∀ y ∈ xs, (evD (look l) y).p ι base ⟨w, own⟩ (a.eval y) := fun y hy => hev y (by rw [ho]; simp [Op.operands, Call.operands, hy])
  have hfx : a.eval x = .func (.func f) #[] #[] := by
    have := hev x (by rw [ho]; simp [Op.operands, Call.operands])
    rw [evO_spec hx] at this
    exact ((val_p (c := Cx.young ⟨w, own⟩ base nn)).1 this).1
  have hA := args_of hH xs ys hm ha
  have hrun : (execOp a.eval o).run P w = .ok (.enter f (xs.map a.eval).toArray) w := by
    unfold execOp
    rw [ho]
    simp [resolve, hfx, Deferred.ofValue, invoke, hf.1 _ _]
  unfold Oper.wp
  rw [hrun, Oper.upon_enter]
  refine (hf.2 w _ (hbase.2.mono hbase.1) hA).mono ?_
  rintro e w' ⟨v, rfl, hp, hb⟩
  have hx : Cx.Ext ⟨w', fun b => b < w.heap.size⟩ (Cx.young ⟨w', own⟩ base true) := Cx.Ext.sub rfl (by
    intro b hb'
    rcases hb' with h | h
    · exact (hown b h).2
    · exact Nat.lt_of_lt_of_le h hbase.1)
  exact hK v w' ι own (Chg.quiet hown hb (Res.d_p (Res.mono hx hp)))
end Go.Proofs.Ytmkecjamfippfaa.Abs
set_option linter.unusedSimpArgs false
set_option linter.unusedVariables false
namespace Go.Proofs.Ytmkecjamfippfaa.Abs
open Go.RowKit
open R (val row ref)

theorem allN_3 {sz : Nat} {a b c : P0} (h1 : a.n = sz) (h2 : b.n = sz) (h3 : c.n = sz) : AllN sz [a, b, c] := fun i x hx => by
  match i with
  | 0 => simp at hx; subst hx; exact h1
  | 1 => simp at hx; subst hx; exact h2
  | 2 => simp at hx; subst hx; exact h3
  | n + 3 => simp at hx
theorem asA_own0M {H : Nat → Option Ob} {k n sz : Nat} {E : TypeId} {els : List P0} {new : Bool} {ev : Operand → D} {x : Operand} (h : ev x = .one (.own k 0 n sz)) (hk : H k = some (.sl E sz new els)) (hn : n = els.length) : AsArg H (ev x) (.one (row false sz els)) := by
  have h2 := asA_own h hk (by omega)
  rwa [List.drop_zero, List.take_of_length_le (by omega)] at h2
set_option maxRecDepth 100000 in
set_option maxHeartbeats 4000000 in
theorem f_isNaN (a : Int) : Fn Try.prog 134 [iP a] (.v (.one (bool false))) := by
  refine fn_of (l := [.tmp 2]) Try.func134 (by kernel_rfl) rfl Try.ntmps134 rfl rfl ?_; simp only [argEnv, P0.d, Nat.reduceAdd]
  repeat' (first|(with_reducible first|refine aw_seq ?_|refine thn_normal ?_|refine thn_ret ?_|refine thn_exit ?_|refine blk_normal ?_|refine blk_ret ?_|refine blk_hit ?_|refine blk_miss rfl ?_|refine aw_block ?_|refine aw_ret ?_|refine aw_skip ?_|refine aw_exit ?_|refine w_nil ?_|refine x_nil (by kernel_rfl) ?_)|refine aw_region ?_|refine aw_region_draw (by kernel_rfl) ?_|refine aw_yes rfl ?_|refine aw_no rfl ?_|((with_reducible refine w_seq ?_); first|refine r_q tbOk rfl rfl rfl rfl ?_|refine r_e tbOk rfl rfl rfl rfl rfl ?_|refine r_yes tbOk rfl rfl rfl rfl rfl rfl ?_|refine w_no rfl rfl (lookO_spec rfl) rfl rfl rfl ?_|refine w_un rfl rfl (lookO_spec rfl) rfl rfl ?_)|((with_reducible refine w_drw ?_); first|refine rx_q tbOk rfl rfl rfl rfl ?_|refine rx_e tbOk rfl rfl rfl rfl rfl ?_|refine rx_yes tbOk rfl rfl rfl rfl rfl rfl ?_|refine x_no rfl rfl (lookO_spec rfl) rfl rfl rfl ?_|refine x_un rfl rfl (lookO_spec rfl) rfl rfl ?_)|((first|refine aw_ways rfl ?_ ?_|refine r_split rfl rfl rfl ?_ ?_) <;> intro hg_ <;> fail_if_success (exact Bool.noConfusion hg_)) <;> (try simp only [prn] at hg_) <;> (try first|contradiction|(exfalso; omega)))
  all_goals exact ret_tmp rfl (dres_bool (by simp))
set_option maxRecDepth 100000 in
set_option maxHeartbeats 4000000 in
theorem f_compareI (a b : Int) : Fn Try.prog 123 [iP a, iP b] (.v (iP (cmpI a b))) := by
  have K := fun a => f_isNaN a
  refine fn_of (l := [.tmp 4]) Try.func123 (by kernel_rfl) rfl Try.ntmps123 rfl rfl ?_; simp only [argEnv, P0.d, Nat.reduceAdd]
  repeat' (first|(with_reducible first|refine aw_seq ?_|refine thn_normal ?_|refine thn_ret ?_|refine thn_exit ?_|refine blk_normal ?_|refine blk_ret ?_|refine blk_hit ?_|refine blk_miss rfl ?_|refine aw_block ?_|refine aw_ret ?_|refine aw_skip ?_|refine aw_exit ?_|refine w_nil ?_|refine x_nil (by kernel_rfl) ?_)|refine aw_region ?_|refine aw_region_draw (by kernel_rfl) ?_|refine aw_yes rfl ?_|refine aw_no rfl ?_|((with_reducible refine w_seq ?_); first|refine r_q tbOk rfl rfl rfl rfl ?_|refine r_e tbOk rfl rfl rfl rfl rfl ?_|refine r_yes tbOk rfl rfl rfl rfl rfl rfl ?_|refine w_no rfl rfl (lookO_spec rfl) rfl rfl rfl ?_|refine w_un rfl rfl (lookO_spec rfl) rfl rfl ?_)|((with_reducible refine w_drw ?_); first|refine rx_q tbOk rfl rfl rfl rfl ?_|refine rx_e tbOk rfl rfl rfl rfl rfl ?_|refine rx_yes tbOk rfl rfl rfl rfl rfl rfl ?_|refine x_no rfl rfl (lookO_spec rfl) rfl rfl rfl ?_|refine x_un rfl rfl (lookO_spec rfl) rfl rfl ?_)|((first|refine' w_q rfl rfl ?xa rfl ?_|refine' v_q rfl rfl ?xa rfl ?_|refine' w_yes rfl rfl (lookO_spec rfl) rfl ?xa rfl ?_|refine' v_yes rfl rfl (lookO_spec rfl) rfl ?xa rfl ?_); case xa => exact k_call (K _) rfl ⟨asA_r (evO_spec rfl), trivial⟩)|((first|refine aw_ways rfl ?_ ?_|refine r_split rfl rfl rfl ?_ ?_) <;> intro hg_ <;> fail_if_success (exact Bool.noConfusion hg_)) <;> (try simp only [prn] at hg_) <;> (try first|contradiction|(exfalso; omega)))
  all_goals first
    | (exfalso; simp_all; done)
    | exact ret_tmp rfl (dres_int (by unfold cmpI; simp_all; done))
    | exact ret_tmp rfl (dres_int (by unfold cmpI; split <;> (try split) <;> simp_all <;> omega))
    | trace_state
set_option maxRecDepth 100000 in
set_option maxHeartbeats 4000000 in
theorem f_orI (nil : Bool) (xs : List Int) (hl : xs.length ≤ 1000) : Fn Try.prog 122 [.one (row nil 1 (ints xs))] (.v (iP (orI xs))) := by
  have hlen := ints_len xs
  refine fn_of (l := [.tmp 2]) Try.func122 (by kernel_rfl) rfl Try.ntmps122 rfl rfl ?_; simp only [argEnv, P0.d, Nat.reduceAdd]
  repeat' (first|(with_reducible first|refine aw_seq ?_|refine thn_normal ?_|refine thn_ret ?_|refine thn_exit ?_|refine blk_normal ?_|refine blk_ret ?_|refine blk_hit ?_|refine blk_miss rfl ?_|refine aw_block ?_|refine aw_ret ?_|refine aw_skip ?_|refine aw_exit ?_|refine w_nil ?_|refine x_nil (by kernel_rfl) ?_)|refine aw_region ?_|refine aw_region_draw (by kernel_rfl) ?_|refine aw_yes rfl ?_|refine aw_no rfl ?_|((with_reducible refine w_seq ?_); first|refine r_q tbOk rfl rfl rfl rfl ?_|refine r_e tbOk rfl rfl rfl rfl rfl ?_|refine r_yes tbOk rfl rfl rfl rfl rfl rfl ?_|refine w_no rfl rfl (lookO_spec rfl) rfl rfl rfl ?_|refine w_un rfl rfl (lookO_spec rfl) rfl rfl ?_)|((with_reducible refine w_drw ?_); first|refine rx_q tbOk rfl rfl rfl rfl ?_|refine rx_e tbOk rfl rfl rfl rfl rfl ?_|refine rx_yes tbOk rfl rfl rfl rfl rfl rfl ?_|refine x_no rfl rfl (lookO_spec rfl) rfl rfl rfl ?_|refine x_un rfl rfl (lookO_spec rfl) rfl rfl ?_)|((first|refine aw_ways rfl ?_ ?_|refine r_split rfl rfl rfl ?_ ?_) <;> intro hg_ <;> fail_if_success (exact Bool.noConfusion hg_)) <;> (try simp only [prn] at hg_) <;> (try first|contradiction|(exfalso; omega)))
  refine aw_loopI (fun k : Nat => k ≤ xs.length ∧ orI xs = orI (xs.drop k)) (fun k => mkS 18 [(8, .one (.r true (int (k : Int)))), (7, .one (.r true (int (xs.length : Int)))), (6, .one (.r false (row nil 1 (ints xs)))), (3, .one (.r true (int 0)))] []) (fun k => xs.length - k) 0 ⟨Nat.zero_le _, rfl⟩ (by (refine weak_ren [] rfl ?_ ?_ <;> repeat' (first|exact trivial|refine subR_cons rfl ?_ ?_|refine subHR_cons rfl ?_ ?_|rfl|(refine d_int ?_; (first|rfl|omega|(rw [IntWalk.i64_in _ (by omega)] <;> omega)|(simp; done)|(simp; omega)))|(refine d_bool ?_; (first|(simp_all; done)|(rw [Bool.eq_iff_iff]; simp_all; done)|(rw [Bool.eq_iff_iff]; simp_all; omega)|(rw [Bool.eq_iff_iff]; simp; omega)))|exact d_int (by rw [hlen])))) ?_
  rintro k ⟨hk, HP⟩
  repeat' (first|(with_reducible first|refine aw_seq ?_|refine thn_normal ?_|refine thn_ret ?_|refine thn_exit ?_|refine blk_normal ?_|refine blk_ret ?_|refine blk_hit ?_|refine blk_miss rfl ?_|refine aw_block ?_|refine aw_ret ?_|refine aw_skip ?_|refine aw_exit ?_|refine w_nil ?_|refine x_nil (by kernel_rfl) ?_)|refine aw_region ?_|refine aw_region_draw (by kernel_rfl) ?_|refine aw_yes rfl ?_|refine aw_no rfl ?_|((with_reducible refine w_seq ?_); first|refine r_q tbOk rfl rfl rfl rfl ?_|refine r_e tbOk rfl rfl rfl rfl rfl ?_|refine r_yes tbOk rfl rfl rfl rfl rfl rfl ?_|refine w_no rfl rfl (lookO_spec rfl) rfl rfl rfl ?_|refine w_un rfl rfl (lookO_spec rfl) rfl rfl ?_)|((with_reducible refine w_drw ?_); first|refine rx_q tbOk rfl rfl rfl rfl ?_|refine rx_e tbOk rfl rfl rfl rfl rfl ?_|refine rx_yes tbOk rfl rfl rfl rfl rfl rfl ?_|refine x_no rfl rfl (lookO_spec rfl) rfl rfl rfl ?_|refine x_un rfl rfl (lookO_spec rfl) rfl rfl ?_)|((first|refine' w_q rfl rfl ?xa rfl ?_|refine' v_q rfl rfl ?xa rfl ?_|refine' w_yes rfl rfl (lookO_spec rfl) rfl ?xa rfl ?_|refine' v_yes rfl rfl (lookO_spec rfl) rfl ?xa rfl ?_); case xa => exact k_index tbOk rfl rfl rfl rfl (by omega) (ints_at (by omega)))|((first|refine aw_ways rfl ?_ ?_|refine r_split rfl rfl rfl ?_ ?_) <;> intro hg_ <;> fail_if_success (exact Bool.noConfusion hg_)) <;> (try simp only [prn] at hg_) <;> (try first|contradiction|(exfalso; omega)))
  · exact ret_tmp rfl (dres_int (by rw [HP, List.drop_eq_getElem_cons (by omega), orI]; simp_all))
  · exact ⟨k + 1, ⟨by omega, by rw [HP, List.drop_eq_getElem_cons (by omega), orI]; simp_all⟩, by (refine weak_ren [] rfl ?_ ?_ <;> repeat' (first|exact trivial|refine subR_cons rfl ?_ ?_|refine subHR_cons rfl ?_ ?_|rfl|(refine d_int ?_; (first|rfl|omega|(rw [IntWalk.i64_in _ (by omega)] <;> omega)|(simp; done)|(simp; omega)))|(refine d_bool ?_; (first|(simp_all; done)|(rw [Bool.eq_iff_iff]; simp_all; done)|(rw [Bool.eq_iff_iff]; simp_all; omega)|(rw [Bool.eq_iff_iff]; simp; omega))))), by omega⟩
  · exact ret_tmp rfl (dres_int (by rw [HP, List.drop_eq_nil_of_le (by omega), orI]))
set_option maxRecDepth 100000 in
set_option maxHeartbeats 4000000 in
theorem f_compareMessages (a b : E3) : Fn Try.prog 115 [edgeP a, edgeP b] (.v (iP (cmpM a b))) := by
  obtain ⟨a1, a2, a3⟩ := a
  obtain ⟨b1, b2, b3⟩ := b
  have K1 := f_compareI a1 b1
  have K2 := f_compareI a2 b2
  have K3 := f_compareI a3 b3
  have KO : Fn Try.prog 122 [P0.one (row false 1 [P0.one (int (cmpI a1 b1)), P0.one (int (cmpI a2 b2)), P0.one (int (cmpI a3 b3))])] (.v (iP (orI [cmpI a1 b1, cmpI a2 b2, cmpI a3 b3]))) := f_orI false [cmpI a1 b1, cmpI a2 b2, cmpI a3 b3] (by simp)
  have e : cmpM (a1, a2, a3) (b1, b2, b3) = orI [cmpI a1 b1, cmpI a2 b2, cmpI a3 b3] := rfl
  rw [e]
  clear e
  generalize orI [cmpI a1 b1, cmpI a2 b2, cmpI a3 b3] = q at *
  generalize cmpI a1 b1 = x1 at *
  generalize cmpI a2 b2 = x2 at *
  generalize cmpI a3 b3 = x3 at *
  refine fn_of (l := [.tmp 4]) Try.func115 (by kernel_rfl) rfl Try.ntmps115 rfl rfl ?_; simp only [argEnv, P0.d, Nat.reduceAdd, edgeP, List.map_cons, List.map_nil]
  repeat' (first|(with_reducible first|refine aw_seq ?_|refine thn_normal ?_|refine thn_ret ?_|refine thn_exit ?_|refine blk_normal ?_|refine blk_ret ?_|refine blk_hit ?_|refine blk_miss rfl ?_|refine aw_block ?_|refine aw_ret ?_|refine aw_skip ?_|refine aw_exit ?_|refine w_nil ?_|refine x_nil (by kernel_rfl) ?_)|refine aw_region ?_|refine aw_region_draw (by kernel_rfl) ?_|refine aw_yes rfl ?_|refine aw_no rfl ?_|((with_reducible refine w_seq ?_); first|refine r_q tbOk rfl rfl rfl rfl ?_|refine r_e tbOk rfl rfl rfl rfl rfl ?_|refine r_yes tbOk rfl rfl rfl rfl rfl rfl ?_|refine w_no rfl rfl (lookO_spec rfl) rfl rfl rfl ?_|refine w_un rfl rfl (lookO_spec rfl) rfl rfl ?_)|((with_reducible refine w_drw ?_); first|refine rx_q tbOk rfl rfl rfl rfl ?_|refine rx_e tbOk rfl rfl rfl rfl rfl ?_|refine rx_yes tbOk rfl rfl rfl rfl rfl rfl ?_|refine x_no rfl rfl (lookO_spec rfl) rfl rfl rfl ?_|refine x_un rfl rfl (lookO_spec rfl) rfl rfl ?_)|((first|refine' w_q rfl rfl ?xa rfl ?_|refine' v_q rfl rfl ?xa rfl ?_|refine' w_yes rfl rfl (lookO_spec rfl) rfl ?xa rfl ?_|refine' v_yes rfl rfl (lookO_spec rfl) rfl ?xa rfl ?_); case xa => first|exact k_call K1 rfl ⟨asA_r (evO_spec rfl), asA_r (evO_spec rfl), trivial⟩|exact k_call K2 rfl ⟨asA_r (evO_spec rfl), asA_r (evO_spec rfl), trivial⟩|exact k_call K3 rfl ⟨asA_r (evO_spec rfl), asA_r (evO_spec rfl), trivial⟩|exact k_call KO rfl ⟨asA_own0M (evO_spec rfl) (lookHO_spec rfl) rfl, trivial⟩)|((first|refine' w_e rfl ?xa ?xb ?xc ?xe ?_|refine' v_e rfl ?xa ?xb ?xc ?xe ?_); (case xa => exact e_build [.tmp 9, .tmp 14, .tmp 19] tlOk rfl rfl rfl rfl rfl rfl (allN_3 rfl rfl rfl) (by simp)); (case xb => rfl); (case xc => rfl); (case xe => rfl); try dsimp only [P0.d, Res.d, List.map_cons, List.map_nil, List.set_cons_zero, List.set_cons_succ, Nat.reduceAdd])|((first|refine aw_ways rfl ?_ ?_|refine r_split rfl rfl rfl ?_ ?_) <;> intro hg_ <;> fail_if_success (exact Bool.noConfusion hg_)) <;> (try simp only [prn] at hg_) <;> (try first|contradiction|(exfalso; omega)))
  all_goals first
    | exact ret_tmp rfl (dres_int rfl)
    | trace_state
set_option maxRecDepth 100000 in
set_option maxHeartbeats 4000000 in
theorem f_l9Before (a b : E3) : Fn Try.prog 77 [edgeP a, edgeP b] (.v (.one (bool (bef a b)))) := by
  refine fn_of (l := [.tmp 4]) Try.func77 (by kernel_rfl) rfl Try.ntmps77 rfl rfl ?_; simp only [argEnv, P0.d, Nat.reduceAdd, edgeP, List.map_cons, List.map_nil]
  repeat' (first|(with_reducible first|refine aw_seq ?_|refine thn_normal ?_|refine thn_ret ?_|refine thn_exit ?_|refine blk_normal ?_|refine blk_ret ?_|refine blk_hit ?_|refine blk_miss rfl ?_|refine aw_block ?_|refine aw_ret ?_|refine aw_skip ?_|refine aw_exit ?_|refine w_nil ?_|refine x_nil (by kernel_rfl) ?_)|refine aw_region ?_|refine aw_region_draw (by kernel_rfl) ?_|refine aw_yes rfl ?_|refine aw_no rfl ?_|((with_reducible refine w_seq ?_); first|refine r_q tbOk rfl rfl rfl rfl ?_|refine r_e tbOk rfl rfl rfl rfl rfl ?_|refine r_yes tbOk rfl rfl rfl rfl rfl rfl ?_|refine w_no rfl rfl (lookO_spec rfl) rfl rfl rfl ?_|refine w_un rfl rfl (lookO_spec rfl) rfl rfl ?_)|((with_reducible refine w_drw ?_); first|refine rx_q tbOk rfl rfl rfl rfl ?_|refine rx_e tbOk rfl rfl rfl rfl rfl ?_|refine rx_yes tbOk rfl rfl rfl rfl rfl rfl ?_|refine x_no rfl rfl (lookO_spec rfl) rfl rfl rfl ?_|refine x_un rfl rfl (lookO_spec rfl) rfl rfl ?_)|((first|refine aw_ways rfl ?_ ?_|refine r_split rfl rfl rfl ?_ ?_) <;> intro hg_ <;> fail_if_success (exact Bool.noConfusion hg_)) <;> (try simp only [prn] at hg_) <;> (try first|contradiction|(exfalso; omega)))
  all_goals exact ret_tmp rfl (dres_bool (by unfold bef; (first | (simp_all; done) | (rw [Bool.eq_iff_iff]; simp_all; done) | (rw [Bool.eq_iff_iff]; simp_all; omega) | (rw [Bool.eq_iff_iff]; simp; omega))))
set_option maxRecDepth 100000 in
set_option maxHeartbeats 4000000 in
theorem f_l11Message (m : E3) (many : Int) : Fn Try.prog 76 [edgeP m, iP many] (.v (.one (bool (msgIn (IntKind.i64.wrap (many - 1)) m)))) := by
  refine fn_of (l := [.tmp 4]) Try.func76 (by kernel_rfl) rfl Try.ntmps76 rfl rfl ?_; simp only [argEnv, P0.d, Nat.reduceAdd, edgeP, List.map_cons, List.map_nil]
  repeat' (first|(with_reducible first|refine aw_seq ?_|refine thn_normal ?_|refine thn_ret ?_|refine thn_exit ?_|refine blk_normal ?_|refine blk_ret ?_|refine blk_hit ?_|refine blk_miss rfl ?_|refine aw_block ?_|refine aw_ret ?_|refine aw_skip ?_|refine aw_exit ?_|refine w_nil ?_|refine x_nil (by kernel_rfl) ?_)|refine aw_region ?_|refine aw_region_draw (by kernel_rfl) ?_|refine aw_yes rfl ?_|refine aw_no rfl ?_|((with_reducible refine w_seq ?_); first|refine r_q tbOk rfl rfl rfl rfl ?_|refine r_e tbOk rfl rfl rfl rfl rfl ?_|refine r_yes tbOk rfl rfl rfl rfl rfl rfl ?_|refine w_no rfl rfl (lookO_spec rfl) rfl rfl rfl ?_|refine w_un rfl rfl (lookO_spec rfl) rfl rfl ?_)|((with_reducible refine w_drw ?_); first|refine rx_q tbOk rfl rfl rfl rfl ?_|refine rx_e tbOk rfl rfl rfl rfl rfl ?_|refine rx_yes tbOk rfl rfl rfl rfl rfl rfl ?_|refine x_no rfl rfl (lookO_spec rfl) rfl rfl rfl ?_|refine x_un rfl rfl (lookO_spec rfl) rfl rfl ?_)|((first|refine' w_q rfl rfl ?xa rfl ?_|refine' v_q rfl rfl ?xa rfl ?_|refine' w_yes rfl rfl (lookO_spec rfl) rfl ?xa rfl ?_|refine' v_yes rfl rfl (lookO_spec rfl) rfl ?xa rfl ?_); case xa => exact k_call (f_l1In _ _ _) rfl ⟨asA_r (evO_spec rfl), asA_r (evO_spec rfl), asA_r (evO_spec rfl), trivial⟩)|((first|refine aw_ways rfl ?_ ?_|refine r_split rfl rfl rfl ?_ ?_) <;> intro hg_ <;> fail_if_success (exact Bool.noConfusion hg_)) <;> (try simp only [prn] at hg_) <;> (try first|contradiction|(exfalso; omega)))
  all_goals exact ret_tmp rfl (dres_bool (by unfold msgIn; simp_all))
set_option maxRecDepth 100000 in
set_option maxHeartbeats 4000000 in
theorem f_valueFits (v : Int) : Fn Try.prog 113 [iP v] (.v (.one (bool (valIn v)))) := by
  refine fn_of (l := [.tmp 2]) Try.func113 (by kernel_rfl) rfl Try.ntmps113 rfl rfl ?_; simp only [argEnv, P0.d, Nat.reduceAdd]
  repeat' (first|(with_reducible first|refine aw_seq ?_|refine thn_normal ?_|refine thn_ret ?_|refine thn_exit ?_|refine blk_normal ?_|refine blk_ret ?_|refine blk_hit ?_|refine blk_miss rfl ?_|refine aw_block ?_|refine aw_ret ?_|refine aw_skip ?_|refine aw_exit ?_|refine w_nil ?_|refine x_nil (by kernel_rfl) ?_)|refine aw_region ?_|refine aw_region_draw (by kernel_rfl) ?_|refine aw_yes rfl ?_|refine aw_no rfl ?_|((with_reducible refine w_seq ?_); first|refine r_q tbOk rfl rfl rfl rfl ?_|refine r_e tbOk rfl rfl rfl rfl rfl ?_|refine r_yes tbOk rfl rfl rfl rfl rfl rfl ?_|refine w_no rfl rfl (lookO_spec rfl) rfl rfl rfl ?_|refine w_un rfl rfl (lookO_spec rfl) rfl rfl ?_)|((with_reducible refine w_drw ?_); first|refine rx_q tbOk rfl rfl rfl rfl ?_|refine rx_e tbOk rfl rfl rfl rfl rfl ?_|refine rx_yes tbOk rfl rfl rfl rfl rfl rfl ?_|refine x_no rfl rfl (lookO_spec rfl) rfl rfl rfl ?_|refine x_un rfl rfl (lookO_spec rfl) rfl rfl ?_)|((first|refine aw_ways rfl ?_ ?_|refine r_split rfl rfl rfl ?_ ?_) <;> intro hg_ <;> fail_if_success (exact Bool.noConfusion hg_)) <;> (try simp only [prn] at hg_) <;> (try first|contradiction|(exfalso; omega)))
  all_goals exact ret_tmp rfl (dres_bool (by unfold valIn inR; rw [Bool.eq_iff_iff]; simp_all; try omega))
set_option maxRecDepth 100000 in
set_option maxHeartbeats 4000000 in
theorem f_roundFits (v : Int) : Fn Try.prog 82 [iP v] (.v (.one (bool (inR 0 100 v)))) := by
  refine fn_of (l := [.tmp 2]) Try.func82 (by kernel_rfl) rfl Try.ntmps82 rfl rfl ?_; simp only [argEnv, P0.d, Nat.reduceAdd]
  repeat' (first|(with_reducible first|refine aw_seq ?_|refine thn_normal ?_|refine thn_ret ?_|refine thn_exit ?_|refine blk_normal ?_|refine blk_ret ?_|refine blk_hit ?_|refine blk_miss rfl ?_|refine aw_block ?_|refine aw_ret ?_|refine aw_skip ?_|refine aw_exit ?_|refine w_nil ?_|refine x_nil (by kernel_rfl) ?_)|refine aw_region ?_|refine aw_region_draw (by kernel_rfl) ?_|refine aw_yes rfl ?_|refine aw_no rfl ?_|((with_reducible refine w_seq ?_); first|refine r_q tbOk rfl rfl rfl rfl ?_|refine r_e tbOk rfl rfl rfl rfl rfl ?_|refine r_yes tbOk rfl rfl rfl rfl rfl rfl ?_|refine w_no rfl rfl (lookO_spec rfl) rfl rfl rfl ?_|refine w_un rfl rfl (lookO_spec rfl) rfl rfl ?_)|((with_reducible refine w_drw ?_); first|refine rx_q tbOk rfl rfl rfl rfl ?_|refine rx_e tbOk rfl rfl rfl rfl rfl ?_|refine rx_yes tbOk rfl rfl rfl rfl rfl rfl ?_|refine x_no rfl rfl (lookO_spec rfl) rfl rfl rfl ?_|refine x_un rfl rfl (lookO_spec rfl) rfl rfl ?_)|((first|refine aw_ways rfl ?_ ?_|refine r_split rfl rfl rfl ?_ ?_) <;> intro hg_ <;> fail_if_success (exact Bool.noConfusion hg_)) <;> (try simp only [prn] at hg_) <;> (try first|contradiction|(exfalso; omega)))
  all_goals exact ret_tmp rfl (dres_bool (by unfold inR; rw [Bool.eq_iff_iff]; simp_all; try omega))
def msgFit (many : Int) (m : E3) : Bool := decide (0 ≤ m.1 ∧ m.1 < many ∧ 0 ≤ m.2.2 ∧ m.2.2 < many ∧ 0 ≤ m.2.1 ∧ m.2.1 < 1000000)
theorem msgFit_in (many : Int) (m : E3) : msgFit many m = msgIn (many - 1) m := by
  unfold msgFit msgIn inR
  rw [Bool.eq_iff_iff]; simp only [Bool.and_eq_true, decide_eq_true_eq]; omega
set_option maxRecDepth 100000 in
set_option maxHeartbeats 4000000 in
theorem f_messageFits (m : E3) (many : Int) : Fn Try.prog 116 [edgeP m, iP many] (.v (.one (bool (msgFit many m)))) := by
  refine fn_of (l := [.tmp 4]) Try.func116 (by kernel_rfl) rfl Try.ntmps116 rfl rfl ?_; simp only [argEnv, P0.d, Nat.reduceAdd, edgeP, List.map_cons, List.map_nil]
  repeat' (first|(with_reducible first|refine aw_seq ?_|refine thn_normal ?_|refine thn_ret ?_|refine thn_exit ?_|refine blk_normal ?_|refine blk_ret ?_|refine blk_hit ?_|refine blk_miss rfl ?_|refine aw_block ?_|refine aw_ret ?_|refine aw_skip ?_|refine aw_exit ?_|refine w_nil ?_|refine x_nil (by kernel_rfl) ?_)|refine aw_region ?_|refine aw_region_draw (by kernel_rfl) ?_|refine aw_yes rfl ?_|refine aw_no rfl ?_|((with_reducible refine w_seq ?_); first|refine r_q tbOk rfl rfl rfl rfl ?_|refine r_e tbOk rfl rfl rfl rfl rfl ?_|refine r_yes tbOk rfl rfl rfl rfl rfl rfl ?_|refine w_no rfl rfl (lookO_spec rfl) rfl rfl rfl ?_|refine w_un rfl rfl (lookO_spec rfl) rfl rfl ?_)|((with_reducible refine w_drw ?_); first|refine rx_q tbOk rfl rfl rfl rfl ?_|refine rx_e tbOk rfl rfl rfl rfl rfl ?_|refine rx_yes tbOk rfl rfl rfl rfl rfl rfl ?_|refine x_no rfl rfl (lookO_spec rfl) rfl rfl rfl ?_|refine x_un rfl rfl (lookO_spec rfl) rfl rfl ?_)|((first|refine aw_ways rfl ?_ ?_|refine r_split rfl rfl rfl ?_ ?_) <;> intro hg_ <;> fail_if_success (exact Bool.noConfusion hg_)) <;> (try simp only [prn] at hg_) <;> (try first|contradiction|(exfalso; omega)))
  all_goals exact ret_tmp rfl (dres_bool (by unfold msgFit; rw [Bool.eq_iff_iff]; simp_all <;> omega))
set_option maxRecDepth 100000 in
set_option maxHeartbeats 4000000 in
theorem f_valuesFit (nil : Bool) (xs : List Int) (hl : xs.length ≤ maxLen) : Fn Try.prog 83 [.one (row nil 1 (ints xs))] (.v (.one (bool (xs.all valIn)))) := by
  have hlen := ints_len xs
  have hml : xs.length ≤ 9223372036854775807 := hl
  have K := fun v => f_valueFits v
  refine fn_of (l := [.tmp 2]) Try.func83 (by kernel_rfl) rfl Try.ntmps83 rfl rfl ?_; simp only [argEnv, P0.d, Nat.reduceAdd]
  repeat' (first|(with_reducible first|refine aw_seq ?_|refine thn_normal ?_|refine thn_ret ?_|refine thn_exit ?_|refine blk_normal ?_|refine blk_ret ?_|refine blk_hit ?_|refine blk_miss rfl ?_|refine aw_block ?_|refine aw_ret ?_|refine aw_skip ?_|refine aw_exit ?_|refine w_nil ?_|refine x_nil (by kernel_rfl) ?_)|refine aw_region ?_|refine aw_region_draw (by kernel_rfl) ?_|refine aw_yes rfl ?_|refine aw_no rfl ?_|((with_reducible refine w_seq ?_); first|refine r_q tbOk rfl rfl rfl rfl ?_|refine r_e tbOk rfl rfl rfl rfl rfl ?_|refine r_yes tbOk rfl rfl rfl rfl rfl rfl ?_|refine w_no rfl rfl (lookO_spec rfl) rfl rfl rfl ?_|refine w_un rfl rfl (lookO_spec rfl) rfl rfl ?_)|((with_reducible refine w_drw ?_); first|refine rx_q tbOk rfl rfl rfl rfl ?_|refine rx_e tbOk rfl rfl rfl rfl rfl ?_|refine rx_yes tbOk rfl rfl rfl rfl rfl rfl ?_|refine x_no rfl rfl (lookO_spec rfl) rfl rfl rfl ?_|refine x_un rfl rfl (lookO_spec rfl) rfl rfl ?_)|((first|refine aw_ways rfl ?_ ?_|refine r_split rfl rfl rfl ?_ ?_) <;> intro hg_ <;> fail_if_success (exact Bool.noConfusion hg_)) <;> (try simp only [prn] at hg_) <;> (try first|contradiction|(exfalso; omega)))
  refine aw_loopI (fun k : Nat => k ≤ xs.length ∧ xs.all valIn = (xs.drop k).all valIn) (fun k => mkS 15 [(7, .one (.r true (int (k : Int)))), (6, .one (.r true (int (xs.length : Int)))), (5, .one (.r false (row nil 1 (ints xs))))] []) (fun k => xs.length - k) 0 ⟨Nat.zero_le _, rfl⟩ (by (refine weak_ren [] rfl ?_ ?_ <;> repeat' (first|exact trivial|refine subR_cons rfl ?_ ?_|refine subHR_cons rfl ?_ ?_|rfl|(refine d_int ?_; (first|rfl|omega|(rw [IntWalk.i64_in _ (by omega)] <;> omega)|(simp; done)|(simp; omega)))|(refine d_bool ?_; (first|(simp_all; done)|(rw [Bool.eq_iff_iff]; simp_all; done)|(rw [Bool.eq_iff_iff]; simp_all; omega)|(rw [Bool.eq_iff_iff]; simp; omega)))|exact d_int (by rw [hlen])))) ?_
  rintro k ⟨hk, HP⟩
  repeat' (first|(with_reducible first|refine aw_seq ?_|refine thn_normal ?_|refine thn_ret ?_|refine thn_exit ?_|refine blk_normal ?_|refine blk_ret ?_|refine blk_hit ?_|refine blk_miss rfl ?_|refine aw_block ?_|refine aw_ret ?_|refine aw_skip ?_|refine aw_exit ?_|refine w_nil ?_|refine x_nil (by kernel_rfl) ?_)|refine aw_region ?_|refine aw_region_draw (by kernel_rfl) ?_|refine aw_yes rfl ?_|refine aw_no rfl ?_|((with_reducible refine w_seq ?_); first|refine r_q tbOk rfl rfl rfl rfl ?_|refine r_e tbOk rfl rfl rfl rfl rfl ?_|refine r_yes tbOk rfl rfl rfl rfl rfl rfl ?_|refine w_no rfl rfl (lookO_spec rfl) rfl rfl rfl ?_|refine w_un rfl rfl (lookO_spec rfl) rfl rfl ?_)|((with_reducible refine w_drw ?_); first|refine rx_q tbOk rfl rfl rfl rfl ?_|refine rx_e tbOk rfl rfl rfl rfl rfl ?_|refine rx_yes tbOk rfl rfl rfl rfl rfl rfl ?_|refine x_no rfl rfl (lookO_spec rfl) rfl rfl rfl ?_|refine x_un rfl rfl (lookO_spec rfl) rfl rfl ?_)|((first|refine' w_q rfl rfl ?xa rfl ?_|refine' v_q rfl rfl ?xa rfl ?_|refine' w_yes rfl rfl (lookO_spec rfl) rfl ?xa rfl ?_|refine' v_yes rfl rfl (lookO_spec rfl) rfl ?xa rfl ?_); case xa => first|exact k_index tbOk rfl rfl rfl rfl (by omega) (ints_at (by omega))|exact k_call (K _) rfl ⟨asA_r (evO_spec rfl), trivial⟩)|((first|refine aw_ways rfl ?_ ?_|refine r_split rfl rfl rfl ?_ ?_) <;> intro hg_ <;> fail_if_success (exact Bool.noConfusion hg_)) <;> (try simp only [prn] at hg_) <;> (try first|contradiction|(exfalso; omega)))
  all_goals first
    | exact ret_tmp rfl (dres_bool (by rw [HP, all_step (by omega)]; simp_all; done))
   |exact ⟨k + 1, ⟨by omega, by rw [HP, all_step (by omega)]; simp_all⟩, by (refine weak_ren [] rfl ?_ ?_ <;> repeat' (first|exact trivial|refine subR_cons rfl ?_ ?_|refine subHR_cons rfl ?_ ?_|rfl|(refine d_int ?_; (first|rfl|omega|(rw [IntWalk.i64_in _ (by omega)] <;> omega)|(simp; done)|(simp; omega)))|(refine d_bool ?_; (first|(simp_all; done)|(rw [Bool.eq_iff_iff]; simp_all; done)|(rw [Bool.eq_iff_iff]; simp_all; omega)|(rw [Bool.eq_iff_iff]; simp; omega))))), by omega⟩
    | exact ret_tmp rfl (dres_bool (by rw [HP, List.drop_eq_nil_of_le (by omega)]; rfl))
    | trace_state
set_option maxRecDepth 100000 in
set_option maxHeartbeats 4000000 in
theorem f_isSorted (nil : Bool) (ms : List E3) (hl : ms.length ≤ maxLen) : Fn Try.prog 114 [.one (row nil 3 (edges ms)), .one (R.val (Value.func (.func 115) #[] #[]))] (.v (.one (bool (srt ms)))) := by
  have hlen := edges_len ms
  have hml : ms.length ≤ 9223372036854775807 := hl
  have KC := fun a b => f_compareMessages a b
  refine fn_of (l := [.tmp 4]) Try.func114 (by kernel_rfl) rfl Try.ntmps114 rfl rfl ?_; simp only [argEnv, P0.d, Nat.reduceAdd]
  repeat' (first|(with_reducible first|refine aw_seq ?_|refine thn_normal ?_|refine thn_ret ?_|refine thn_exit ?_|refine blk_normal ?_|refine blk_ret ?_|refine blk_hit ?_|refine blk_miss rfl ?_|refine aw_block ?_|refine aw_ret ?_|refine aw_skip ?_|refine aw_exit ?_|refine w_nil ?_|refine x_nil (by kernel_rfl) ?_)|refine aw_region ?_|refine aw_region_draw (by kernel_rfl) ?_|refine aw_yes rfl ?_|refine aw_no rfl ?_|((with_reducible refine w_seq ?_); first|refine r_q tbOk rfl rfl rfl rfl ?_|refine r_e tbOk rfl rfl rfl rfl rfl ?_|refine r_yes tbOk rfl rfl rfl rfl rfl rfl ?_|refine w_no rfl rfl (lookO_spec rfl) rfl rfl rfl ?_|refine w_un rfl rfl (lookO_spec rfl) rfl rfl ?_)|((with_reducible refine w_drw ?_); first|refine rx_q tbOk rfl rfl rfl rfl ?_|refine rx_e tbOk rfl rfl rfl rfl rfl ?_|refine rx_yes tbOk rfl rfl rfl rfl rfl rfl ?_|refine x_no rfl rfl (lookO_spec rfl) rfl rfl rfl ?_|refine x_un rfl rfl (lookO_spec rfl) rfl rfl ?_)|((first|refine aw_ways rfl ?_ ?_|refine r_split rfl rfl rfl ?_ ?_) <;> intro hg_ <;> fail_if_success (exact Bool.noConfusion hg_)) <;> (try simp only [prn] at hg_) <;> (try first|contradiction|(exfalso; omega)))
  obtain ⟨F, hF⟩ : ∃ F : Nat → St, ∀ k, F k = mkS 25 [(5, .one (.r true (int (((ms.length - k : Nat) : Int) - 1)))), (1, .one (.r false (R.val (Value.func (.func 115) #[] #[])))), (0, .one (.r false (row nil 3 (edges ms))))] [] := ⟨_, fun _ => rfl⟩
  refine aw_loopI (fun k : Nat => (k ≤ ms.length) ∧ ∀ j (h : j + 1 < ms.length), ms.length - k ≤ j + 1 → bef ms[j + 1] ms[j] = false) F (fun k => ms.length - k) 0 ⟨Nat.zero_le _, fun j h h2 => by omega⟩ (by rw [hF]; (refine weak_ren [] rfl ?_ ?_ <;> repeat' (first|exact trivial|refine subR_cons rfl ?_ ?_|refine subHR_cons rfl ?_ ?_|rfl|(refine d_int ?_; (first|rfl|omega|(rw [IntWalk.i64_in _ (by omega)] <;> omega)|(simp; done)|(simp; omega)))|(refine d_bool ?_; (first|(simp_all; done)|(rw [Bool.eq_iff_iff]; simp_all; done)|(rw [Bool.eq_iff_iff]; simp_all; omega)|(rw [Bool.eq_iff_iff]; simp; omega)))|exact d_int (by rw [hlen, IntWalk.i64_in _ (by omega)]; omega)))) ?_
  rintro k ⟨hk, HP⟩
  rw [hF]
  by_cases hlt : k + 1 < ms.length
  · obtain ⟨i, hi⟩ : ∃ i : Nat, i + 1 + k + 1 = ms.length := ⟨ms.length - k - 2, by omega⟩
    have e1 : ((ms.length - k : Nat) : Int) - 1 = ((i + 1 : Nat) : Int) := by omega
    have e2 : IntKind.i64.wrap (((i + 1 : Nat) : Int) - 1) = (i : Int) := by rw [IntWalk.i64_in _ (by omega)]; omega
    rw [e1]
    have KCh := KC ms[i + 1] ms[i]
    have hneg := cmpM_neg ms[i + 1] ms[i]
    have hat1 := edges_at (es := ms) (k := i + 1) (by omega)
    have hat0 := edges_at (es := ms) (k := i) (by omega)
    have hfin : ∀ s' : St, Weak s' (F (k + 1)) → bef ms[i + 1] ms[i] = false → ∃ x' : Nat, (x' ≤ ms.length ∧ ∀ j (h : j + 1 < ms.length), ms.length - x' ≤ j + 1 → bef ms[j + 1] ms[j] = false) ∧ Weak s' (F x') ∧ ms.length - x' < ms.length - k := fun s' hs hb => ⟨k + 1, ⟨by omega, fun j h h2 => by
      by_cases hj : j = i
      · subst hj; exact hb
      · exact HP j h (by omega)⟩, hs, by omega⟩
    have hno : bef ms[i + 1] ms[i] = true → srt ms = false := fun hb => by
      rw [Bool.eq_false_iff]
      intro hs
      have := (srt_iff ms).1 hs i (by omega)
      rw [hb] at this; cases this
    rw [← e2] at hat0
    have h0 : (0 : Int) ≤ IntKind.i64.wrap (((i + 1 : Nat) : Int) - 1) := by rw [e2]; omega
    have e3 : IntKind.i64.wrap (((i + 1 : Nat) : Int) - 1) = ((ms.length - (k + 1) : Nat) : Int) - 1 := by rw [e2]; omega
    rw [hF] at hfin
    clear hF HP KC
    generalize bef ms[i + 1] ms[i] = bb at *
    generalize ms[i + 1] = p at *
    generalize ms[i] = q at *
    obtain ⟨p1, p2, p3⟩ := p
    obtain ⟨q1, q2, q3⟩ := q
    generalize cmpM (p1, p2, p3) (q1, q2, q3) = c at *
    repeat' (first|(with_reducible first|refine aw_seq ?_|refine thn_normal ?_|refine thn_ret ?_|refine thn_exit ?_|refine blk_normal ?_|refine blk_ret ?_|refine blk_hit ?_|refine blk_miss rfl ?_|refine aw_block ?_|refine aw_ret ?_|refine aw_skip ?_|refine aw_exit ?_|refine w_nil ?_|refine x_nil (by kernel_rfl) ?_)|refine aw_region ?_|refine aw_region_draw (by kernel_rfl) ?_|refine aw_yes rfl ?_|refine aw_no rfl ?_|((with_reducible refine w_seq ?_); first|refine r_q tbOk rfl rfl rfl rfl ?_|refine r_e tbOk rfl rfl rfl rfl rfl ?_|refine r_yes tbOk rfl rfl rfl rfl rfl rfl ?_|refine w_no rfl rfl (lookO_spec rfl) rfl rfl rfl ?_|refine w_un rfl rfl (lookO_spec rfl) rfl rfl ?_)|((with_reducible refine w_drw ?_); first|refine rx_q tbOk rfl rfl rfl rfl ?_|refine rx_e tbOk rfl rfl rfl rfl rfl ?_|refine rx_yes tbOk rfl rfl rfl rfl rfl rfl ?_|refine x_no rfl rfl (lookO_spec rfl) rfl rfl rfl ?_|refine x_un rfl rfl (lookO_spec rfl) rfl rfl ?_)|((first|refine' w_q rfl rfl ?xa rfl ?_|refine' v_q rfl rfl ?xa rfl ?_|refine' w_yes rfl rfl (lookO_spec rfl) rfl ?xa rfl ?_|refine' v_yes rfl rfl (lookO_spec rfl) rfl ?xa rfl ?_); case xa => first|exact k_index tbOk rfl rfl rfl rfl (by first|exact h0|omega) (by first|exact hat0|exact hat1)|exact k_callV KCh rfl rfl ⟨asA_agg (evO_spec rfl) ⟨cAr_r, cAr_r, cAr_r, trivial⟩, asA_agg (evO_spec rfl) ⟨cAr_r, cAr_r, cAr_r, trivial⟩, trivial⟩)|((first|refine aw_ways rfl ?_ ?_|refine r_split rfl rfl rfl ?_ ?_) <;> intro hg_ <;> fail_if_success (exact Bool.noConfusion hg_)) <;> (try simp only [prn] at hg_) <;> (try first|contradiction|(exfalso; omega)))
    all_goals first
      | exact ret_tmp rfl (dres_bool (hno (by rw [← hneg]; simp; omega)).symm)
      | (refine hfin _ ?_ (by rw [← hneg]; simp; omega)
         (refine weak_ren [] rfl ?_ ?_ <;> repeat' (first|exact trivial|refine subR_cons rfl ?_ ?_|refine subHR_cons rfl ?_ ?_|rfl|(refine d_int ?_; (first|rfl|omega|(rw [IntWalk.i64_in _ (by omega)] <;> omega)|(simp; done)|(simp; omega)))|(refine d_bool ?_; (first|(simp_all; done)|(rw [Bool.eq_iff_iff]; simp_all; done)|(rw [Bool.eq_iff_iff]; simp_all; omega)|(rw [Bool.eq_iff_iff]; simp; omega)))|exact d_int e3)))
      | (exfalso; omega)
      | trace_state
  · have hs : srt ms = true := (srt_iff ms).2 fun j h => HP j h (by omega)
    have e1 : ¬ (((ms.length - k : Nat) : Int) - 1 > 0) := by omega
    rw [hs]
    clear hF HP
    generalize ((ms.length - k : Nat) : Int) - 1 = z at *
    repeat' (first|(with_reducible first|refine aw_seq ?_|refine thn_normal ?_|refine thn_ret ?_|refine thn_exit ?_|refine blk_normal ?_|refine blk_ret ?_|refine blk_hit ?_|refine blk_miss rfl ?_|refine aw_block ?_|refine aw_ret ?_|refine aw_skip ?_|refine aw_exit ?_|refine w_nil ?_|refine x_nil (by kernel_rfl) ?_)|refine aw_region ?_|refine aw_region_draw (by kernel_rfl) ?_|refine aw_yes rfl ?_|refine aw_no rfl ?_|((with_reducible refine w_seq ?_); first|refine r_q tbOk rfl rfl rfl rfl ?_|refine r_e tbOk rfl rfl rfl rfl rfl ?_|refine r_yes tbOk rfl rfl rfl rfl rfl rfl ?_|refine w_no rfl rfl (lookO_spec rfl) rfl rfl rfl ?_|refine w_un rfl rfl (lookO_spec rfl) rfl rfl ?_)|((with_reducible refine w_drw ?_); first|refine rx_q tbOk rfl rfl rfl rfl ?_|refine rx_e tbOk rfl rfl rfl rfl rfl ?_|refine rx_yes tbOk rfl rfl rfl rfl rfl rfl ?_|refine x_no rfl rfl (lookO_spec rfl) rfl rfl rfl ?_|refine x_un rfl rfl (lookO_spec rfl) rfl rfl ?_)|((first|refine aw_ways rfl ?_ ?_|refine r_split rfl rfl rfl ?_ ?_) <;> intro hg_ <;> fail_if_success (exact Bool.noConfusion hg_)) <;> (try simp only [prn] at hg_) <;> (try first|contradiction|(exfalso; omega)))
    all_goals first
      | (exfalso; omega)
      | exact ret_tmp rfl (dres_bool rfl)
      | trace_state
def fitsIn (many : Int) (ms : List E3) : Bool := decide (ms.length ≤ 2000) && srt ms && ms.all (msgFit many)
theorem fitsIn_eq (many : Int) (ms : List E3) : fitsIn many ms = (decide (ms.length ≤ 2000) && msOk (many - 1) none ms) := by
  unfold fitsIn
  rw [msOk_none, show msgFit many = msgIn (many - 1) from funext (msgFit_in many), Bool.and_assoc]
set_option maxRecDepth 100000 in
set_option maxHeartbeats 4000000 in
theorem f_inboxFits (nil : Bool) (ms : List E3) (many : Int) (hl : ms.length ≤ maxLen) : Fn Try.prog 84 [.one (row nil 3 (edges ms)), iP many] (.v (.one (bool (fitsIn many ms)))) := by
  have hlen := edges_len ms
  have hml : ms.length ≤ 9223372036854775807 := hl
  have KS := f_isSorted nil ms hl
  have K := fun m => f_messageFits m many
  refine fn_of (l := [.tmp 4]) Try.func84 (by kernel_rfl) rfl Try.ntmps84 rfl rfl ?_; simp only [argEnv, P0.d, Nat.reduceAdd]
  repeat' (first|(with_reducible first|refine aw_seq ?_|refine thn_normal ?_|refine thn_ret ?_|refine thn_exit ?_|refine blk_normal ?_|refine blk_ret ?_|refine blk_hit ?_|refine blk_miss rfl ?_|refine aw_block ?_|refine aw_ret ?_|refine aw_skip ?_|refine aw_exit ?_|refine w_nil ?_|refine x_nil (by kernel_rfl) ?_)|refine aw_region ?_|refine aw_region_draw (by kernel_rfl) ?_|refine aw_yes rfl ?_|refine aw_no rfl ?_|((with_reducible refine w_seq ?_); first|refine r_q tbOk rfl rfl rfl rfl ?_|refine r_e tbOk rfl rfl rfl rfl rfl ?_|refine r_yes tbOk rfl rfl rfl rfl rfl rfl ?_|refine w_no rfl rfl (lookO_spec rfl) rfl rfl rfl ?_|refine w_un rfl rfl (lookO_spec rfl) rfl rfl ?_)|((with_reducible refine w_drw ?_); first|refine rx_q tbOk rfl rfl rfl rfl ?_|refine rx_e tbOk rfl rfl rfl rfl rfl ?_|refine rx_yes tbOk rfl rfl rfl rfl rfl rfl ?_|refine x_no rfl rfl (lookO_spec rfl) rfl rfl rfl ?_|refine x_un rfl rfl (lookO_spec rfl) rfl rfl ?_)|((first|refine' w_q rfl rfl ?xa rfl ?_|refine' v_q rfl rfl ?xa rfl ?_|refine' w_yes rfl rfl (lookO_spec rfl) rfl ?xa rfl ?_|refine' v_yes rfl rfl (lookO_spec rfl) rfl ?xa rfl ?_); case xa => exact k_call KS rfl ⟨asA_r (evO_spec rfl), asA_r (evO_spec rfl), trivial⟩)|((first|refine aw_ways rfl ?_ ?_|refine r_split rfl rfl rfl ?_ ?_) <;> intro hg_ <;> fail_if_success (exact Bool.noConfusion hg_)) <;> (try simp only [prn] at hg_) <;> (try first|contradiction|(exfalso; omega)))
  · exact ret_tmp rfl (dres_bool (by unfold fitsIn; simp_all; try omega))
  · exact ret_tmp rfl (dres_bool (by unfold fitsIn; simp [*]))
  refine aw_loopI (fun k : Nat => k ≤ ms.length ∧ fitsIn many ms = (ms.drop k).all (msgFit many)) (fun k => mkS 26 [(17, .one (.r true (int (k : Int)))), (16, .one (.r true (int (ms.length : Int)))), (15, .one (.r false (row nil 3 (edges ms)))), (1, .one (.r false (int many)))] []) (fun k => ms.length - k) 0 ⟨Nat.zero_le _, by unfold fitsIn; simp_all; try omega⟩ (by (refine weak_ren [] rfl ?_ ?_ <;> repeat' (first|exact trivial|refine subR_cons rfl ?_ ?_|refine subHR_cons rfl ?_ ?_|rfl|(refine d_int ?_; (first|rfl|omega|(rw [IntWalk.i64_in _ (by omega)] <;> omega)|(simp; done)|(simp; omega)))|(refine d_bool ?_; (first|(simp_all; done)|(rw [Bool.eq_iff_iff]; simp_all; done)|(rw [Bool.eq_iff_iff]; simp_all; omega)|(rw [Bool.eq_iff_iff]; simp; omega)))|exact d_int (by rw [hlen])))) ?_
  rintro k ⟨hk, HP⟩
  repeat' (first|(with_reducible first|refine aw_seq ?_|refine thn_normal ?_|refine thn_ret ?_|refine thn_exit ?_|refine blk_normal ?_|refine blk_ret ?_|refine blk_hit ?_|refine blk_miss rfl ?_|refine aw_block ?_|refine aw_ret ?_|refine aw_skip ?_|refine aw_exit ?_|refine w_nil ?_|refine x_nil (by kernel_rfl) ?_)|refine aw_region ?_|refine aw_region_draw (by kernel_rfl) ?_|refine aw_yes rfl ?_|refine aw_no rfl ?_|((with_reducible refine w_seq ?_); first|refine r_q tbOk rfl rfl rfl rfl ?_|refine r_e tbOk rfl rfl rfl rfl rfl ?_|refine r_yes tbOk rfl rfl rfl rfl rfl rfl ?_|refine w_no rfl rfl (lookO_spec rfl) rfl rfl rfl ?_|refine w_un rfl rfl (lookO_spec rfl) rfl rfl ?_)|((with_reducible refine w_drw ?_); first|refine rx_q tbOk rfl rfl rfl rfl ?_|refine rx_e tbOk rfl rfl rfl rfl rfl ?_|refine rx_yes tbOk rfl rfl rfl rfl rfl rfl ?_|refine x_no rfl rfl (lookO_spec rfl) rfl rfl rfl ?_|refine x_un rfl rfl (lookO_spec rfl) rfl rfl ?_)|((first|refine' w_q rfl rfl ?xa rfl ?_|refine' v_q rfl rfl ?xa rfl ?_|refine' w_yes rfl rfl (lookO_spec rfl) rfl ?xa rfl ?_|refine' v_yes rfl rfl (lookO_spec rfl) rfl ?xa rfl ?_); case xa => first|exact k_index tbOk rfl rfl rfl rfl (by omega) (edges_at (by omega))|exact k_call (K (_, _, _)) rfl ⟨asA_agg (evO_spec rfl) ⟨cAr_r, cAr_r, cAr_r, trivial⟩, asA_r (evO_spec rfl), trivial⟩)|((first|refine aw_ways rfl ?_ ?_|refine r_split rfl rfl rfl ?_ ?_) <;> intro hg_ <;> fail_if_success (exact Bool.noConfusion hg_)) <;> (try simp only [prn] at hg_) <;> (try first|contradiction|(exfalso; omega)))
  all_goals first
    | exact ret_tmp rfl (dres_bool (by rw [HP, all_step (by omega)]; simp_all; done))
   |exact ⟨k + 1, ⟨by omega, by rw [HP, all_step (by omega)]; simp_all⟩, by (refine weak_ren [] rfl ?_ ?_ <;> repeat' (first|exact trivial|refine subR_cons rfl ?_ ?_|refine subHR_cons rfl ?_ ?_|rfl|(refine d_int ?_; (first|rfl|omega|(rw [IntWalk.i64_in _ (by omega)] <;> omega)|(simp; done)|(simp; omega)))|(refine d_bool ?_; (first|(simp_all; done)|(rw [Bool.eq_iff_iff]; simp_all; done)|(rw [Bool.eq_iff_iff]; simp_all; omega)|(rw [Bool.eq_iff_iff]; simp; omega))))), by omega⟩
    | exact ret_tmp rfl (dres_bool (by rw [HP, List.drop_eq_nil_of_le (by omega)]; rfl))
    | trace_state
set_option maxRecDepth 100000 in
set_option maxHeartbeats 4000000 in
theorem f_implStateValid (many r : Int) (nv ng nm : Bool) (vs : List Int) (gs : List Bool) (ms : List E3) (hv : vs.length ≤ maxLen) (hg : gs.length ≤ maxLen) (hl : ms.length ≤ maxLen) : Fn Try.prog 35 [stateP r nv vs ng gs nm ms, iP many] (.v (.one (bool (stOk many r vs gs.length ms)))) := by
  have hlenV := ints_len vs
  have hlenG := bools_len gs
  have hlenM := edges_len ms
  have K1 := f_roundFits r
  have K2 := f_valuesFit nv vs hv
  have K3 := f_inboxFits nm ms many hl
  have E : stOk many r vs gs.length ms = (inR 0 16 many && inR 0 100 r && decide ((vs.length : Int) = many) && decide ((gs.length : Int) = many) && (vs.all valIn && fitsIn many ms)) := by
    unfold stOk; rw [fitsIn_eq]
    cases decide (ms.length ≤ 2000) <;> cases vs.all valIn <;> cases msOk (many - 1) none ms <;> simp
  have E2 : inR 0 16 many = decide (0 ≤ many ∧ many ≤ 16) := rfl
  rw [E, E2]
  clear E E2
  generalize fitsIn many ms = b3 at *
  generalize vs.all valIn = b2 at *
  generalize inR 0 100 r = b1 at *
  refine fn_of (l := [.tmp 4]) Try.func35 (by kernel_rfl) rfl Try.ntmps35 rfl rfl ?_; simp only [argEnv, P0.d, Nat.reduceAdd, stateP, List.map_cons, List.map_nil]
  repeat' (first|(with_reducible first|refine aw_seq ?_|refine thn_normal ?_|refine thn_ret ?_|refine thn_exit ?_|refine blk_normal ?_|refine blk_ret ?_|refine blk_hit ?_|refine blk_miss rfl ?_|refine aw_block ?_|refine aw_ret ?_|refine aw_skip ?_|refine aw_exit ?_|refine w_nil ?_|refine x_nil (by kernel_rfl) ?_)|refine aw_region ?_|refine aw_region_draw (by kernel_rfl) ?_|refine aw_yes rfl ?_|refine aw_no rfl ?_|((with_reducible refine w_seq ?_); first|refine r_q tbOk rfl rfl rfl rfl ?_|refine r_e tbOk rfl rfl rfl rfl rfl ?_|refine r_yes tbOk rfl rfl rfl rfl rfl rfl ?_|refine w_no rfl rfl (lookO_spec rfl) rfl rfl rfl ?_|refine w_un rfl rfl (lookO_spec rfl) rfl rfl ?_)|((with_reducible refine w_drw ?_); first|refine rx_q tbOk rfl rfl rfl rfl ?_|refine rx_e tbOk rfl rfl rfl rfl rfl ?_|refine rx_yes tbOk rfl rfl rfl rfl rfl rfl ?_|refine x_no rfl rfl (lookO_spec rfl) rfl rfl rfl ?_|refine x_un rfl rfl (lookO_spec rfl) rfl rfl ?_)|((first|refine' w_q rfl rfl ?xa rfl ?_|refine' v_q rfl rfl ?xa rfl ?_|refine' w_yes rfl rfl (lookO_spec rfl) rfl ?xa rfl ?_|refine' v_yes rfl rfl (lookO_spec rfl) rfl ?xa rfl ?_); case xa => first|exact k_call K1 rfl ⟨asA_r (evO_spec rfl), trivial⟩|exact k_call K2 rfl ⟨asA_r (evO_spec rfl), trivial⟩|exact k_call K3 rfl ⟨asA_r (evO_spec rfl), asA_r (evO_spec rfl), trivial⟩)|((first|refine aw_ways rfl ?_ ?_|refine r_split rfl rfl rfl ?_ ?_) <;> intro hg_ <;> fail_if_success (exact Bool.noConfusion hg_)) <;> (try simp only [prn] at hg_) <;> (try first|contradiction|(exfalso; omega)))
  all_goals first
    | exact ret_tmp rfl (dres_bool (by first | (simp_all; done) | (simp_all; intros; omega) | (simp_all; omega)))
    | trace_state
set_option maxRecDepth 100000 in
set_option maxHeartbeats 8000000 in
theorem f_specStateValid (many r : Int) (nv ng nm : Bool) (vs : List Int) (gs : List Bool) (ms : List E3) (hv : vs.length ≤ maxLen) (hg : gs.length ≤ maxLen) (hl : ms.length ≤ maxLen) : Fn Try.prog 30 [stateP r nv vs ng gs nm ms, iP many] (.v (.one (bool (stOk many r vs gs.length ms)))) := by
  have hlenV := ints_len vs
  have hlenG := bools_len gs
  have hlenM := edges_len ms
  have hmv : vs.length ≤ 9223372036854775807 := hv
  have hml : ms.length ≤ 9223372036854775807 := hl
  have KB := fun a b => f_l9Before a b
  have KM := fun m => f_l11Message m many
  have KI := fun a b c => f_l1In a b c
  rw [stOk_spec]
  obtain ⟨u, hu⟩ : ∃ u, u = IntKind.i64.wrap (many - 1) := ⟨_, rfl⟩
  rw [← hu] at KM ⊢
  clear hu
  obtain ⟨B1, hB1⟩ : ∃ b, b = vs.all valIn := ⟨_, rfl⟩
  obtain ⟨B2, hB2⟩ : ∃ b, b = msOk u none ms := ⟨_, rfl⟩
  rw [← hB1, ← hB2]
  refine fn_of (l := [.tmp 4]) Try.func30 (by kernel_rfl) rfl Try.ntmps30 rfl rfl ?_; simp only [argEnv, P0.d, Nat.reduceAdd, stateP, List.map_cons, List.map_nil]
  repeat' (first|(with_reducible first|refine aw_seq ?_|refine thn_normal ?_|refine thn_ret ?_|refine thn_exit ?_|refine blk_normal ?_|refine blk_ret ?_|refine blk_hit ?_|refine blk_miss rfl ?_|refine aw_block ?_|refine aw_ret ?_|refine aw_skip ?_|refine aw_exit ?_|refine w_nil ?_|refine x_nil (by kernel_rfl) ?_)|refine aw_region ?_|refine aw_region_draw (by kernel_rfl) ?_|refine aw_yes rfl ?_|refine aw_no rfl ?_|((with_reducible refine w_seq ?_); first|refine r_q tbOk rfl rfl rfl rfl ?_|refine r_e tbOk rfl rfl rfl rfl rfl ?_|refine r_yes tbOk rfl rfl rfl rfl rfl rfl ?_|refine w_no rfl rfl (lookO_spec rfl) rfl rfl rfl ?_|refine w_un rfl rfl (lookO_spec rfl) rfl rfl ?_)|((with_reducible refine w_drw ?_); first|refine rx_q tbOk rfl rfl rfl rfl ?_|refine rx_e tbOk rfl rfl rfl rfl rfl ?_|refine rx_yes tbOk rfl rfl rfl rfl rfl rfl ?_|refine x_no rfl rfl (lookO_spec rfl) rfl rfl rfl ?_|refine x_un rfl rfl (lookO_spec rfl) rfl rfl ?_)|((first|refine aw_ways rfl ?_ ?_|refine r_split rfl rfl rfl ?_ ?_) <;> intro hg_ <;> fail_if_success (exact Bool.noConfusion hg_)) <;> (try simp only [prn] at hg_) <;> (try first|contradiction|(exfalso; omega)))
  refine aw_loopI (fun k : Nat => k ≤ vs.length ∧ B1 = (vs.drop k).all valIn) (fun k => mkS 81 [(5, .one (.r true (int (k : Int)))), (2, .one (.ptr 2 0 0 0)), (1, .one (.r false (int many)))] [(2, .var 28 [.r false (int r), .r false (row nv 1 (ints vs)), .r false (row ng 1 (bools gs)), .r false (row nm 3 (edges ms))])]) (fun k => vs.length - k) 0 ⟨Nat.zero_le _, hB1⟩ (by (refine weak_ren [] rfl ?_ ?_ <;> repeat' (first|exact trivial|refine subR_cons rfl ?_ ?_|refine subHR_cons rfl ?_ ?_|rfl|(refine d_int ?_; (first|rfl|omega|(rw [IntWalk.i64_in _ (by omega)] <;> omega)|(simp; done)|(simp; omega)))|(refine d_bool ?_; (first|(simp_all; done)|(rw [Bool.eq_iff_iff]; simp_all; done)|(rw [Bool.eq_iff_iff]; simp_all; omega)|(rw [Bool.eq_iff_iff]; simp; omega)))))) ?_
  rintro k ⟨hk, HP⟩
  repeat' (first|(with_reducible first|refine aw_seq ?_|refine thn_normal ?_|refine thn_ret ?_|refine thn_exit ?_|refine blk_normal ?_|refine blk_ret ?_|refine blk_hit ?_|refine blk_miss rfl ?_|refine aw_block ?_|refine aw_ret ?_|refine aw_skip ?_|refine aw_exit ?_|refine w_nil ?_|refine x_nil (by kernel_rfl) ?_)|refine aw_region ?_|refine aw_region_draw (by kernel_rfl) ?_|refine aw_yes rfl ?_|refine aw_no rfl ?_|((with_reducible refine w_seq ?_); first|refine r_q tbOk rfl rfl rfl rfl ?_|refine r_e tbOk rfl rfl rfl rfl rfl ?_|refine r_yes tbOk rfl rfl rfl rfl rfl rfl ?_|refine w_no rfl rfl (lookO_spec rfl) rfl rfl rfl ?_|refine w_un rfl rfl (lookO_spec rfl) rfl rfl ?_)|((with_reducible refine w_drw ?_); first|refine rx_q tbOk rfl rfl rfl rfl ?_|refine rx_e tbOk rfl rfl rfl rfl rfl ?_|refine rx_yes tbOk rfl rfl rfl rfl rfl rfl ?_|refine x_no rfl rfl (lookO_spec rfl) rfl rfl rfl ?_|refine x_un rfl rfl (lookO_spec rfl) rfl rfl ?_)|((first|refine' w_q rfl rfl ?xa rfl ?_|refine' v_q rfl rfl ?xa rfl ?_|refine' w_yes rfl rfl (lookO_spec rfl) rfl ?xa rfl ?_|refine' v_yes rfl rfl (lookO_spec rfl) rfl ?xa rfl ?_); case xa => first|exact k_index tbOk rfl rfl rfl rfl (by omega) (ints_at (by omega))|exact k_call (KI _ _ _) rfl ⟨asA_r (evO_spec rfl), asA_r (evO_spec rfl), asA_r (evO_spec rfl), trivial⟩)|((first|refine aw_ways rfl ?_ ?_|refine r_split rfl rfl rfl ?_ ?_) <;> intro hg_ <;> fail_if_success (exact Bool.noConfusion hg_)) <;> (try simp only [prn] at hg_) <;> (try first|contradiction|(exfalso; omega)))
  · exact ret_tmp rfl (dres_bool (by rw [HP, all_step (by omega)]; unfold valIn; simp_all))
  · exact ⟨k + 1, ⟨by omega, by rw [HP, all_step (by omega)]; unfold valIn; simp_all⟩, by (refine weak_ren [] rfl ?_ ?_ <;> repeat' (first|exact trivial|refine subR_cons rfl ?_ ?_|refine subHR_cons rfl ?_ ?_|rfl|(refine d_int ?_; (first|rfl|omega|(rw [IntWalk.i64_in _ (by omega)] <;> omega)|(simp; done)|(simp; omega)))|(refine d_bool ?_; (first|(simp_all; done)|(rw [Bool.eq_iff_iff]; simp_all; done)|(rw [Bool.eq_iff_iff]; simp_all; omega)|(rw [Bool.eq_iff_iff]; simp; omega))))), by omega⟩
  have hT : B1 = true := by rw [HP, List.drop_eq_nil_of_le (by omega)]; rfl
  rw [hT]
  clear HP hB1 hT
  refine aw_loopI (fun k : Nat => k ≤ ms.length ∧ B2 = msOk u (prevE ms k) (ms.drop k)) (fun k => mkS 81 [(6, .one (.r true (int (k : Int)))), (2, .one (.ptr 2 0 0 0)), (1, .one (.r false (int many)))] [(2, .var 28 [.r false (int r), .r false (row nv 1 (ints vs)), .r false (row ng 1 (bools gs)), .r false (row nm 3 (edges ms))])]) (fun k => ms.length - k) 0 ⟨Nat.zero_le _, hB2⟩ (by (refine weak_ren [] rfl ?_ ?_ <;> repeat' (first|exact trivial|refine subR_cons rfl ?_ ?_|refine subHR_cons rfl ?_ ?_|rfl|(refine d_int ?_; (first|rfl|omega|(rw [IntWalk.i64_in _ (by omega)] <;> omega)|(simp; done)|(simp; omega)))|(refine d_bool ?_; (first|(simp_all; done)|(rw [Bool.eq_iff_iff]; simp_all; done)|(rw [Bool.eq_iff_iff]; simp_all; omega)|(rw [Bool.eq_iff_iff]; simp; omega)))))) ?_
  clear hB2
  rintro j ⟨hj, HP⟩
  have hixp : ∀ h : 0 < j, j ≤ ms.length → (edges ms)[(IntKind.i64.wrap ((j : Int) - 1)).toNat]? = some (edgeP (ms[j-1]'(by omega))) := fun h h' => by
    rw [IntWalk.i64_in _ (by omega), show ((j : Int) - 1).toNat = j - 1 by omega]; exact edges_get (by omega)
  have hw1 : 0 < j → 0 ≤ IntKind.i64.wrap ((j : Int) - 1) := fun h => by rw [IntWalk.i64_in _ (by omega)]; omega
  repeat' (first|(with_reducible first|refine aw_seq ?_|refine thn_normal ?_|refine thn_ret ?_|refine thn_exit ?_|refine blk_normal ?_|refine blk_ret ?_|refine blk_hit ?_|refine blk_miss rfl ?_|refine aw_block ?_|refine aw_ret ?_|refine aw_skip ?_|refine aw_exit ?_|refine w_nil ?_|refine x_nil (by kernel_rfl) ?_)|refine aw_region ?_|refine aw_region_draw (by kernel_rfl) ?_|refine aw_yes rfl ?_|refine aw_no rfl ?_|((with_reducible refine w_seq ?_); first|refine r_q tbOk rfl rfl rfl rfl ?_|refine r_e tbOk rfl rfl rfl rfl rfl ?_|refine r_yes tbOk rfl rfl rfl rfl rfl rfl ?_|refine w_no rfl rfl (lookO_spec rfl) rfl rfl rfl ?_|refine w_un rfl rfl (lookO_spec rfl) rfl rfl ?_)|((with_reducible refine w_drw ?_); first|refine rx_q tbOk rfl rfl rfl rfl ?_|refine rx_e tbOk rfl rfl rfl rfl rfl ?_|refine rx_yes tbOk rfl rfl rfl rfl rfl rfl ?_|refine x_no rfl rfl (lookO_spec rfl) rfl rfl rfl ?_|refine x_un rfl rfl (lookO_spec rfl) rfl rfl ?_)|((first|refine' w_q rfl rfl ?xa rfl ?_|refine' v_q rfl rfl ?xa rfl ?_|refine' w_yes rfl rfl (lookO_spec rfl) rfl ?xa rfl ?_|refine' v_yes rfl rfl (lookO_spec rfl) rfl ?xa rfl ?_); case xa => first|exact k_index tbOk rfl rfl rfl rfl (by first|omega|exact hw1 (by omega)) (by first|exact edges_at (by omega)|exact hixp (by omega) (by omega))|exact k_call (KI _ _ _) rfl ⟨asA_r (evO_spec rfl), asA_r (evO_spec rfl), asA_r (evO_spec rfl), trivial⟩|exact k_call (KM (_, _, _)) rfl ⟨asA_agg (evO_spec rfl) ⟨cAr_r, cAr_r, cAr_r, trivial⟩, asA_r (evO_spec rfl), trivial⟩|exact k_call (KB (_, _, _) (_, _, _)) rfl ⟨asA_agg (evO_spec rfl) ⟨cAr_r, cAr_r, cAr_r, trivial⟩, asA_agg (evO_spec rfl) ⟨cAr_r, cAr_r, cAr_r, trivial⟩, trivial⟩)|((first|refine aw_ways rfl ?_ ?_|refine r_split rfl rfl rfl ?_ ?_) <;> intro hg_ <;> fail_if_success (exact Bool.noConfusion hg_)) <;> (try simp only [prn] at hg_) <;> (try first|contradiction|(exfalso; omega)))
  · exact ret_tmp rfl (dres_bool (by rw [HP, msOk_step (by omega)]; simp_all))
  · exact ret_tmp rfl (dres_bool (by rw [HP, msOk_step (by omega), prevE_pos (by omega) hj]; simp_all [befP]))
  · exact ⟨j + 1, ⟨by omega, by rw [HP, msOk_step (by omega), prevE_pos (by omega) hj]; simp_all [befP]⟩, by (refine weak_ren [] rfl ?_ ?_ <;> repeat' (first|exact trivial|refine subR_cons rfl ?_ ?_|refine subHR_cons rfl ?_ ?_|rfl|(refine d_int ?_; (first|rfl|omega|(rw [IntWalk.i64_in _ (by omega)] <;> omega)|(simp; done)|(simp; omega)))|(refine d_bool ?_; (first|(simp_all; done)|(rw [Bool.eq_iff_iff]; simp_all; done)|(rw [Bool.eq_iff_iff]; simp_all; omega)|(rw [Bool.eq_iff_iff]; simp; omega))))), by omega⟩
  · obtain rfl : j = 0 := by omega
    exact ⟨1, ⟨by omega, by rw [HP, msOk_step (by omega)]; simp_all [befP, prevE]⟩, by (refine weak_ren [] rfl ?_ ?_ <;> repeat' (first|exact trivial|refine subR_cons rfl ?_ ?_|refine subHR_cons rfl ?_ ?_|rfl|(refine d_int ?_; (first|rfl|omega|(rw [IntWalk.i64_in _ (by omega)] <;> omega)|(simp; done)|(simp; omega)))|(refine d_bool ?_; (first|(simp_all; done)|(rw [Bool.eq_iff_iff]; simp_all; done)|(rw [Bool.eq_iff_iff]; simp_all; omega)|(rw [Bool.eq_iff_iff]; simp; omega))))), by omega⟩
  all_goals
    have hT : B2 = true := by rw [HP, List.drop_eq_nil_of_le (by omega)]; simp [msOk]
    rw [hT]
    clear HP hixp hw1
    first
      | exact ret_tmp rfl (dres_bool (by first | (simp_all; done) | (simp_all; omega)))
      | trace_state
end Go.Proofs.Ytmkecjamfippfaa.Abs
set_option linter.unusedSimpArgs false
set_option linter.unusedVariables false
namespace Go.Proofs.Ytmkecjamfippfaa.Abs
open Go.RowKit
open R (val row ref)

theorem bools_plain (gs : List Bool) : ∀ e ∈ bools gs, plain1 e = true := fun e he => by
  unfold bools at he; rw [List.mem_map] at he; obtain ⟨b, _, rfl⟩ := he; rfl
set_option maxRecDepth 100000 in
set_option maxHeartbeats 4000000 in
theorem f_ownState (r : Int) (nv ng nm : Bool) (vs : List Int) (gs : List Bool) (ms : List E3) (hv : vs.length ≤ 1048576) (hg : gs.length ≤ 1048576) (hl : ms.length ≤ 1048576) : Fn Try.prog 71 [stateP r nv vs ng gs nm ms] (.v (stateP r false vs false gs false ms)) := by
  have hlenV := ints_len vs
  have hlenG := bools_len gs
  have hlenM := edges_len ms
  refine fn_of (l := [.cell 2 28]) Try.func71 (by kernel_rfl) rfl Try.ntmps71 rfl rfl ?_; simp only [argEnv, P0.d, Nat.reduceAdd, stateP, List.map_cons, List.map_nil]
  repeat' (first|(with_reducible first|refine aw_seq ?_|refine thn_normal ?_|refine thn_ret ?_|refine thn_exit ?_|refine blk_normal ?_|refine blk_ret ?_|refine blk_hit ?_|refine blk_miss rfl ?_|refine aw_block ?_|refine aw_ret ?_|refine aw_skip ?_|refine aw_exit ?_|refine w_nil ?_|refine x_nil (by kernel_rfl) ?_)|refine aw_region ?_|refine aw_region_draw (by kernel_rfl) ?_|refine aw_yes rfl ?_|refine aw_no rfl ?_|((with_reducible refine w_seq ?_); first|refine r_q tbOk rfl rfl rfl rfl ?_|refine r_e tbOk rfl rfl rfl rfl rfl ?_|refine r_yes tbOk rfl rfl rfl rfl rfl rfl ?_|refine w_no rfl rfl (lookO_spec rfl) rfl rfl rfl ?_|refine w_un rfl rfl (lookO_spec rfl) rfl rfl ?_)|((with_reducible refine w_drw ?_); first|refine rx_q tbOk rfl rfl rfl rfl ?_|refine rx_e tbOk rfl rfl rfl rfl rfl ?_|refine rx_yes tbOk rfl rfl rfl rfl rfl rfl ?_|refine x_no rfl rfl (lookO_spec rfl) rfl rfl rfl ?_|refine x_un rfl rfl (lookO_spec rfl) rfl rfl ?_)|((first|refine' w_e rfl ?xa ?xb ?xc ?xe ?_|refine' v_e rfl ?xa ?xb ?xc ?xe ?_); (case xa => first|exact e_build [] tlOk rfl rfl rfl rfl rfl rfl (by simp [AllN]) (by simp)|exact e_append tlOk rfl rfl rfl rfl rfl rfl (slD_plain slD_row (by first|exact ints_plain _|exact bools_plain _|exact edges_plain _)) rfl (by simp only [maxLen, List.length_nil]; omega) (by simp only [List.length_nil]; omega)); (case xb => rfl); (case xc => rfl); (case xe => rfl); try dsimp only [P0.d, Res.d, List.map_cons, List.map_nil, List.set_cons_zero, List.set_cons_succ, Nat.reduceAdd])|((first|refine aw_ways rfl ?_ ?_|refine r_split rfl rfl rfl ?_ ?_) <;> intro hg_ <;> fail_if_success (exact Bool.noConfusion hg_)) <;> (try simp only [prn] at hg_) <;> (try first|contradiction|(exfalso; omega)))
  all_goals first
    | exact ret_v (rv_cell rfl rfl (by (with_reducible first | exact ty3 | exact ty4 | exact ty5 | exact ty9 | exact ty17 | exact ty19 | exact ty22 | exact ty24 | exact ty25 | exact ty26 | exact ty28 | exact ty36 | exact ty38 | exact ty40 | exact ty44 | exact ty46 | exact ty48 | exact ty55 | exact ty81 | exact ty84 | exact ty89 | exact ty95 | exact ty98 | exact ty105 | exact ty118 | exact ty122 | exact ty132 | exact ty134 | exact ty137 | exact ty143 | exact ty153 | exact ty155 | exact ty156 | exact ty161)) rfl rfl rfl (dres_agg (by refine ⟨cres_val, ?_, ?_, ?_, trivial⟩ <;> exact cres_own0 (lookHO_spec rfl) (by simp only [List.length_nil, Nat.zero_add, List.nil_append]))))
    | trace_state
set_option maxRecDepth 100000 in
set_option maxHeartbeats 4000000 in
theorem f_l18Start (s : Sta) (nv ng nm : Bool) : FnO Try.prog 72 [stateP s.r nv s.vs ng s.gs nm s.ms] 3 1 (ints (rcH s)) := by
  obtain ⟨r, vs, gs, ms⟩ := s
  dsimp only
  have hlenV := ints_len vs
  have hlenM := edges_len ms
  have KA := f_specEncodeNumber r
  have KB := f_specEncodeNumber vs.length
  have KC := f_specEncodeNumber ms.length
  have ha := enc_len r
  have hb := enc_len vs.length
  have hc := enc_len ms.length
  have e : ints (rcH ⟨r, vs, gs, ms⟩) = ints [1] ++ ints (enc r) ++ ints (enc vs.length) ++ ints (enc ms.length) := by
    unfold rcH ints; simp
  rw [e]
  clear e
  generalize enc r = ea at *
  generalize enc vs.length = eb at *
  generalize enc ms.length = ec at *
  rw [← hlenV] at KB
  rw [← hlenM] at KC
  have la := ints_len ea
  have lb := ints_len eb
  have lc := ints_len ec
  refine fn_ofO Try.func72 (by kernel_rfl) rfl Try.ntmps72 rfl rfl ?_; simp only [argEnv, P0.d, Nat.reduceAdd, List.map_cons, List.map_nil, stateP]
  repeat' (first|(with_reducible first|refine aw_seq ?_|refine thn_normal ?_|refine thn_ret ?_|refine thn_exit ?_|refine blk_normal ?_|refine blk_ret ?_|refine blk_hit ?_|refine blk_miss rfl ?_|refine aw_block ?_|refine aw_ret ?_|refine aw_skip ?_|refine aw_exit ?_|refine w_nil ?_|refine x_nil (by kernel_rfl) ?_)|refine aw_region ?_|refine aw_region_draw (by kernel_rfl) ?_|refine aw_yes rfl ?_|refine aw_no rfl ?_|((with_reducible refine w_seq ?_); first|refine r_q tbOk rfl rfl rfl rfl ?_|refine r_e tbOk rfl rfl rfl rfl rfl ?_|refine r_yes tbOk rfl rfl rfl rfl rfl rfl ?_|refine w_no rfl rfl (lookO_spec rfl) rfl rfl rfl ?_|refine w_un rfl rfl (lookO_spec rfl) rfl rfl ?_)|((with_reducible refine w_drw ?_); first|refine rx_q tbOk rfl rfl rfl rfl ?_|refine rx_e tbOk rfl rfl rfl rfl rfl ?_|refine rx_yes tbOk rfl rfl rfl rfl rfl rfl ?_|refine x_no rfl rfl (lookO_spec rfl) rfl rfl rfl ?_|refine x_un rfl rfl (lookO_spec rfl) rfl rfl ?_)|((first|refine' w_e rfl ?xa ?xb ?xc ?xe ?_|refine' v_e rfl ?xa ?xb ?xc ?xe ?_); (case xa => first|exact e_callO KA rfl rfl ⟨asA_r (evO_spec rfl), trivial⟩|exact e_callO KB rfl rfl ⟨asA_r (evO_spec rfl), trivial⟩|exact e_callO KC rfl rfl ⟨asA_r (evO_spec rfl), trivial⟩|exact e_build [.const (.int .i64 1)] tlOk rfl rfl rfl rfl rfl rfl (allN_ints [1]) (by simp)|exact e_append tlOk rfl rfl rfl rfl rfl rfl (slD_plain (slD_own (lookHO_spec rfl) rfl) (ints_plain _)) (by first|rfl|(simp only [List.length_append]; done)) (by simp only [maxLen, List.length_append, List.length_cons, List.length_nil]; omega) (by (try simp only [List.length_append, List.length_cons, List.length_nil]); omega)); (case xb => rfl); (case xc => rfl); (case xe => rfl); try dsimp only [P0.d, Res.d, List.map_cons, List.map_nil, List.set_cons_zero, List.set_cons_succ, Nat.reduceAdd])|((first|refine aw_ways rfl ?_ ?_|refine r_split rfl rfl rfl ?_ ?_) <;> intro hg_ <;> fail_if_success (exact Bool.noConfusion hg_)) <;> (try simp only [prn] at hg_) <;> (try first|contradiction|(exfalso; omega)))
  all_goals first
    | exact ret_own rfl rfl (by simp only [List.length_append]; rfl)
    | trace_state
theorem rcV_app (v : Int) (g : Bool) : ints (rcV v g) = ints [2] ++ ints (enc (v + 1)) ++ ints [b01 g] := by unfold rcV ints; simp
theorem rcM_app (m : E3) : ints (rcM m) = ints [3] ++ ints (edgeB m.1 m.2.1 m.2.2) := by unfold rcM ints; simp
def bodV (s : Sta) (k : Nat) : List (List Int) := rcH s :: List.zipWith rcV (s.vs.take k) (s.gs.take k)
def bodM (s : Sta) (k : Nat) : List (List Int) := bodV s s.vs.length ++ (s.ms.take k).map rcM
theorem bodV_succ {s : Sta} (h : s.gs.length = s.vs.length) {k : Nat} (hk : k < s.vs.length) : bodV s (k + 1) = bodV s k ++ [rcV s.vs[k] (s.gs[k]'(by omega))] := by
  unfold bodV
  rw [List.take_succ_eq_append_getElem hk, List.take_succ_eq_append_getElem (by omega : k < s.gs.length), List.zipWith_append (by simp; omega)]
  rfl
theorem bodM_succ {s : Sta} {k : Nat} (hk : k < s.ms.length) : bodM s (k + 1) = bodM s k ++ [rcM s.ms[k]] := by
  unfold bodM
  rw [List.take_succ_eq_append_getElem hk, List.map_append, List.append_assoc]
  rfl
theorem bodM_end {s : Sta} (h : s.gs.length = s.vs.length) : bodM s s.ms.length ++ [[4]] = ckB s := by
  unfold bodM bodV ckB
  rw [List.take_of_length_le (Nat.le_refl _), List.take_of_length_le (by omega), List.take_of_length_le (Nat.le_refl _)]
  simp
theorem bodV_len {s : Sta} (h : s.gs.length = s.vs.length) {k : Nat} (hk : k ≤ s.vs.length) : (bodV s k).length = k + 1 := by
  unfold bodV; simp; omega
theorem bodM_len {s : Sta} (h : s.gs.length = s.vs.length) {k : Nat} (hk : k ≤ s.ms.length) : (bodM s k).length = s.vs.length + 1 + k := by
  unfold bodM; rw [List.length_append, bodV_len h (Nat.le_refl _)]; simp; omega
set_option maxRecDepth 100000 in
set_option maxHeartbeats 8000000 in
theorem f_specStateBodies (s : Sta) (nv ng nm : Bool) (hv : s.vs.length ≤ 1048576) (hg : s.gs.length ≤ 1048576) (hl : s.ms.length ≤ 1048576) : Fn Try.prog 29 [stateP s.r nv s.vs ng s.gs nm s.ms] (.v (.one (row false 1 (rowsI (if s.ok then ckB s else []))))) := by
  have K1 := f_ownState s.r nv ng nm s.vs s.gs s.ms hv hg hl
  have K2 := f_specStateValid s.vs.length s.r false false false s.vs s.gs s.ms (by simp only [maxLen]; omega) (by simp only [maxLen]; omega) (by simp only [maxLen]; omega)
  rw [show stOk s.vs.length s.r s.vs s.gs.length s.ms = s.ok from rfl] at K2
  have hlenV := ints_len s.vs
  rw [← hlenV] at K2
  obtain ⟨B, hB⟩ : ∃ B, B = (if s.ok then ckB s else []) := ⟨_, rfl⟩
  rw [← hB]
  cases hok : s.ok
  · rw [hok, if_neg (by decide)] at hB
    subst hB
    rw [hok] at K2
    refine fn_of (l := [.tmp 2]) Try.func29 (by kernel_rfl) rfl Try.ntmps29 rfl rfl ?_; simp only [argEnv, P0.d, Nat.reduceAdd, stateP, List.map_cons, List.map_nil]
    repeat' (first|(with_reducible first|refine aw_seq ?_|refine thn_normal ?_|refine thn_ret ?_|refine thn_exit ?_|refine blk_normal ?_|refine blk_ret ?_|refine blk_hit ?_|refine blk_miss rfl ?_|refine aw_block ?_|refine aw_ret ?_|refine aw_skip ?_|refine aw_exit ?_|refine w_nil ?_|refine x_nil (by kernel_rfl) ?_)|refine aw_region ?_|refine aw_region_draw (by kernel_rfl) ?_|refine aw_yes rfl ?_|refine aw_no rfl ?_|((with_reducible refine w_seq ?_); first|refine r_q tbOk rfl rfl rfl rfl ?_|refine r_e tbOk rfl rfl rfl rfl rfl ?_|refine r_yes tbOk rfl rfl rfl rfl rfl rfl ?_|refine w_no rfl rfl (lookO_spec rfl) rfl rfl rfl ?_|refine w_un rfl rfl (lookO_spec rfl) rfl rfl ?_)|((with_reducible refine w_drw ?_); first|refine rx_q tbOk rfl rfl rfl rfl ?_|refine rx_e tbOk rfl rfl rfl rfl rfl ?_|refine rx_yes tbOk rfl rfl rfl rfl rfl rfl ?_|refine x_no rfl rfl (lookO_spec rfl) rfl rfl rfl ?_|refine x_un rfl rfl (lookO_spec rfl) rfl rfl ?_)|((first|refine' w_q rfl rfl ?xa rfl ?_|refine' v_q rfl rfl ?xa rfl ?_|refine' w_yes rfl rfl (lookO_spec rfl) rfl ?xa rfl ?_|refine' v_yes rfl rfl (lookO_spec rfl) rfl ?xa rfl ?_); case xa => first|exact k_call K1 rfl ⟨asA_agg (evO_spec rfl) ⟨cAr_r, cAr_r, cAr_r, cAr_r, trivial⟩, trivial⟩|exact k_call K2 rfl ⟨asA_agg (evO_spec rfl) ⟨cAr_r, cAr_r, cAr_r, cAr_r, trivial⟩, asA_r (evO_spec rfl), trivial⟩)|((first|refine' w_e rfl ?xa ?xb ?xc ?xe ?_|refine' v_e rfl ?xa ?xb ?xc ?xe ?_); (case xa => exact e_build [] tlOk rfl rfl rfl rfl rfl rfl (by simp [AllN]) (by simp)); (case xb => rfl); (case xc => rfl); (case xe => rfl); try dsimp only [P0.d, Res.d, List.map_cons, List.map_nil, List.set_cons_zero, List.set_cons_succ, Nat.reduceAdd])|((first|refine aw_ways rfl ?_ ?_|refine r_split rfl rfl rfl ?_ ?_) <;> intro hg_ <;> fail_if_success (exact Bool.noConfusion hg_)) <;> (try simp only [prn] at hg_) <;> (try first|contradiction|(exfalso; omega)))
    all_goals first
      | exact ret_tmp rfl (dres_one (cres_own0 (lookHO_spec rfl) rfl))
      | trace_state
  · have hF := Sta.okF hok
    rw [hok, if_pos rfl] at hB
    rw [hok] at K2
    have KH := f_l18Start s false false false
    refine fn_of (l := [.tmp 2]) Try.func29 (by kernel_rfl) rfl Try.ntmps29 rfl rfl ?_; simp only [argEnv, P0.d, Nat.reduceAdd, stateP, List.map_cons, List.map_nil]
    repeat' (first|(with_reducible first|refine aw_seq ?_|refine thn_normal ?_|refine thn_ret ?_|refine thn_exit ?_|refine blk_normal ?_|refine blk_ret ?_|refine blk_hit ?_|refine blk_miss rfl ?_|refine aw_block ?_|refine aw_ret ?_|refine aw_skip ?_|refine aw_exit ?_|refine w_nil ?_|refine x_nil (by kernel_rfl) ?_)|refine aw_region ?_|refine aw_region_draw (by kernel_rfl) ?_|refine aw_yes rfl ?_|refine aw_no rfl ?_|((with_reducible refine w_seq ?_); first|refine r_q tbOk rfl rfl rfl rfl ?_|refine r_e tbOk rfl rfl rfl rfl rfl ?_|refine r_yes tbOk rfl rfl rfl rfl rfl rfl ?_|refine w_no rfl rfl (lookO_spec rfl) rfl rfl rfl ?_|refine w_un rfl rfl (lookO_spec rfl) rfl rfl ?_)|((with_reducible refine w_drw ?_); first|refine rx_q tbOk rfl rfl rfl rfl ?_|refine rx_e tbOk rfl rfl rfl rfl rfl ?_|refine rx_yes tbOk rfl rfl rfl rfl rfl rfl ?_|refine x_no rfl rfl (lookO_spec rfl) rfl rfl rfl ?_|refine x_un rfl rfl (lookO_spec rfl) rfl rfl ?_)|((first|refine' w_q rfl rfl ?xa rfl ?_|refine' v_q rfl rfl ?xa rfl ?_|refine' w_yes rfl rfl (lookO_spec rfl) rfl ?xa rfl ?_|refine' v_yes rfl rfl (lookO_spec rfl) rfl ?xa rfl ?_); case xa => first|exact k_call K1 rfl ⟨asA_agg (evO_spec rfl) ⟨cAr_r, cAr_r, cAr_r, cAr_r, trivial⟩, trivial⟩|exact k_call K2 rfl ⟨asA_agg (evO_spec rfl) ⟨cAr_r, cAr_r, cAr_r, cAr_r, trivial⟩, asA_r (evO_spec rfl), trivial⟩)|((first|refine' w_e rfl ?xa ?xb ?xc ?xe ?_|refine' v_e rfl ?xa ?xb ?xc ?xe ?_); (case xa => first|exact e_callO KH rfl rfl ⟨asA_agg (evO_spec rfl) ⟨cAr_r, cAr_r, cAr_r, cAr_r, trivial⟩, trivial⟩|exact e_build [] tlOk rfl rfl rfl rfl rfl rfl (by simp [AllN]) (by simp)|exact e_buildF 20 tlOk rfl rfl rfl rfl rfl rfl rfl rfl|exact e_append tlOk rfl rfl rfl rfl rfl rfl (slD_own (lookHO_spec rfl) rfl) rfl (by simp [maxLen]) (by simp)); (case xb => rfl); (case xc => rfl); (case xe => rfl); try dsimp only [P0.d, Res.d, List.map_cons, List.map_nil, List.set_cons_zero, List.set_cons_succ, Nat.reduceAdd])|((first|refine aw_ways rfl ?_ ?_|refine r_split rfl rfl rfl ?_ ?_) <;> intro hg_ <;> fail_if_success (exact Bool.noConfusion hg_)) <;> (try simp only [prn] at hg_) <;> (try first|contradiction|(exfalso; omega)))
    clear K1 K2 KH
    have hgl := hF.gl
    have hml := hF.many
    have hmm := hF.ml
    have hlenG := bools_len s.gs
    have hlenM := edges_len s.ms
    obtain ⟨F, hFs⟩ : ∃ F : Nat → St, ∀ k, F k = mkS 79 [(4, .one (.r true (int (k : Int)))), (3, .one (.own 100 0 (k + 1) 1)), (1, .one (.ptr 1 0 0 0))] [(100, .sl 24 1 true (rowsI (bodV s k))), (1, .var 28 [.r true (int s.r), .r true (row false 1 (ints s.vs)), .r true (row false 1 (bools s.gs)), .r true (row false 3 (edges s.ms))])] := ⟨_, fun _ => rfl⟩
    refine aw_loopI (fun k : Nat => k ≤ s.vs.length) F (fun k => s.vs.length - k) 0 (Nat.zero_le _) (by rw [hFs]; (refine weak_ren [(100, 22)] rfl ?_ ?_ <;> repeat' (first|exact trivial|refine subR_cons rfl ?_ ?_|refine subHR_cons rfl ?_ ?_|rfl|(refine d_int ?_; (first|rfl|omega|(rw [IntWalk.i64_in _ (by omega)] <;> omega)|(simp; done)|(simp; omega)))|(refine d_bool ?_; (first|(simp_all; done)|(rw [Bool.eq_iff_iff]; simp_all; done)|(rw [Bool.eq_iff_iff]; simp_all; omega)|(rw [Bool.eq_iff_iff]; simp; omega)))))) ?_
    intro k hk
    have hfin : ∀ s' : St, Weak s' (F (k + 1)) → k < s.vs.length → ∃ x' : Nat, x' ≤ s.vs.length ∧ Weak s' (F x') ∧ s.vs.length - x' < s.vs.length - k := fun s' h hk => ⟨k + 1, by omega, h, by omega⟩
    rw [hFs] at hfin ⊢
    clear hFs
    have hbl := bodV_len hF.gl hk
    have hrl : k + 1 = (rowsI (bodV s k)).length := by rw [rowsI_len, hbl]
    by_cases hlt : k < s.vs.length
    · have hlg : k < s.gs.length := by omega
      have hsucc := bodV_succ hF.gl hlt
      have hvk := hF.vin s.vs[k] (List.getElem_mem hlt)
      have KE := f_specEncodeNumber (s.vs[k] + 1)
      have hw : IntKind.i64.wrap (s.vs[k] + 1) = s.vs[k] + 1 := IntWalk.i64_in _ (by omega)
      rw [← hw] at KE
      have hel := enc_len (s.vs[k] + 1)
      have hxv := ints_at hlt
      have hxg := bools_at hlg
      have hobj : rowsI (bodV s (k + 1)) = rowsI (bodV s k) ++ [.one (row false 1 (ints [2] ++ ints (enc (s.vs[k] + 1)) ++ ints [b01 s.gs[k]]))] := by
        rw [hsucc, rowsI_app, ← rcV_app]
      rw [hobj] at hfin
      rw [hw] at KE
      generalize enc (s.vs[k] + 1) = en at *
      rw [← hw] at KE
      clear hobj hsucc hvk hw
      have hlen := ints_len en
      generalize rowsI (bodV s k) = RR at *
      generalize s.gs[k] = g at *
      generalize s.vs[k] = v at *
      cases g
      all_goals
        repeat' (first|(with_reducible first|refine aw_seq ?_|refine thn_normal ?_|refine thn_ret ?_|refine thn_exit ?_|refine blk_normal ?_|refine blk_ret ?_|refine blk_hit ?_|refine blk_miss rfl ?_|refine aw_block ?_|refine aw_ret ?_|refine aw_skip ?_|refine aw_exit ?_|refine w_nil ?_|refine x_nil (by kernel_rfl) ?_)|refine aw_region ?_|refine aw_region_draw (by kernel_rfl) ?_|refine aw_yes rfl ?_|refine aw_no rfl ?_|((with_reducible refine w_seq ?_); first|refine r_q tbOk rfl rfl rfl rfl ?_|refine r_e tbOk rfl rfl rfl rfl rfl ?_|refine r_yes tbOk rfl rfl rfl rfl rfl rfl ?_|refine w_no rfl rfl (lookO_spec rfl) rfl rfl rfl ?_|refine w_un rfl rfl (lookO_spec rfl) rfl rfl ?_)|((with_reducible refine w_drw ?_); first|refine rx_q tbOk rfl rfl rfl rfl ?_|refine rx_e tbOk rfl rfl rfl rfl rfl ?_|refine rx_yes tbOk rfl rfl rfl rfl rfl rfl ?_|refine x_no rfl rfl (lookO_spec rfl) rfl rfl rfl ?_|refine x_un rfl rfl (lookO_spec rfl) rfl rfl ?_)|((first|refine' w_q rfl rfl ?xa rfl ?_|refine' v_q rfl rfl ?xa rfl ?_|refine' w_yes rfl rfl (lookO_spec rfl) rfl ?xa rfl ?_|refine' v_yes rfl rfl (lookO_spec rfl) rfl ?xa rfl ?_); case xa => exact k_index tbOk rfl rfl rfl rfl (by omega) (by first|exact hxv|exact hxg))|((first|refine' w_e rfl ?xa ?xb ?xc ?xe ?_|refine' v_e rfl ?xa ?xb ?xc ?xe ?_); (case xa => first|exact e_callO KE rfl rfl ⟨asA_r (evO_spec rfl), trivial⟩|exact at_dst 36 rfl (e_build [.const (.int .i64 2)] tlOk rfl rfl rfl rfl rfl rfl (allN_ints [2]) (by simp))|exact e_build [.tmp 45] tlOk rfl rfl rfl rfl rfl rfl (allN_one rfl) (by simp)|exact e_buildF 47 tlOk rfl rfl rfl rfl rfl rfl rfl (by simp only [List.length_append])|exact at_dst 44 rfl (e_append tlOk rfl rfl rfl rfl rfl rfl (slD_plain (slD_own (lookHO_spec rfl) rfl) (ints_plain _)) rfl (by simp only [maxLen, List.length_cons, List.length_nil]; omega) (by simp only [List.length_cons, List.length_nil]; omega))|exact at_dst 47 rfl (e_append tlOk rfl rfl rfl rfl rfl rfl (slD_plain (slD_own (lookHO_spec rfl) rfl) (by simp [plain1, iP])) (by simp only [List.length_append]) (by simp only [maxLen, List.length_append, List.length_cons, List.length_nil]; omega) (by simp only [List.length_append, List.length_cons, List.length_nil]; omega))|exact at_dst 49 rfl (e_append tlOk rfl rfl rfl rfl rfl rfl (slD_own (lookHO_spec rfl) rfl) hrl (by simp only [maxLen, List.length_append, List.length_cons, List.length_nil]; omega) (by simp only [List.length_append, List.length_cons, List.length_nil]; omega))); (case xb => rfl); (case xc => rfl); (case xe => rfl); try dsimp only [P0.d, Res.d, List.map_cons, List.map_nil, List.set_cons_zero, List.set_cons_succ, Nat.reduceAdd])|((first|refine aw_ways rfl ?_ ?_|refine r_split rfl rfl rfl ?_ ?_) <;> intro hg_ <;> fail_if_success (exact Bool.noConfusion hg_)) <;> (try simp only [prn] at hg_) <;> (try first|contradiction|(exfalso; omega)))
        all_goals first
          | (refine hfin _ ?_ hlt
             (refine weak_ren [(100, 49)] rfl ?_ ?_ <;> repeat' (first|exact trivial|refine subR_cons rfl ?_ ?_|refine subHR_cons rfl ?_ ?_|rfl|(refine d_int ?_; (first|rfl|omega|(rw [IntWalk.i64_in _ (by omega)] <;> omega)|(simp; done)|(simp; omega)))|(refine d_bool ?_; (first|(simp_all; done)|(rw [Bool.eq_iff_iff]; simp_all; done)|(rw [Bool.eq_iff_iff]; simp_all; omega)|(rw [Bool.eq_iff_iff]; simp; omega)))|exact ob_sl rfl rfl|exact d_own (by simp only [List.length_cons, List.length_nil]; omega))))
          | trace_state
    · obtain rfl : k = s.vs.length := by omega
      clear hfin
      repeat' (first|(with_reducible first|refine aw_seq ?_|refine thn_normal ?_|refine thn_ret ?_|refine thn_exit ?_|refine blk_normal ?_|refine blk_ret ?_|refine blk_hit ?_|refine blk_miss rfl ?_|refine aw_block ?_|refine aw_ret ?_|refine aw_skip ?_|refine aw_exit ?_|refine w_nil ?_|refine x_nil (by kernel_rfl) ?_)|refine aw_region ?_|refine aw_region_draw (by kernel_rfl) ?_|refine aw_yes rfl ?_|refine aw_no rfl ?_|((with_reducible refine w_seq ?_); first|refine r_q tbOk rfl rfl rfl rfl ?_|refine r_e tbOk rfl rfl rfl rfl rfl ?_|refine r_yes tbOk rfl rfl rfl rfl rfl rfl ?_|refine w_no rfl rfl (lookO_spec rfl) rfl rfl rfl ?_|refine w_un rfl rfl (lookO_spec rfl) rfl rfl ?_)|((with_reducible refine w_drw ?_); first|refine rx_q tbOk rfl rfl rfl rfl ?_|refine rx_e tbOk rfl rfl rfl rfl rfl ?_|refine rx_yes tbOk rfl rfl rfl rfl rfl rfl ?_|refine x_no rfl rfl (lookO_spec rfl) rfl rfl rfl ?_|refine x_un rfl rfl (lookO_spec rfl) rfl rfl ?_)|((first|refine aw_ways rfl ?_ ?_|refine r_split rfl rfl rfl ?_ ?_) <;> intro hg_ <;> fail_if_success (exact Bool.noConfusion hg_)) <;> (try simp only [prn] at hg_) <;> (try first|contradiction|(exfalso; omega)))
      obtain ⟨G, hGs⟩ : ∃ G : Nat → St, ∀ k, G k = mkS 79 [(6, .one (.r true (int (k : Int)))), (3, .one (.own 100 0 (s.vs.length + 1 + k) 1)), (1, .one (.ptr 1 0 0 0))] [(100, .sl 24 1 true (rowsI (bodM s k))), (1, .var 28 [.r true (int s.r), .r true (row false 1 (ints s.vs)), .r true (row false 1 (bools s.gs)), .r true (row false 3 (edges s.ms))])] := ⟨_, fun _ => rfl⟩
      refine aw_loopI (fun k : Nat => k ≤ s.ms.length) G (fun k => s.ms.length - k) 0 (Nat.zero_le _) (by rw [hGs]; (refine weak_ren [] rfl ?_ ?_ <;> repeat' (first|exact trivial|refine subR_cons rfl ?_ ?_|refine subHR_cons rfl ?_ ?_|rfl|(refine d_int ?_; (first|rfl|omega|(rw [IntWalk.i64_in _ (by omega)] <;> omega)|(simp; done)|(simp; omega)))|(refine d_bool ?_; (first|(simp_all; done)|(rw [Bool.eq_iff_iff]; simp_all; done)|(rw [Bool.eq_iff_iff]; simp_all; omega)|(rw [Bool.eq_iff_iff]; simp; omega)))|exact ob_sl rfl (by simp [bodM])))) ?_
      intro k hk
      have hfin : ∀ s' : St, Weak s' (G (k + 1)) → k < s.ms.length → ∃ x' : Nat, x' ≤ s.ms.length ∧ Weak s' (G x') ∧ s.ms.length - x' < s.ms.length - k := fun s' h hk => ⟨k + 1, by omega, h, by omega⟩
      rw [hGs] at hfin ⊢
      clear hGs hrl hbl
      have hbl := bodM_len hF.gl hk
      have hrl : s.vs.length + 1 + k = (rowsI (bodM s k)).length := by rw [rowsI_len, hbl]
      by_cases hlt : k < s.ms.length
      · have hsucc := bodM_succ hlt
        have KE := f_specEdgeBody s.ms[k]
        have hel := edgeB_len s.ms[k].1 s.ms[k].2.1 s.ms[k].2.2
        have hxm := edges_at hlt
        have hobj : rowsI (bodM s (k + 1)) = rowsI (bodM s k) ++ [.one (row false 1 (ints [3] ++ ints (edgeB s.ms[k].1 s.ms[k].2.1 s.ms[k].2.2)))] := by
          rw [hsucc, rowsI_app, ← rcM_app]
        rw [hobj] at hfin
        clear hobj hsucc
        generalize edgeB s.ms[k].1 s.ms[k].2.1 s.ms[k].2.2 = en at *
        have hlen := ints_len en
        generalize rowsI (bodM s k) = RR at *
        generalize s.ms[k] = m at *
        obtain ⟨m1, m2, m3⟩ := m
        repeat' (first|(with_reducible first|refine aw_seq ?_|refine thn_normal ?_|refine thn_ret ?_|refine thn_exit ?_|refine blk_normal ?_|refine blk_ret ?_|refine blk_hit ?_|refine blk_miss rfl ?_|refine aw_block ?_|refine aw_ret ?_|refine aw_skip ?_|refine aw_exit ?_|refine w_nil ?_|refine x_nil (by kernel_rfl) ?_)|refine aw_region ?_|refine aw_region_draw (by kernel_rfl) ?_|refine aw_yes rfl ?_|refine aw_no rfl ?_|((with_reducible refine w_seq ?_); first|refine r_q tbOk rfl rfl rfl rfl ?_|refine r_e tbOk rfl rfl rfl rfl rfl ?_|refine r_yes tbOk rfl rfl rfl rfl rfl rfl ?_|refine w_no rfl rfl (lookO_spec rfl) rfl rfl rfl ?_|refine w_un rfl rfl (lookO_spec rfl) rfl rfl ?_)|((with_reducible refine w_drw ?_); first|refine rx_q tbOk rfl rfl rfl rfl ?_|refine rx_e tbOk rfl rfl rfl rfl rfl ?_|refine rx_yes tbOk rfl rfl rfl rfl rfl rfl ?_|refine x_no rfl rfl (lookO_spec rfl) rfl rfl rfl ?_|refine x_un rfl rfl (lookO_spec rfl) rfl rfl ?_)|((first|refine' w_q rfl rfl ?xa rfl ?_|refine' v_q rfl rfl ?xa rfl ?_|refine' w_yes rfl rfl (lookO_spec rfl) rfl ?xa rfl ?_|refine' v_yes rfl rfl (lookO_spec rfl) rfl ?xa rfl ?_); case xa => exact k_index tbOk rfl rfl rfl rfl (by omega) hxm)|((first|refine' w_e rfl ?xa ?xb ?xc ?xe ?_|refine' v_e rfl ?xa ?xb ?xc ?xe ?_); (case xa => first|exact e_callO KE rfl rfl ⟨asA_agg (evO_spec rfl) ⟨cAr_r, cAr_r, cAr_r, trivial⟩, trivial⟩|exact at_dst 63 rfl (e_build [.const (.int .i64 3)] tlOk rfl rfl rfl rfl rfl rfl (allN_ints [3]) (by simp))|exact e_buildF 72 tlOk rfl rfl rfl rfl rfl rfl rfl (by simp only [List.length_append])|exact at_dst 72 rfl (e_append tlOk rfl rfl rfl rfl rfl rfl (slD_plain (slD_own (lookHO_spec rfl) rfl) (ints_plain _)) rfl (by simp only [maxLen, List.length_cons, List.length_nil]; omega) (by simp only [List.length_cons, List.length_nil]; omega))|exact at_dst 74 rfl (e_append tlOk rfl rfl rfl rfl rfl rfl (slD_own (lookHO_spec rfl) rfl) hrl (by simp only [maxLen, List.length_append, List.length_cons, List.length_nil]; omega) (by simp only [List.length_append, List.length_cons, List.length_nil]; omega))); (case xb => rfl); (case xc => rfl); (case xe => rfl); try dsimp only [P0.d, Res.d, List.map_cons, List.map_nil, List.set_cons_zero, List.set_cons_succ, Nat.reduceAdd])|((first|refine aw_ways rfl ?_ ?_|refine r_split rfl rfl rfl ?_ ?_) <;> intro hg_ <;> fail_if_success (exact Bool.noConfusion hg_)) <;> (try simp only [prn] at hg_) <;> (try first|contradiction|(exfalso; omega)))
        all_goals first
          | (refine hfin _ ?_ hlt
             (refine weak_ren [(100, 74)] rfl ?_ ?_ <;> repeat' (first|exact trivial|refine subR_cons rfl ?_ ?_|refine subHR_cons rfl ?_ ?_|rfl|(refine d_int ?_; (first|rfl|omega|(rw [IntWalk.i64_in _ (by omega)] <;> omega)|(simp; done)|(simp; omega)))|(refine d_bool ?_; (first|(simp_all; done)|(rw [Bool.eq_iff_iff]; simp_all; done)|(rw [Bool.eq_iff_iff]; simp_all; omega)|(rw [Bool.eq_iff_iff]; simp; omega)))|exact ob_sl rfl rfl|exact d_own (by simp only [List.length_cons, List.length_nil]; omega))))
          | trace_state
      · obtain rfl : k = s.ms.length := by omega
        clear hfin
        have hbe := bodM_end hF.gl
        have hobj : rowsI (ckB s) = rowsI (bodM s s.ms.length) ++ [.one (row false 1 (ints [4]))] := by rw [← hbe, rowsI_app]
        rw [hB, hobj]
        clear hobj hbe hB
        generalize rowsI (bodM s s.ms.length) = RR at *
        repeat' (first|(with_reducible first|refine aw_seq ?_|refine thn_normal ?_|refine thn_ret ?_|refine thn_exit ?_|refine blk_normal ?_|refine blk_ret ?_|refine blk_hit ?_|refine blk_miss rfl ?_|refine aw_block ?_|refine aw_ret ?_|refine aw_skip ?_|refine aw_exit ?_|refine w_nil ?_|refine x_nil (by kernel_rfl) ?_)|refine aw_region ?_|refine aw_region_draw (by kernel_rfl) ?_|refine aw_yes rfl ?_|refine aw_no rfl ?_|((with_reducible refine w_seq ?_); first|refine r_q tbOk rfl rfl rfl rfl ?_|refine r_e tbOk rfl rfl rfl rfl rfl ?_|refine r_yes tbOk rfl rfl rfl rfl rfl rfl ?_|refine w_no rfl rfl (lookO_spec rfl) rfl rfl rfl ?_|refine w_un rfl rfl (lookO_spec rfl) rfl rfl ?_)|((with_reducible refine w_drw ?_); first|refine rx_q tbOk rfl rfl rfl rfl ?_|refine rx_e tbOk rfl rfl rfl rfl rfl ?_|refine rx_yes tbOk rfl rfl rfl rfl rfl rfl ?_|refine x_no rfl rfl (lookO_spec rfl) rfl rfl rfl ?_|refine x_un rfl rfl (lookO_spec rfl) rfl rfl ?_)|((first|refine' w_e rfl ?xa ?xb ?xc ?xe ?_|refine' v_e rfl ?xa ?xb ?xc ?xe ?_); (case xa => first|exact at_dst 76 rfl (e_build [.const (.int .i64 4)] tlOk rfl rfl rfl rfl rfl rfl (allN_ints [4]) (by simp))|exact e_buildF 76 tlOk rfl rfl rfl rfl rfl rfl rfl rfl|exact at_dst 78 rfl (e_append tlOk rfl rfl rfl rfl rfl rfl (slD_own (lookHO_spec rfl) rfl) hrl (by simp only [maxLen, List.length_append, List.length_cons, List.length_nil]; omega) (by simp only [List.length_append, List.length_cons, List.length_nil]; omega))); (case xb => rfl); (case xc => rfl); (case xe => rfl); try dsimp only [P0.d, Res.d, List.map_cons, List.map_nil, List.set_cons_zero, List.set_cons_succ, Nat.reduceAdd])|((first|refine aw_ways rfl ?_ ?_|refine r_split rfl rfl rfl ?_ ?_) <;> intro hg_ <;> fail_if_success (exact Bool.noConfusion hg_)) <;> (try simp only [prn] at hg_) <;> (try first|contradiction|(exfalso; omega)))
        all_goals first
          | exact ret_tmp rfl (dres_one (cres_own0 (lookHO_spec rfl) (by simp)))
          | trace_state
set_option maxRecDepth 100000 in
set_option maxHeartbeats 4000000 in
theorem f_ownRowsI (nil : Bool) (L : List (List Int)) (hl : L.length ≤ 1048576) (hL : ∀ b ∈ L, b.length ≤ 1048576) : Fn Try.prog 37 [.one (row nil 1 (rowsI L))] (.v (.one (row false 1 (rowsI L)))) := by
  have hlenL := rowsI_len L
  refine fn_of (l := [.tmp 2]) Try.func37 (by kernel_rfl) rfl Try.ntmps37 rfl rfl ?_; simp only [argEnv, P0.d, Nat.reduceAdd]
  repeat' (first|(with_reducible first|refine aw_seq ?_|refine thn_normal ?_|refine thn_ret ?_|refine thn_exit ?_|refine blk_normal ?_|refine blk_ret ?_|refine blk_hit ?_|refine blk_miss rfl ?_|refine aw_block ?_|refine aw_ret ?_|refine aw_skip ?_|refine aw_exit ?_|refine w_nil ?_|refine x_nil (by kernel_rfl) ?_)|refine aw_region ?_|refine aw_region_draw (by kernel_rfl) ?_|refine aw_yes rfl ?_|refine aw_no rfl ?_|((with_reducible refine w_seq ?_); first|refine r_q tbOk rfl rfl rfl rfl ?_|refine r_e tbOk rfl rfl rfl rfl rfl ?_|refine r_yes tbOk rfl rfl rfl rfl rfl rfl ?_|refine w_no rfl rfl (lookO_spec rfl) rfl rfl rfl ?_|refine w_un rfl rfl (lookO_spec rfl) rfl rfl ?_)|((with_reducible refine w_drw ?_); first|refine rx_q tbOk rfl rfl rfl rfl ?_|refine rx_e tbOk rfl rfl rfl rfl rfl ?_|refine rx_yes tbOk rfl rfl rfl rfl rfl rfl ?_|refine x_no rfl rfl (lookO_spec rfl) rfl rfl rfl ?_|refine x_un rfl rfl (lookO_spec rfl) rfl rfl ?_)|((first|refine' w_e rfl ?xa ?xb ?xc ?xe ?_|refine' v_e rfl ?xa ?xb ?xc ?xe ?_); (case xa => exact e_build [] tlOk rfl rfl rfl rfl rfl rfl (by simp [AllN]) (by simp)); (case xb => rfl); (case xc => rfl); (case xe => rfl); try dsimp only [P0.d, Res.d, List.map_cons, List.map_nil, List.set_cons_zero, List.set_cons_succ, Nat.reduceAdd])|((first|refine aw_ways rfl ?_ ?_|refine r_split rfl rfl rfl ?_ ?_) <;> intro hg_ <;> fail_if_success (exact Bool.noConfusion hg_)) <;> (try simp only [prn] at hg_) <;> (try first|contradiction|(exfalso; omega)))
  obtain ⟨F, hFs⟩ : ∃ F : Nat → St, ∀ k, F k = mkS 22 [(4, .one (.r true (int (k : Int)))), (3, .one (.own 100 0 k 1)), (0, .one (.r false (row nil 1 (rowsI L))))] [(100, .sl 24 1 true (rowsI (L.take k)))] := ⟨_, fun _ => rfl⟩
  refine aw_loopI (fun k : Nat => k ≤ L.length) F (fun k => L.length - k) 0 (Nat.zero_le _) (by rw [hFs]; (refine weak_ren [(100, 5)] rfl ?_ ?_ <;> repeat' (first|exact trivial|refine subR_cons rfl ?_ ?_|refine subHR_cons rfl ?_ ?_|rfl|(refine d_int ?_; (first|rfl|omega|(rw [IntWalk.i64_in _ (by omega)] <;> omega)|(simp; done)|(simp; omega)))|(refine d_bool ?_; (first|(simp_all; done)|(rw [Bool.eq_iff_iff]; simp_all; done)|(rw [Bool.eq_iff_iff]; simp_all; omega)|(rw [Bool.eq_iff_iff]; simp; omega)))))) ?_
  intro k hk
  have hfin : ∀ s' : St, Weak s' (F (k + 1)) → k < L.length → ∃ x' : Nat, x' ≤ L.length ∧ Weak s' (F x') ∧ L.length - x' < L.length - k := fun s' h hk => ⟨k + 1, by omega, h, by omega⟩
  rw [hFs] at hfin ⊢
  clear hFs
  have hrl : k = (rowsI (L.take k)).length := by rw [rowsI_len]; simp; omega
  by_cases hlt : k < L.length
  · have hx := rowsI_at hlt
    have hobj : rowsI (L.take (k + 1)) = rowsI (L.take k) ++ [.one (row false 1 (ints L[k]))] := by rw [List.take_succ_eq_append_getElem hlt, rowsI_app]
    rw [hobj] at hfin
    have hb := hL L[k] (List.getElem_mem hlt)
    have hbl := ints_len L[k]
    clear hobj hL
    generalize L[k] = b at *
    generalize rowsI (L.take k) = RR at *
    repeat' (first|(with_reducible first|refine aw_seq ?_|refine thn_normal ?_|refine thn_ret ?_|refine thn_exit ?_|refine blk_normal ?_|refine blk_ret ?_|refine blk_hit ?_|refine blk_miss rfl ?_|refine aw_block ?_|refine aw_ret ?_|refine aw_skip ?_|refine aw_exit ?_|refine w_nil ?_|refine x_nil (by kernel_rfl) ?_)|refine aw_region ?_|refine aw_region_draw (by kernel_rfl) ?_|refine aw_yes rfl ?_|refine aw_no rfl ?_|((with_reducible refine w_seq ?_); first|refine r_q tbOk rfl rfl rfl rfl ?_|refine r_e tbOk rfl rfl rfl rfl rfl ?_|refine r_yes tbOk rfl rfl rfl rfl rfl rfl ?_|refine w_no rfl rfl (lookO_spec rfl) rfl rfl rfl ?_|refine w_un rfl rfl (lookO_spec rfl) rfl rfl ?_)|((with_reducible refine w_drw ?_); first|refine rx_q tbOk rfl rfl rfl rfl ?_|refine rx_e tbOk rfl rfl rfl rfl rfl ?_|refine rx_yes tbOk rfl rfl rfl rfl rfl rfl ?_|refine x_no rfl rfl (lookO_spec rfl) rfl rfl rfl ?_|refine x_un rfl rfl (lookO_spec rfl) rfl rfl ?_)|((first|refine' w_q rfl rfl ?xa rfl ?_|refine' v_q rfl rfl ?xa rfl ?_|refine' w_yes rfl rfl (lookO_spec rfl) rfl ?xa rfl ?_|refine' v_yes rfl rfl (lookO_spec rfl) rfl ?xa rfl ?_); case xa => exact k_index tbOk rfl rfl rfl rfl (by omega) hx)|((first|refine' w_e rfl ?xa ?xb ?xc ?xe ?_|refine' v_e rfl ?xa ?xb ?xc ?xe ?_); (case xa => first|exact at_dst 13 rfl (e_build [] tlOk rfl rfl rfl rfl rfl rfl (by simp [AllN]) (by simp))|exact at_dst 18 rfl (e_append tlOk rfl rfl rfl rfl rfl rfl (slD_plain slD_row (ints_plain _)) rfl (by simp only [maxLen, List.length_nil]; omega) (by simp only [List.length_nil]; omega))|exact e_buildF 18 tlOk rfl rfl rfl rfl rfl rfl rfl (by simp only [List.length_append])|exact at_dst 20 rfl (e_append tlOk rfl rfl rfl rfl rfl rfl (slD_own (lookHO_spec rfl) rfl) hrl (by simp only [maxLen, List.length_append, List.length_cons, List.length_nil]; omega) (by simp only [List.length_append, List.length_cons, List.length_nil]; omega))); (case xb => rfl); (case xc => rfl); (case xe => rfl); try dsimp only [P0.d, Res.d, List.map_cons, List.map_nil, List.set_cons_zero, List.set_cons_succ, Nat.reduceAdd])|((first|refine aw_ways rfl ?_ ?_|refine r_split rfl rfl rfl ?_ ?_) <;> intro hg_ <;> fail_if_success (exact Bool.noConfusion hg_)) <;> (try simp only [prn] at hg_) <;> (try first|contradiction|(exfalso; omega)))
    all_goals first
      | (refine hfin _ ?_ hlt
         (refine weak_ren [(100, 20)] rfl ?_ ?_ <;> repeat' (first|exact trivial|refine subR_cons rfl ?_ ?_|refine subHR_cons rfl ?_ ?_|rfl|(refine d_int ?_; (first|rfl|omega|(rw [IntWalk.i64_in _ (by omega)] <;> omega)|(simp; done)|(simp; omega)))|(refine d_bool ?_; (first|(simp_all; done)|(rw [Bool.eq_iff_iff]; simp_all; done)|(rw [Bool.eq_iff_iff]; simp_all; omega)|(rw [Bool.eq_iff_iff]; simp; omega)))|exact ob_sl rfl rfl|exact d_own (by simp only [List.length_cons, List.length_nil]; omega))))
      | trace_state
  · obtain rfl : k = L.length := by omega
    clear hfin
    rw [List.take_of_length_le (Nat.le_refl _)] at hrl ⊢
    repeat' (first|(with_reducible first|refine aw_seq ?_|refine thn_normal ?_|refine thn_ret ?_|refine thn_exit ?_|refine blk_normal ?_|refine blk_ret ?_|refine blk_hit ?_|refine blk_miss rfl ?_|refine aw_block ?_|refine aw_ret ?_|refine aw_skip ?_|refine aw_exit ?_|refine w_nil ?_|refine x_nil (by kernel_rfl) ?_)|refine aw_region ?_|refine aw_region_draw (by kernel_rfl) ?_|refine aw_yes rfl ?_|refine aw_no rfl ?_|((with_reducible refine w_seq ?_); first|refine r_q tbOk rfl rfl rfl rfl ?_|refine r_e tbOk rfl rfl rfl rfl rfl ?_|refine r_yes tbOk rfl rfl rfl rfl rfl rfl ?_|refine w_no rfl rfl (lookO_spec rfl) rfl rfl rfl ?_|refine w_un rfl rfl (lookO_spec rfl) rfl rfl ?_)|((with_reducible refine w_drw ?_); first|refine rx_q tbOk rfl rfl rfl rfl ?_|refine rx_e tbOk rfl rfl rfl rfl rfl ?_|refine rx_yes tbOk rfl rfl rfl rfl rfl rfl ?_|refine x_no rfl rfl (lookO_spec rfl) rfl rfl rfl ?_|refine x_un rfl rfl (lookO_spec rfl) rfl rfl ?_)|((first|refine aw_ways rfl ?_ ?_|refine r_split rfl rfl rfl ?_ ?_) <;> intro hg_ <;> fail_if_success (exact Bool.noConfusion hg_)) <;> (try simp only [prn] at hg_) <;> (try first|contradiction|(exfalso; omega)))
    all_goals first
      | exact ret_tmp rfl (dres_one (cres_own0 (lookHO_spec rfl) hrl))
      | trace_state
theorem pre_iff {α : Type} {W L : List α} {at_ : Nat} : W <+: L.drop at_ ↔ (∀ k, k < W.length → L[at_ + k]? = W[k]?) ∧ (W.length = 0 ∨ at_ + W.length ≤ L.length) := by
  constructor
  · rintro ⟨t, ht⟩
    have hl := congrArg List.length ht
    rw [List.length_append, List.length_drop] at hl
    refine ⟨fun k hk => ?_, by omega⟩
    have := congrArg (fun l => l[k]?) ht
    simp only [List.getElem?_drop] at this
    rw [← this, List.getElem?_append_left hk]
  · rintro ⟨h1, h2⟩
    rw [List.prefix_iff_eq_take]
    apply List.ext_getElem?
    intro k
    by_cases hk : k < W.length
    · rw [← h1 k hk, List.getElem?_take, if_pos hk, List.getElem?_drop]
    · rw [List.getElem?_eq_none (by omega), List.getElem?_take, if_neg hk]
set_option maxRecDepth 100000 in
set_option maxHeartbeats 8000000 in
theorem f_l18Same (n1 n2 : Bool) (L W : List (List Int)) (at_ : Nat) (hl : L.length ≤ 1048576) (hw : W.length ≤ 1048576) (ha : at_ ≤ 1048576) (hL : ∀ b ∈ L, b.length ≤ 1048576) (hW0 : 0 < W.length) : Fn Try.prog 87 [.one (row n1 1 (rowsI L)), iP (at_ : Int), .one (row n2 1 (rowsI W))] (.v (.one (bool (decide (W <+: L.drop at_))))) := by
  have hlenL := rowsI_len L
  have hlenW := rowsI_len W
  have hno : ∀ k (h : k < W.length), L[at_ + k]? ≠ some W[k] → decide (W <+: L.drop at_) = false := fun k h hne => by
    rw [decide_eq_false_iff_not, pre_iff]
    exact fun hp => hne (by rw [hp.1 k h, List.getElem?_eq_getElem h])
  have hlo : L.length < at_ + W.length → decide (W <+: L.drop at_) = false := fun h => by
    rw [decide_eq_false_iff_not, pre_iff]
    rintro ⟨_, h2⟩
    omega
  have hyes : at_ + W.length ≤ L.length → (∀ k, k < W.length → L[at_ + k]? = W[k]?) → decide (W <+: L.drop at_) = true := fun h h2 => by
    rw [decide_eq_true_iff, pre_iff]
    exact ⟨h2, .inr h⟩
  generalize decide (W <+: L.drop at_) = q at *
  have hwl : IntKind.i64.wrap ((at_ : Int) + (W.length : Int)) = ((at_ + W.length : Nat) : Int) := by rw [IntWalk.i64_in _ (by omega)]; omega
  rw [← hlenW, ← hlenL] at hlo
  rw [← hlenW] at hwl
  by_cases hbig : L.length < at_ + W.length
  · rw [← hlenW, ← hlenL] at hbig
    rw [hlo hbig]
    clear hno hyes hlo
    refine fn_of (l := [.tmp 6]) Try.func87 (by kernel_rfl) rfl Try.ntmps87 rfl rfl ?_; simp only [argEnv, P0.d, Nat.reduceAdd]
    repeat' (first|(with_reducible first|refine aw_seq ?_|refine thn_normal ?_|refine thn_ret ?_|refine thn_exit ?_|refine blk_normal ?_|refine blk_ret ?_|refine blk_hit ?_|refine blk_miss rfl ?_|refine aw_block ?_|refine aw_ret ?_|refine aw_skip ?_|refine aw_exit ?_|refine w_nil ?_|refine x_nil (by kernel_rfl) ?_)|refine aw_region ?_|refine aw_region_draw (by kernel_rfl) ?_|refine aw_yes rfl ?_|refine aw_no rfl ?_|((with_reducible refine w_seq ?_); first|refine r_q tbOk rfl rfl rfl rfl ?_|refine r_e tbOk rfl rfl rfl rfl rfl ?_|refine r_yes tbOk rfl rfl rfl rfl rfl rfl ?_|refine w_no rfl rfl (lookO_spec rfl) rfl rfl rfl ?_|refine w_un rfl rfl (lookO_spec rfl) rfl rfl ?_)|((with_reducible refine w_drw ?_); first|refine rx_q tbOk rfl rfl rfl rfl ?_|refine rx_e tbOk rfl rfl rfl rfl rfl ?_|refine rx_yes tbOk rfl rfl rfl rfl rfl rfl ?_|refine x_no rfl rfl (lookO_spec rfl) rfl rfl rfl ?_|refine x_un rfl rfl (lookO_spec rfl) rfl rfl ?_)|((first|refine aw_ways rfl ?_ ?_|refine r_split rfl rfl rfl ?_ ?_) <;> intro hg_ <;> fail_if_success (exact Bool.noConfusion hg_)) <;> (try simp only [prn] at hg_) <;> (try first|contradiction|(exfalso; omega)))
    all_goals first
      | exact ret_tmp rfl (dres_bool rfl)
      | (exfalso; omega)
      | trace_state
  · rw [← hlenW, ← hlenL] at hbig
    clear hlo
    refine fn_of (l := [.tmp 6]) Try.func87 (by kernel_rfl) rfl Try.ntmps87 rfl rfl ?_; simp only [argEnv, P0.d, Nat.reduceAdd]
    repeat' (first|(with_reducible first|refine aw_seq ?_|refine thn_normal ?_|refine thn_ret ?_|refine thn_exit ?_|refine blk_normal ?_|refine blk_ret ?_|refine blk_hit ?_|refine blk_miss rfl ?_|refine aw_block ?_|refine aw_ret ?_|refine aw_skip ?_|refine aw_exit ?_|refine w_nil ?_|refine x_nil (by kernel_rfl) ?_)|refine aw_region ?_|refine aw_region_draw (by kernel_rfl) ?_|refine aw_yes rfl ?_|refine aw_no rfl ?_|((with_reducible refine w_seq ?_); first|refine r_q tbOk rfl rfl rfl rfl ?_|refine r_e tbOk rfl rfl rfl rfl rfl ?_|refine r_yes tbOk rfl rfl rfl rfl rfl rfl ?_|refine w_no rfl rfl (lookO_spec rfl) rfl rfl rfl ?_|refine w_un rfl rfl (lookO_spec rfl) rfl rfl ?_)|((with_reducible refine w_drw ?_); first|refine rx_q tbOk rfl rfl rfl rfl ?_|refine rx_e tbOk rfl rfl rfl rfl rfl ?_|refine rx_yes tbOk rfl rfl rfl rfl rfl rfl ?_|refine x_no rfl rfl (lookO_spec rfl) rfl rfl rfl ?_|refine x_un rfl rfl (lookO_spec rfl) rfl rfl ?_)|((first|refine aw_ways rfl ?_ ?_|refine r_split rfl rfl rfl ?_ ?_) <;> intro hg_ <;> fail_if_success (exact Bool.noConfusion hg_)) <;> (try simp only [prn] at hg_) <;> (try first|contradiction|(exfalso; omega)))
    obtain ⟨F, hFs⟩ : ∃ F : Nat → St, ∀ k, F k = mkS 61 [(7, .one (.r true (int (k : Int)))), (2, .one (.r false (row n2 1 (rowsI W)))), (1, .one (.r false (int (at_ : Int)))), (0, .one (.r false (row n1 1 (rowsI L))))] [] := ⟨_, fun _ => rfl⟩
    refine aw_loopI (fun k : Nat => k ≤ W.length ∧ ∀ i, i < k → L[at_ + i]? = W[i]?) F (fun k => W.length - k) 0 ⟨Nat.zero_le _, fun i h => by omega⟩ (by rw [hFs]; (refine weak_ren [] rfl ?_ ?_ <;> repeat' (first|exact trivial|refine subR_cons rfl ?_ ?_|refine subHR_cons rfl ?_ ?_|rfl|(refine d_int ?_; (first|rfl|omega|(rw [IntWalk.i64_in _ (by omega)] <;> omega)|(simp; done)|(simp; omega)))|(refine d_bool ?_; (first|(simp_all; done)|(rw [Bool.eq_iff_iff]; simp_all; done)|(rw [Bool.eq_iff_iff]; simp_all; omega)|(rw [Bool.eq_iff_iff]; simp; omega)))))) ?_
    rintro k ⟨hk, HP⟩
    by_cases hlt : k < W.length
    · have hak : at_ + k < L.length := by omega
      have hfin : ∀ s' : St, Weak s' (F (k + 1)) → L[at_ + k] = W[k] → ∃ x' : Nat, (x' ≤ W.length ∧ ∀ i, i < x' → L[at_ + i]? = W[i]?) ∧ Weak s' (F x') ∧ W.length - x' < W.length - k := fun s' h he => ⟨k + 1, ⟨by omega, fun i hi => by
        by_cases hik : i = k
        · subst hik; rw [List.getElem?_eq_getElem hak, List.getElem?_eq_getElem hlt, he]
        · exact HP i (by omega)⟩, h, by omega⟩
      have hnok : L[at_ + k] ≠ W[k] → q = false := fun hne => hno k hlt (by rw [List.getElem?_eq_getElem hak]; intro h; injection h with h; exact hne h)
      rw [hFs] at hfin ⊢
      clear hFs hno hyes HP
      have hxW := rowsI_at hlt
      have hxL := rowsI_at hak
      have hw1 : IntKind.i64.wrap ((at_ : Int) + (k : Int)) = ((at_ + k : Nat) : Int) := by rw [IntWalk.i64_in _ (by omega)]; omega
      rw [← hw1] at hxL
      have h0 : 0 ≤ IntKind.i64.wrap ((at_ : Int) + (k : Int)) := by rw [hw1]; omega
      have hbl := hL L[at_ + k] (List.getElem_mem hak)
      have hla := ints_len L[at_ + k]
      have hlb := ints_len W[k]
      generalize L[at_ + k] = a at *
      generalize W[k] = b at *
      by_cases hab : a.length = b.length
      · repeat' (first|(with_reducible first|refine aw_seq ?_|refine thn_normal ?_|refine thn_ret ?_|refine thn_exit ?_|refine blk_normal ?_|refine blk_ret ?_|refine blk_hit ?_|refine blk_miss rfl ?_|refine aw_block ?_|refine aw_ret ?_|refine aw_skip ?_|refine aw_exit ?_|refine w_nil ?_|refine x_nil (by kernel_rfl) ?_)|refine aw_region ?_|refine aw_region_draw (by kernel_rfl) ?_|refine aw_yes rfl ?_|refine aw_no rfl ?_|((with_reducible refine w_seq ?_); first|refine r_q tbOk rfl rfl rfl rfl ?_|refine r_e tbOk rfl rfl rfl rfl rfl ?_|refine r_yes tbOk rfl rfl rfl rfl rfl rfl ?_|refine w_no rfl rfl (lookO_spec rfl) rfl rfl rfl ?_|refine w_un rfl rfl (lookO_spec rfl) rfl rfl ?_)|((with_reducible refine w_drw ?_); first|refine rx_q tbOk rfl rfl rfl rfl ?_|refine rx_e tbOk rfl rfl rfl rfl rfl ?_|refine rx_yes tbOk rfl rfl rfl rfl rfl rfl ?_|refine x_no rfl rfl (lookO_spec rfl) rfl rfl rfl ?_|refine x_un rfl rfl (lookO_spec rfl) rfl rfl ?_)|((first|refine' w_q rfl rfl ?xa rfl ?_|refine' v_q rfl rfl ?xa rfl ?_|refine' w_yes rfl rfl (lookO_spec rfl) rfl ?xa rfl ?_|refine' v_yes rfl rfl (lookO_spec rfl) rfl ?xa rfl ?_); case xa => exact k_index tbOk rfl rfl rfl rfl (by first|exact h0|omega) (by first|exact hxW|exact hxL))|((first|refine aw_ways rfl ?_ ?_|refine r_split rfl rfl rfl ?_ ?_) <;> intro hg_ <;> fail_if_success (exact Bool.noConfusion hg_)) <;> (try simp only [prn] at hg_) <;> (try first|contradiction|(exfalso; omega)))
        obtain ⟨G, hGs⟩ : ∃ G : Nat → St, ∀ j, G j = mkS 61 [(8, .one (.r true (int (j : Int)))), (7, .one (.r true (int (k : Int)))), (2, .one (.r false (row n2 1 (rowsI W)))), (1, .one (.r false (int (at_ : Int)))), (0, .one (.r false (row n1 1 (rowsI L))))] [] := ⟨_, fun _ => rfl⟩
        refine aw_loopI (fun j : Nat => j ≤ b.length ∧ ∀ i, i < j → a[i]? = b[i]?) G (fun j => b.length - j) 0 ⟨Nat.zero_le _, fun i h => by omega⟩ (by rw [hGs]; (refine weak_ren [] rfl ?_ ?_ <;> repeat' (first|exact trivial|refine subR_cons rfl ?_ ?_|refine subHR_cons rfl ?_ ?_|rfl|(refine d_int ?_; (first|rfl|omega|(rw [IntWalk.i64_in _ (by omega)] <;> omega)|(simp; done)|(simp; omega)))|(refine d_bool ?_; (first|(simp_all; done)|(rw [Bool.eq_iff_iff]; simp_all; done)|(rw [Bool.eq_iff_iff]; simp_all; omega)|(rw [Bool.eq_iff_iff]; simp; omega)))))) ?_
        rintro j ⟨hj, HJ⟩
        by_cases hjl : j < b.length
        · have hja : j < a.length := by omega
          have hfinJ : ∀ s' : St, Weak s' (G (j + 1)) → a[j] = b[j] → ∃ x' : Nat, (x' ≤ b.length ∧ ∀ i, i < x' → a[i]? = b[i]?) ∧ Weak s' (G x') ∧ b.length - x' < b.length - j := fun s' h he => ⟨j + 1, ⟨by omega, fun i hi => by
            by_cases hik : i = j
            · subst hik; rw [List.getElem?_eq_getElem hja, List.getElem?_eq_getElem hjl, he]
            · exact HJ i (by omega)⟩, h, by omega⟩
          have hnoj : a[j] ≠ b[j] → q = false := fun hne => hnok fun e => hne (by subst e; rfl)
          rw [hGs] at hfinJ ⊢
          have hxa := ints_at hja
          have hxb := ints_at hjl
          clear hfin hGs HJ hnok
          generalize a[j] = x at *
          generalize b[j] = y at *
          repeat' (first|(with_reducible first|refine aw_seq ?_|refine thn_normal ?_|refine thn_ret ?_|refine thn_exit ?_|refine blk_normal ?_|refine blk_ret ?_|refine blk_hit ?_|refine blk_miss rfl ?_|refine aw_block ?_|refine aw_ret ?_|refine aw_skip ?_|refine aw_exit ?_|refine w_nil ?_|refine x_nil (by kernel_rfl) ?_)|refine aw_region ?_|refine aw_region_draw (by kernel_rfl) ?_|refine aw_yes rfl ?_|refine aw_no rfl ?_|((with_reducible refine w_seq ?_); first|refine r_q tbOk rfl rfl rfl rfl ?_|refine r_e tbOk rfl rfl rfl rfl rfl ?_|refine r_yes tbOk rfl rfl rfl rfl rfl rfl ?_|refine w_no rfl rfl (lookO_spec rfl) rfl rfl rfl ?_|refine w_un rfl rfl (lookO_spec rfl) rfl rfl ?_)|((with_reducible refine w_drw ?_); first|refine rx_q tbOk rfl rfl rfl rfl ?_|refine rx_e tbOk rfl rfl rfl rfl rfl ?_|refine rx_yes tbOk rfl rfl rfl rfl rfl rfl ?_|refine x_no rfl rfl (lookO_spec rfl) rfl rfl rfl ?_|refine x_un rfl rfl (lookO_spec rfl) rfl rfl ?_)|((first|refine' w_q rfl rfl ?xa rfl ?_|refine' v_q rfl rfl ?xa rfl ?_|refine' w_yes rfl rfl (lookO_spec rfl) rfl ?xa rfl ?_|refine' v_yes rfl rfl (lookO_spec rfl) rfl ?xa rfl ?_); case xa => exact k_index tbOk rfl rfl rfl rfl (by first|exact h0|omega) (by first|exact hxW|exact hxL|exact hxa|exact hxb))|((first|refine aw_ways rfl ?_ ?_|refine r_split rfl rfl rfl ?_ ?_) <;> intro hg_ <;> fail_if_success (exact Bool.noConfusion hg_)) <;> (try simp only [prn] at hg_) <;> (try first|contradiction|(exfalso; omega)))
          all_goals first
            | (rw [hnoj (by simp_all; done)]
               exact ret_tmp rfl (dres_bool rfl))
            | (refine hfinJ _ ?_ (by simp_all; done)
               (refine weak_ren [] rfl ?_ ?_ <;> repeat' (first|exact trivial|refine subR_cons rfl ?_ ?_|refine subHR_cons rfl ?_ ?_|rfl|(refine d_int ?_; (first|rfl|omega|(rw [IntWalk.i64_in _ (by omega)] <;> omega)|(simp; done)|(simp; omega)))|(refine d_bool ?_; (first|(simp_all; done)|(rw [Bool.eq_iff_iff]; simp_all; done)|(rw [Bool.eq_iff_iff]; simp_all; omega)|(rw [Bool.eq_iff_iff]; simp; omega))))))
            | trace_state
        · rw [hGs]
          have he : a = b := List.ext_getElem? fun i => by
            by_cases hi : i < j
            · exact HJ i hi
            · rw [List.getElem?_eq_none (by omega), List.getElem?_eq_none (by omega)]
          clear hGs HJ hnok
          have hjn : ¬ (j : Int) < ((ints b).length : Int) := by omega
          repeat' (first|(with_reducible first|refine aw_seq ?_|refine thn_normal ?_|refine thn_ret ?_|refine thn_exit ?_|refine blk_normal ?_|refine blk_ret ?_|refine blk_hit ?_|refine blk_miss rfl ?_|refine aw_block ?_|refine aw_ret ?_|refine aw_skip ?_|refine aw_exit ?_|refine w_nil ?_|refine x_nil (by kernel_rfl) ?_)|refine aw_region ?_|refine aw_region_draw (by kernel_rfl) ?_|refine aw_yes rfl ?_|refine aw_no rfl ?_|((with_reducible refine w_seq ?_); first|refine r_q tbOk rfl rfl rfl rfl ?_|refine r_e tbOk rfl rfl rfl rfl rfl ?_|refine r_yes tbOk rfl rfl rfl rfl rfl rfl ?_|refine w_no rfl rfl (lookO_spec rfl) rfl rfl rfl ?_|refine w_un rfl rfl (lookO_spec rfl) rfl rfl ?_)|((with_reducible refine w_drw ?_); first|refine rx_q tbOk rfl rfl rfl rfl ?_|refine rx_e tbOk rfl rfl rfl rfl rfl ?_|refine rx_yes tbOk rfl rfl rfl rfl rfl rfl ?_|refine x_no rfl rfl (lookO_spec rfl) rfl rfl rfl ?_|refine x_un rfl rfl (lookO_spec rfl) rfl rfl ?_)|((first|refine' w_q rfl rfl ?xa rfl ?_|refine' v_q rfl rfl ?xa rfl ?_|refine' w_yes rfl rfl (lookO_spec rfl) rfl ?xa rfl ?_|refine' v_yes rfl rfl (lookO_spec rfl) rfl ?xa rfl ?_); case xa => exact k_index tbOk rfl rfl rfl rfl (by first|exact h0|omega) (by first|exact hxW|exact hxL))|((first|refine aw_ways rfl ?_ ?_|refine r_split rfl rfl rfl ?_ ?_) <;> intro hg_ <;> fail_if_success (exact Bool.noConfusion hg_)) <;> (try simp only [prn] at hg_) <;> (try first|contradiction|(exfalso; omega)))
          all_goals first
            | (refine hfin _ ?_ he
               (refine weak_ren [] rfl ?_ ?_ <;> repeat' (first|exact trivial|refine subR_cons rfl ?_ ?_|refine subHR_cons rfl ?_ ?_|rfl|(refine d_int ?_; (first|rfl|omega|(rw [IntWalk.i64_in _ (by omega)] <;> omega)|(simp; done)|(simp; omega)))|(refine d_bool ?_; (first|(simp_all; done)|(rw [Bool.eq_iff_iff]; simp_all; done)|(rw [Bool.eq_iff_iff]; simp_all; omega)|(rw [Bool.eq_iff_iff]; simp; omega))))))
            | (exfalso; omega)
            | trace_state
      · repeat' (first|(with_reducible first|refine aw_seq ?_|refine thn_normal ?_|refine thn_ret ?_|refine thn_exit ?_|refine blk_normal ?_|refine blk_ret ?_|refine blk_hit ?_|refine blk_miss rfl ?_|refine aw_block ?_|refine aw_ret ?_|refine aw_skip ?_|refine aw_exit ?_|refine w_nil ?_|refine x_nil (by kernel_rfl) ?_)|refine aw_region ?_|refine aw_region_draw (by kernel_rfl) ?_|refine aw_yes rfl ?_|refine aw_no rfl ?_|((with_reducible refine w_seq ?_); first|refine r_q tbOk rfl rfl rfl rfl ?_|refine r_e tbOk rfl rfl rfl rfl rfl ?_|refine r_yes tbOk rfl rfl rfl rfl rfl rfl ?_|refine w_no rfl rfl (lookO_spec rfl) rfl rfl rfl ?_|refine w_un rfl rfl (lookO_spec rfl) rfl rfl ?_)|((with_reducible refine w_drw ?_); first|refine rx_q tbOk rfl rfl rfl rfl ?_|refine rx_e tbOk rfl rfl rfl rfl rfl ?_|refine rx_yes tbOk rfl rfl rfl rfl rfl rfl ?_|refine x_no rfl rfl (lookO_spec rfl) rfl rfl rfl ?_|refine x_un rfl rfl (lookO_spec rfl) rfl rfl ?_)|((first|refine' w_q rfl rfl ?xa rfl ?_|refine' v_q rfl rfl ?xa rfl ?_|refine' w_yes rfl rfl (lookO_spec rfl) rfl ?xa rfl ?_|refine' v_yes rfl rfl (lookO_spec rfl) rfl ?xa rfl ?_); case xa => exact k_index tbOk rfl rfl rfl rfl (by first|exact h0|omega) (by first|exact hxW|exact hxL))|((first|refine aw_ways rfl ?_ ?_|refine r_split rfl rfl rfl ?_ ?_) <;> intro hg_ <;> fail_if_success (exact Bool.noConfusion hg_)) <;> (try simp only [prn] at hg_) <;> (try first|contradiction|(exfalso; omega)))
        all_goals first
          | (rw [hnok (fun e => hab (by rw [e]))]
             exact ret_tmp rfl (dres_bool rfl))
          | (exfalso; omega)
          | trace_state
    · rw [hFs]
      obtain rfl : k = W.length := by omega
      have hq := hyes (by omega) HP
      rw [hq]
      clear hFs hno hyes HP
      repeat' (first|(with_reducible first|refine aw_seq ?_|refine thn_normal ?_|refine thn_ret ?_|refine thn_exit ?_|refine blk_normal ?_|refine blk_ret ?_|refine blk_hit ?_|refine blk_miss rfl ?_|refine aw_block ?_|refine aw_ret ?_|refine aw_skip ?_|refine aw_exit ?_|refine w_nil ?_|refine x_nil (by kernel_rfl) ?_)|refine aw_region ?_|refine aw_region_draw (by kernel_rfl) ?_|refine aw_yes rfl ?_|refine aw_no rfl ?_|((with_reducible refine w_seq ?_); first|refine r_q tbOk rfl rfl rfl rfl ?_|refine r_e tbOk rfl rfl rfl rfl rfl ?_|refine r_yes tbOk rfl rfl rfl rfl rfl rfl ?_|refine w_no rfl rfl (lookO_spec rfl) rfl rfl rfl ?_|refine w_un rfl rfl (lookO_spec rfl) rfl rfl ?_)|((with_reducible refine w_drw ?_); first|refine rx_q tbOk rfl rfl rfl rfl ?_|refine rx_e tbOk rfl rfl rfl rfl rfl ?_|refine rx_yes tbOk rfl rfl rfl rfl rfl rfl ?_|refine x_no rfl rfl (lookO_spec rfl) rfl rfl rfl ?_|refine x_un rfl rfl (lookO_spec rfl) rfl rfl ?_)|((first|refine aw_ways rfl ?_ ?_|refine r_split rfl rfl rfl ?_ ?_) <;> intro hg_ <;> fail_if_success (exact Bool.noConfusion hg_)) <;> (try simp only [prn] at hg_) <;> (try first|contradiction|(exfalso; omega)))
      all_goals first
        | exact ret_tmp rfl (dres_bool rfl)
        | trace_state
end Go.Proofs.Ytmkecjamfippfaa.Abs
