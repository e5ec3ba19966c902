/- Hops: HopsRight holds for the hops alone. No statement of the seat is proved here. -/
import Derived.Test.YtfdaoepbdolgiaaDoorTy
import Derived.Lib.Hide
import Derived.Test.YtfdaoepbdolgiaaDoorAGrH
import Derived.Test.YtfdaoepbdolgiaaDoorAHopJ
import Derived.Test.YtfdaoepbdolgiaaDoorALawG
set_option linter.unusedSimpArgs false
set_option linter.unusedVariables false
namespace Go.Proofs.YtfdaoepbdolgiaaDoor.Abs
open Go.RowKit
open R (val row ref)

theorem hopsOk_iff {m : Int} {es : List E3} {s : Int} {ys : List Int} (hg : gOk m es = true) (hR : inR 0 (m - 1) s = true) : hopsOk m es s ys = decide (ys = hopsF m es s) := by
  have hm := gOk_m hg
  have hI := gOk_edges hg
  have hs : 0 ≤ s ∧ s < m := by unfold inR at hR; simp at hR; omega
  obtain ⟨M, rfl⟩ : ∃ M : Nat, m = (M : Int) := ⟨m.toNat, by omega⟩
  have hIn : Inside M es := fun e he => ⟨(hI e he).1, (hI e he).2.1⟩
  have hX : hopsF M es s = hopsN M es s M := by unfold hopsF; rw [hg, hR]; rfl
  have hH := hopsN_isH hIn hs
  have hV : hasV M s = true := by rw [hasV_inR]; exact hR
  rw [hX]
  unfold hopsOk
  rw [hg, hV, Bool.true_and, Bool.true_and]
  by_cases hl : ys.length = M
  · rw [decide_eq_true (by omega : (ys.length : Int) = (M : Int)), Bool.true_and, hl, Bool.eq_iff_iff, decide_eq_true_eq, isH_iff hIn hs hl]
    exact ⟨fun h => h.uniq hH, fun h => h ▸ hH⟩
  · rw [decide_eq_false (by omega : ¬ (ys.length : Int) = (M : Int)), Bool.false_and, eq_comm, decide_eq_false_iff_not]
    intro h
    exact hl (by rw [h, hopsN_len])
theorem hopsOk_no {m : Int} {es : List E3} {s : Int} {ys : List Int} (hv : (gOk m es && inR 0 (m - 1) s) = false) : hopsOk m es s ys = false := by
  unfold hopsOk
  rw [hasV_inR, hv]; simp
theorem hopsF_len {m : Int} {es : List E3} {s : Int} (hv : (gOk m es && inR 0 (m - 1) s) = true) : ((hopsF m es s).length : Int) = m := by
  unfold hopsF
  rw [hv]
  have hg : gOk m es = true := by cases h : gOk m es <;> simp_all
  have hm := gOk_m hg
  rw [if_pos rfl, hopsN_len]; omega
theorem hopsF_in {m : Int} {es : List E3} {s : Int} : ∀ z ∈ hopsF m es s, -1 ≤ z ∧ z ≤ 16 := by
  intro z hz
  cases hv : (gOk m es && inR 0 (m - 1) s)
  · unfold hopsF at hz; rw [hv] at hz; simp at hz
  · have hg : gOk m es = true := by cases h : gOk m es <;> simp_all
    have hR : inR 0 (m - 1) s = true := by cases h : inR 0 (m - 1) s <;> simp_all
    have hm := gOk_m hg
    have hI := gOk_edges hg
    have hs : 0 ≤ s ∧ s < m := by unfold inR at hR; simp at hR; omega
    obtain ⟨M, rfl⟩ : ∃ M : Nat, m = (M : Int) := ⟨m.toNat, by omega⟩
    have hIn : Inside M es := fun e he => ⟨(hI e he).1, (hI e he).2.1⟩
    have hX : hopsF M es s = hopsN M es s M := by unfold hopsF; rw [hg, hR]; rfl
    rw [hX] at hz
    obtain ⟨i, hi, rfl⟩ := List.mem_iff_getElem.1 hz
    have hiM : i < M := by rw [hopsN_len] at hi; exact hi
    have hL := lv_all hIn hs M
    have : Go.Proofs.YtfdaoepbdolgiaaDoor.val (hopsN M es s M) (i : Int) = (hopsN M es s M)[i] := by
      unfold Go.Proofs.YtfdaoepbdolgiaaDoor.val
      rw [Int.toNat_natCast, List.getD_eq_getElem?_getD, List.getElem?_eq_getElem hi]; rfl
    rw [← this]
    rcases hL.cases (v := (i : Int)) (by omega) (by omega) with ⟨k, h2, _, h3⟩ | ⟨_, h3⟩ <;> omega
theorem asA_ownE {H : Nat → Option Ob} {k n sz : Nat} {E : TypeId} {els els' : List P0} {new : Bool} {ev : Operand → D} {x : Operand} (h : ev x = .one (.own k 0 n sz)) (hk : H k = some (.sl E sz new els)) (hn : n = els.length) (he : els = els') : AsArg H (ev x) (.one (row false sz els')) := he ▸ asA_own0H h hk hn
theorem k_remE {P : Program} {l : List (Nat × D)} {h : List (Nat × Ob)} {o : Oper} {n n' : Bool} {k : IntKind} {p q r : Int} {t t' : TypeId} {x y : Operand} (ho : o.op = .binOp .rem t x y t') (hx : evO l x = some (.one (.r n (R.val (.int k p))))) (hy : evO l y = some (.one (.r n' (R.val (.int k q))))) (hq : q ≠ 0) (hr : p.tmod q = r) : Loc P (lookH h) (evD (look l)) o (.one (.r true (R.val (.int k r)))) := hr ▸ k_rem ho hx hy hq
set_option maxRecDepth 100000 in
set_option maxHeartbeats 4000000 in
theorem f_sameIntsG (n1 n2 : Bool) (xs ys : List Int) (hl : xs.length ≤ 1048576) (hl2 : ys.length ≤ 1048576) : Fn Tryd.prog 13 [.one (row n1 1 (ints xs)), .one (row n2 1 (ints ys))] (.v (.one (bool (decide (xs = ys))))) := by
  have hlen := ints_len xs
  have hlen2 := ints_len ys
  by_cases hn : xs.length = ys.length
  · refine fn_of (l := [.tmp 4]) Tryd.func13 (by kernel_rfl) rfl Tryd.ntmps13 rfl rfl ?_; simp only [argEnv, P0.d, Nat.reduceAdd]
    repeat' (first | (with_reducible first | refine aw_seq ?_ | refine thn_normal ?_ | refine thn_ret ?_ | refine thn_exit ?_ | refine blk_normal ?_ | refine blk_ret ?_ | refine blk_hit ?_ | refine blk_miss rfl ?_ | refine aw_block ?_ | refine aw_ret ?_ | refine aw_skip ?_ | refine aw_exit ?_ | refine w_nil ?_ | refine x_nil (by kernel_rfl) ?_) | refine aw_region ?_ | refine aw_region_draw (by kernel_rfl) ?_ | refine aw_yes rfl ?_ | refine aw_no rfl ?_ | ((with_reducible refine w_seq ?_); first | refine r_q tbOk rfl rfl rfl rfl ?_ | refine r_e tbOk rfl rfl rfl rfl rfl ?_ | refine r_yes tbOk rfl rfl rfl rfl rfl rfl ?_ | refine w_no rfl rfl (lookO_spec rfl) rfl rfl rfl ?_ | refine w_un rfl rfl (lookO_spec rfl) rfl rfl ?_) | ((with_reducible refine w_drw ?_); first | refine rx_q tbOk rfl rfl rfl rfl ?_ | refine rx_e tbOk rfl rfl rfl rfl rfl ?_ | refine rx_yes tbOk rfl rfl rfl rfl rfl rfl ?_ | refine x_no rfl rfl (lookO_spec rfl) rfl rfl rfl ?_ | refine x_un rfl rfl (lookO_spec rfl) rfl rfl ?_) | ((first | refine aw_ways rfl ?_ ?_ | refine r_split rfl rfl rfl ?_ ?_) <;> intro hg_ <;> fail_if_success (exact Bool.noConfusion hg_)) <;> (try simp only [prn] at hg_) <;> (try first | contradiction | (exfalso; omega)))
    refine aw_loopI (fun k : Nat => k ≤ xs.length ∧ xs.take k = ys.take k) (fun k => mkS 26 [(5, .one (.r true (int k))), (0, .one (.r false (row n1 1 (ints xs)))), (1, .one (.r false (row n2 1 (ints ys))))] []) (fun k => xs.length - k) 0 ⟨Nat.zero_le _, rfl⟩ (by (refine weak_ren [] rfl ?_ ?_ <;> repeat' (first | exact trivial | refine subR_cons rfl ?_ ?_ | refine subHR_cons rfl ?_ ?_ | rfl | (refine d_int ?_; (first | rfl | omega | (rw [IntWalk.i64_in _ (by omega)] <;> omega) | (simp; done) | (simp; omega))) | (refine d_bool ?_; (first | (simp_all; done) | (rw [Bool.eq_iff_iff]; simp_all; done) | (rw [Bool.eq_iff_iff]; simp_all; omega) | (rw [Bool.eq_iff_iff]; simp; omega)))))) ?_
    rintro k ⟨hk, hT⟩
    by_cases hlt : k < xs.length
    · have hix := ints_at (xs := xs) hlt
      have hlt2 : k < ys.length := by omega
      have hix2 := ints_at (xs := ys) hlt2
      have h1 : xs[k] = ys[k] → xs.take (k + 1) = ys.take (k + 1) := fun h => by
        rw [List.take_succ_eq_append_getElem hlt, List.take_succ_eq_append_getElem hlt2, hT, h]
      have h2 : xs[k] ≠ ys[k] → decide (xs = ys) = false := fun h => decide_eq_false (fun e => h (by subst e; rfl))
      generalize xs[k] = v at *
      generalize ys[k] = u at *
      have hw : IntKind.i64.wrap ((k : Int) + 1) = ((k + 1 : Nat) : Int) := by rw [IntWalk.i64_in _ (by omega)]; omega
      repeat' (first | (with_reducible first | refine aw_seq ?_ | refine thn_normal ?_ | refine thn_ret ?_ | refine thn_exit ?_ | refine blk_normal ?_ | refine blk_ret ?_ | refine blk_hit ?_ | refine blk_miss rfl ?_ | refine aw_block ?_ | refine aw_ret ?_ | refine aw_skip ?_ | refine aw_exit ?_ | refine w_nil ?_ | refine x_nil (by kernel_rfl) ?_) | refine aw_region ?_ | refine aw_region_draw (by kernel_rfl) ?_ | refine aw_yes rfl ?_ | refine aw_no rfl ?_ | ((with_reducible refine w_seq ?_); first | refine r_q tbOk rfl rfl rfl rfl ?_ | refine r_e tbOk rfl rfl rfl rfl rfl ?_ | refine r_yes tbOk rfl rfl rfl rfl rfl rfl ?_ | refine w_no rfl rfl (lookO_spec rfl) rfl rfl rfl ?_ | refine w_un rfl rfl (lookO_spec rfl) rfl rfl ?_) | ((with_reducible refine w_drw ?_); first | refine rx_q tbOk rfl rfl rfl rfl ?_ | refine rx_e tbOk rfl rfl rfl rfl rfl ?_ | refine rx_yes tbOk rfl rfl rfl rfl rfl rfl ?_ | refine x_no rfl rfl (lookO_spec rfl) rfl rfl rfl ?_ | refine x_un rfl rfl (lookO_spec rfl) rfl rfl ?_) | ((first | refine' w_q rfl rfl ?xa rfl ?_ | refine' v_q rfl rfl ?xa rfl ?_ | refine' w_yes rfl rfl (lookO_spec rfl) rfl ?xa rfl ?_ | refine' v_yes rfl rfl (lookO_spec rfl) rfl ?xa rfl ?_); case xa => exact k_index tbOk rfl rfl rfl rfl (by omega) (by first | exact hix | exact hix2)) | ((first | refine aw_ways rfl ?_ ?_ | refine r_split rfl rfl rfl ?_ ?_) <;> intro hg_ <;> fail_if_success (exact Bool.noConfusion hg_)) <;> (try simp only [prn] at hg_) <;> (try first | contradiction | (exfalso; omega)))
      all_goals first
        | exact ⟨k + 1, ⟨by omega, h1 (by simpa using hg_)⟩, by (refine weak_ren [] rfl ?_ ?_ <;> repeat' (first | exact trivial | refine subR_cons rfl ?_ ?_ | refine subHR_cons rfl ?_ ?_ | rfl | (refine d_int ?_; (first | rfl | omega | (rw [IntWalk.i64_in _ (by omega)] <;> omega) | (simp; done) | (simp; omega))) | (refine d_bool ?_; (first | (simp_all; done) | (rw [Bool.eq_iff_iff]; simp_all; done) | (rw [Bool.eq_iff_iff]; simp_all; omega) | (rw [Bool.eq_iff_iff]; simp; omega))) | exact d_int hw)), by omega⟩
        | (refine ret_tmp rfl (dres_bool ?_); rw [h2 (by simpa using hg_)]; done)
        | trace_state
    · have hE : decide (xs = ys) = true := decide_eq_true (by
        rw [List.take_of_length_le (by omega), List.take_of_length_le (by omega)] at hT; exact hT)
      rw [hE]
      repeat' (first | (with_reducible first | refine aw_seq ?_ | refine thn_normal ?_ | refine thn_ret ?_ | refine thn_exit ?_ | refine blk_normal ?_ | refine blk_ret ?_ | refine blk_hit ?_ | refine blk_miss rfl ?_ | refine aw_block ?_ | refine aw_ret ?_ | refine aw_skip ?_ | refine aw_exit ?_ | refine w_nil ?_ | refine x_nil (by kernel_rfl) ?_) | refine aw_region ?_ | refine aw_region_draw (by kernel_rfl) ?_ | refine aw_yes rfl ?_ | refine aw_no rfl ?_ | ((with_reducible refine w_seq ?_); first | refine r_q tbOk rfl rfl rfl rfl ?_ | refine r_e tbOk rfl rfl rfl rfl rfl ?_ | refine r_yes tbOk rfl rfl rfl rfl rfl rfl ?_ | refine w_no rfl rfl (lookO_spec rfl) rfl rfl rfl ?_ | refine w_un rfl rfl (lookO_spec rfl) rfl rfl ?_) | ((with_reducible refine w_drw ?_); first | refine rx_q tbOk rfl rfl rfl rfl ?_ | refine rx_e tbOk rfl rfl rfl rfl rfl ?_ | refine rx_yes tbOk rfl rfl rfl rfl rfl rfl ?_ | refine x_no rfl rfl (lookO_spec rfl) rfl rfl rfl ?_ | refine x_un rfl rfl (lookO_spec rfl) rfl rfl ?_) | ((first | refine aw_ways rfl ?_ ?_ | refine r_split rfl rfl rfl ?_ ?_) <;> intro hg_ <;> fail_if_success (exact Bool.noConfusion hg_)) <;> (try simp only [prn] at hg_) <;> (try first | contradiction | (exfalso; omega)))
      all_goals first
        | exact ret_tmp rfl (dres_bool rfl)
        | trace_state
  · have hE : decide (xs = ys) = false := decide_eq_false (fun e => hn (by rw [e]))
    rw [hE]
    refine fn_of (l := [.tmp 4]) Tryd.func13 (by kernel_rfl) rfl Tryd.ntmps13 rfl rfl ?_; simp only [argEnv, P0.d, Nat.reduceAdd]
    repeat' (first | (with_reducible first | refine aw_seq ?_ | refine thn_normal ?_ | refine thn_ret ?_ | refine thn_exit ?_ | refine blk_normal ?_ | refine blk_ret ?_ | refine blk_hit ?_ | refine blk_miss rfl ?_ | refine aw_block ?_ | refine aw_ret ?_ | refine aw_skip ?_ | refine aw_exit ?_ | refine w_nil ?_ | refine x_nil (by kernel_rfl) ?_) | refine aw_region ?_ | refine aw_region_draw (by kernel_rfl) ?_ | refine aw_yes rfl ?_ | refine aw_no rfl ?_ | ((with_reducible refine w_seq ?_); first | refine r_q tbOk rfl rfl rfl rfl ?_ | refine r_e tbOk rfl rfl rfl rfl rfl ?_ | refine r_yes tbOk rfl rfl rfl rfl rfl rfl ?_ | refine w_no rfl rfl (lookO_spec rfl) rfl rfl rfl ?_ | refine w_un rfl rfl (lookO_spec rfl) rfl rfl ?_) | ((with_reducible refine w_drw ?_); first | refine rx_q tbOk rfl rfl rfl rfl ?_ | refine rx_e tbOk rfl rfl rfl rfl rfl ?_ | refine rx_yes tbOk rfl rfl rfl rfl rfl rfl ?_ | refine x_no rfl rfl (lookO_spec rfl) rfl rfl rfl ?_ | refine x_un rfl rfl (lookO_spec rfl) rfl rfl ?_) | ((first | refine aw_ways rfl ?_ ?_ | refine r_split rfl rfl rfl ?_ ?_) <;> intro hg_ <;> fail_if_success (exact Bool.noConfusion hg_)) <;> (try simp only [prn] at hg_) <;> (try first | contradiction | (exfalso; omega)))
    all_goals first
      | exact ret_tmp rfl (dres_bool rfl)
      | (exfalso; omega)
      | trace_state
end Go.Proofs.YtfdaoepbdolgiaaDoor.Abs
