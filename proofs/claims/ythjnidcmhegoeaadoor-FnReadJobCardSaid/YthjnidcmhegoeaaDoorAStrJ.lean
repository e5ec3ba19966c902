/- Texts of jobs by states: ReadJob of the reference and of the program. No statement of the seat is proved here. -/
import Derived.Test.YthjnidcmhegoeaaDoorTy
import Derived.Lib.Hide
import Derived.Test.YthjnidcmhegoeaaDoorAStrF
import Derived.Test.YthjnidcmhegoeaaDoorAStrI
set_option linter.unusedSimpArgs false
set_option linter.unusedVariables false
namespace Go.Proofs.YthjnidcmhegoeaaDoor.Abs
open Go.RowKit
open R (val row ref)

open Go.Lib (decDigits decDigits_one hasPrefix)
/-- The text that the reference writes for a candidate. -/
def candT (k n w : Int) : List UInt8 := if jobOk k (if k = 1 ∨ k = 2 then n else 0) (if k = 4 ∨ k = 6 then n else 0) w = true then jobB k (if k = 1 ∨ k = 2 then n else 0) (if k = 4 ∨ k = 6 then n else 0) w else []
theorem f_candT (k n w s r : Int) (hs : s = if k = 1 ∨ k = 2 then n else 0) (hr : r = if k = 4 ∨ k = 6 then n else 0) : Fn Tryd.prog 11 [jobP k s r w] (.v (strP (candT k n w))) := by
  unfold candT
  rw [← hs, ← hr]
  cases hj : jobOk k s r w with
  | true => rw [if_pos rfl]; exact f_specTextY k s r w hj
  | false => rw [if_neg (by simp)]; exact f_specTextN k s r w hj
set_option maxRecDepth 100000 in
set_option maxHeartbeats 8000000 in
theorem f_specRead (l : List UInt8) (hit : Int → Int → Int → Bool) (pend : Int → Int → Int → Prop) (R : Int × Int × Int × Int) (B : Bool) (hne : (!(l == [])) = true)
    (hT : ∀ k n w, 1 ≤ k → k ≤ 6 → 0 ≤ n → n ≤ 20 → 1 ≤ w → w ≤ 6 → pend k n w → (candT k n w == l) = hit k n w)
    (hH : ∀ k n w, 1 ≤ k → k ≤ 6 → 0 ≤ n → n ≤ 20 → 1 ≤ w → w ≤ 6 → pend k n w → hit k n w = true → R = (k, (if k = 1 ∨ k = 2 then n else 0), (if k = 4 ∨ k = 6 then n else 0), w) ∧ B = true)
    (hW : ∀ k n w, 1 ≤ k → k ≤ 6 → 0 ≤ n → n ≤ 20 → 1 ≤ w → w ≤ 6 → pend k n w → hit k n w = false → pend k n (w + 1))
    (hN : ∀ k n, pend k n 7 → pend k (n + 1) 1) (hK : ∀ k, pend k 21 1 → pend (k + 1) 0 1) (h0 : pend 1 0 1) (hE : pend 7 0 1 → R = (0, 0, 0, 0) ∧ B = false) :
    Fn Tryd.prog 19 [strP l] (.tup [jobQ R, .one (bool B)]) := by
  refine fn_of (l := [.cell 2 29, .tmp 3]) Tryd.func19 (by kernel_rfl) rfl Tryd.ntmps19 rfl rfl ?_; simp only [argEnv, P0.d, Nat.reduceAdd, jobQ, jobP]
  repeat' (first | (with_reducible first | refine aw_seq ?_ | refine thn_normal ?_ | refine thn_ret ?_ | refine thn_exit ?_ | refine blk_normal ?_ | refine blk_ret ?_ | refine blk_hit ?_ | refine blk_miss rfl ?_ | refine aw_block ?_ | refine aw_ret ?_ | refine aw_skip ?_ | refine aw_exit ?_ | refine w_nil ?_ | refine x_nil (by kernel_rfl) ?_) | refine aw_region ?_ | refine aw_region_draw (by kernel_rfl) ?_ | refine aw_yes rfl ?_ | refine aw_no rfl ?_ | ((with_reducible refine w_seq ?_); first | refine r_q tbOk rfl rfl rfl rfl ?_ | refine r_e tbOk rfl rfl rfl rfl rfl ?_ | refine r_yes tbOk rfl rfl rfl rfl rfl rfl ?_ | refine w_no rfl rfl (lookO_spec rfl) rfl rfl rfl ?_ | refine w_un rfl rfl (lookO_spec rfl) rfl rfl ?_) | ((with_reducible refine w_drw ?_); first | refine rx_q tbOk rfl rfl rfl rfl ?_ | refine rx_e tbOk rfl rfl rfl rfl rfl ?_ | refine rx_yes tbOk rfl rfl rfl rfl rfl rfl ?_ | refine x_no rfl rfl (lookO_spec rfl) rfl rfl rfl ?_ | refine x_un rfl rfl (lookO_spec rfl) rfl rfl ?_) | ((first | refine aw_ways rfl ?_ ?_ | refine r_split rfl rfl rfl ?_ ?_) <;> intro hg_ <;> fail_if_success (exact Bool.noConfusion hg_)) <;> (try simp only [prn] at hg_) <;> (try first | contradiction | (exfalso; omega)))
  obtain ⟨F, hF⟩ : ∃ F : Nat → St, ∀ i : Nat, F i = mkS 47 [(4, .one (.r true (int ((i : Int) + 1)))), (2, .one (.ptr 2 0 0 0)), (0, .one (.r false (val (strV l))))] [(2, .var 29 [.r true (int 0), .r true (int 0), .r true (int 0), .r true (int 0)])] := ⟨_, fun _ => rfl⟩
  refine aw_loopI (fun i : Nat => i ≤ 6 ∧ pend ((i : Int) + 1) 0 1) F (fun i => 6 - i) 0 ⟨by omega, h0⟩ (by rw [hF]; (refine weak_ren [] rfl ?_ ?_ <;> repeat' (first | exact trivial | refine subR_cons rfl ?_ ?_ | refine subHR_cons rfl ?_ ?_ | rfl | (refine d_int ?_; (first | rfl | omega | (rw [IntWalk.i64_in _ (by omega)] <;> omega) | (simp; done) | (simp; omega))) | (refine d_bool ?_; (first | (simp_all; done) | (rw [Bool.eq_iff_iff]; simp_all; done) | (rw [Bool.eq_iff_iff]; simp_all; omega) | (rw [Bool.eq_iff_iff]; simp; omega)))))) ?_
  rintro i ⟨hi, hp⟩
  rw [hF]
  by_cases hlt : i < 6
  · have hfin : ∀ s' : St, Weak s' (F (i + 1)) → pend ((i : Int) + 1) 21 1 → ∃ x' : Nat, (x' ≤ 6 ∧ pend ((x' : Int) + 1) 0 1) ∧ Weak s' (F x') ∧ 6 - x' < 6 - i := fun s' h hq => ⟨i + 1, ⟨by omega, hK _ hq⟩, h, by omega⟩
    rw [hF (i + 1)] at hfin
    have hw1 : IntKind.i64.wrap ((i : Int) + 1 + 1) = ((i + 1 : Nat) : Int) + 1 := by rw [IntWalk.i64_in _ (by omega)]; omega
    clear hF
    repeat' (first | (with_reducible first | refine aw_seq ?_ | refine thn_normal ?_ | refine thn_ret ?_ | refine thn_exit ?_ | refine blk_normal ?_ | refine blk_ret ?_ | refine blk_hit ?_ | refine blk_miss rfl ?_ | refine aw_block ?_ | refine aw_ret ?_ | refine aw_skip ?_ | refine aw_exit ?_ | refine w_nil ?_ | refine x_nil (by kernel_rfl) ?_) | refine aw_region ?_ | refine aw_region_draw (by kernel_rfl) ?_ | refine aw_yes rfl ?_ | refine aw_no rfl ?_ | ((with_reducible refine w_seq ?_); first | refine r_q tbOk rfl rfl rfl rfl ?_ | refine r_e tbOk rfl rfl rfl rfl rfl ?_ | refine r_yes tbOk rfl rfl rfl rfl rfl rfl ?_ | refine w_no rfl rfl (lookO_spec rfl) rfl rfl rfl ?_ | refine w_un rfl rfl (lookO_spec rfl) rfl rfl ?_) | ((with_reducible refine w_drw ?_); first | refine rx_q tbOk rfl rfl rfl rfl ?_ | refine rx_e tbOk rfl rfl rfl rfl rfl ?_ | refine rx_yes tbOk rfl rfl rfl rfl rfl rfl ?_ | refine x_no rfl rfl (lookO_spec rfl) rfl rfl rfl ?_ | refine x_un rfl rfl (lookO_spec rfl) rfl rfl ?_) | ((first | refine aw_ways rfl ?_ ?_ | refine r_split rfl rfl rfl ?_ ?_) <;> intro hg_ <;> fail_if_success (exact Bool.noConfusion hg_)) <;> (try simp only [prn] at hg_) <;> (try first | contradiction | (exfalso; omega)))
    all_goals first
      | (exfalso; omega)
      | skip
    obtain ⟨G, hG⟩ : ∃ G : Nat → St, ∀ j : Nat, G j = mkS 47 [(5, .one (.r true (int (j : Int)))), (4, .one (.r true (int ((i : Int) + 1)))), (2, .one (.ptr 2 0 0 0)), (0, .one (.r false (val (strV l))))] [(2, .var 29 [.r true (int 0), .r true (int 0), .r true (int 0), .r true (int 0)])] := ⟨_, fun _ => rfl⟩
    refine aw_loopI (fun j : Nat => j ≤ 21 ∧ pend ((i : Int) + 1) j 1) G (fun j => 21 - j) 0 ⟨by omega, hp⟩ (by rw [hG]; (refine weak_ren [] rfl ?_ ?_ <;> repeat' (first | exact trivial | refine subR_cons rfl ?_ ?_ | refine subHR_cons rfl ?_ ?_ | rfl | (refine d_int ?_; (first | rfl | omega | (rw [IntWalk.i64_in _ (by omega)] <;> omega) | (simp; done) | (simp; omega))) | (refine d_bool ?_; (first | (simp_all; done) | (rw [Bool.eq_iff_iff]; simp_all; done) | (rw [Bool.eq_iff_iff]; simp_all; omega) | (rw [Bool.eq_iff_iff]; simp; omega)))))) ?_
    rintro j ⟨hj, hp⟩
    rw [hG]
    by_cases hjl : j < 21
    · have hfin2 : ∀ s' : St, Weak s' (G (j + 1)) → pend ((i : Int) + 1) j 7 → ∃ x' : Nat, (x' ≤ 21 ∧ pend ((i : Int) + 1) x' 1) ∧ Weak s' (G x') ∧ 21 - x' < 21 - j := fun s' h hq => ⟨j + 1, ⟨by omega, hN _ _ hq⟩, h, by omega⟩
      rw [hG (j + 1)] at hfin2
      have hw2 : IntKind.i64.wrap ((j : Int) + 1) = ((j + 1 : Nat) : Int) := by rw [IntWalk.i64_in _ (by omega)]; omega
      clear hG hfin
      repeat' (first | (with_reducible first | refine aw_seq ?_ | refine thn_normal ?_ | refine thn_ret ?_ | refine thn_exit ?_ | refine blk_normal ?_ | refine blk_ret ?_ | refine blk_hit ?_ | refine blk_miss rfl ?_ | refine aw_block ?_ | refine aw_ret ?_ | refine aw_skip ?_ | refine aw_exit ?_ | refine w_nil ?_ | refine x_nil (by kernel_rfl) ?_) | refine aw_region ?_ | refine aw_region_draw (by kernel_rfl) ?_ | refine aw_yes rfl ?_ | refine aw_no rfl ?_ | ((with_reducible refine w_seq ?_); first | refine r_q tbOk rfl rfl rfl rfl ?_ | refine r_e tbOk rfl rfl rfl rfl rfl ?_ | refine r_yes tbOk rfl rfl rfl rfl rfl rfl ?_ | refine w_no rfl rfl (lookO_spec rfl) rfl rfl rfl ?_ | refine w_un rfl rfl (lookO_spec rfl) rfl rfl ?_) | ((with_reducible refine w_drw ?_); first | refine rx_q tbOk rfl rfl rfl rfl ?_ | refine rx_e tbOk rfl rfl rfl rfl rfl ?_ | refine rx_yes tbOk rfl rfl rfl rfl rfl rfl ?_ | refine x_no rfl rfl (lookO_spec rfl) rfl rfl rfl ?_ | refine x_un rfl rfl (lookO_spec rfl) rfl rfl ?_) | ((first | refine aw_ways rfl ?_ ?_ | refine r_split rfl rfl rfl ?_ ?_) <;> intro hg_ <;> fail_if_success (exact Bool.noConfusion hg_)) <;> (try simp only [prn] at hg_) <;> (try first | contradiction | (exfalso; omega)))
      all_goals first
        | (exfalso; omega)
        | skip
      obtain ⟨H, hH3⟩ : ∃ H : Nat → St, ∀ v : Nat, H v = mkS 47 [(6, .one (.r true (int ((v : Int) + 1)))), (5, .one (.r true (int (j : Int)))), (4, .one (.r true (int ((i : Int) + 1)))), (2, .one (.ptr 2 0 0 0)), (0, .one (.r false (val (strV l))))] [(2, .var 29 [.r true (int 0), .r true (int 0), .r true (int 0), .r true (int 0)])] := ⟨_, fun _ => rfl⟩
      refine aw_loopI (fun v : Nat => v ≤ 6 ∧ pend ((i : Int) + 1) j ((v : Int) + 1)) H (fun v => 6 - v) 0 ⟨by omega, hp⟩ (by rw [hH3]; (refine weak_ren [] rfl ?_ ?_ <;> repeat' (first | exact trivial | refine subR_cons rfl ?_ ?_ | refine subHR_cons rfl ?_ ?_ | rfl | (refine d_int ?_; (first | rfl | omega | (rw [IntWalk.i64_in _ (by omega)] <;> omega) | (simp; done) | (simp; omega))) | (refine d_bool ?_; (first | (simp_all; done) | (rw [Bool.eq_iff_iff]; simp_all; done) | (rw [Bool.eq_iff_iff]; simp_all; omega) | (rw [Bool.eq_iff_iff]; simp; omega)))))) ?_
      rintro v ⟨hv, hp⟩
      rw [hH3]
      by_cases hvl : v < 6
      · have hfin3 : ∀ s' : St, Weak s' (H (v + 1)) → hit ((i : Int) + 1) j ((v : Int) + 1) = false → ∃ x' : Nat, (x' ≤ 6 ∧ pend ((i : Int) + 1) j ((x' : Int) + 1)) ∧ Weak s' (H x') ∧ 6 - x' < 6 - v := fun s' h hq => ⟨v + 1, ⟨by omega, hW _ _ _ (by omega) (by omega) (by omega) (by omega) (by omega) (by omega) hp hq⟩, h, by omega⟩
        rw [hH3 (v + 1)] at hfin3
        have hw3 : IntKind.i64.wrap ((v : Int) + 1 + 1) = ((v + 1 : Nat) : Int) + 1 := by rw [IntWalk.i64_in _ (by omega)]; omega
        have hT1 := hT _ _ _ (by omega) (by omega) (by omega) (by omega) (by omega) (by omega) hp
        have hH1 := hH _ _ _ (by omega) (by omega) (by omega) (by omega) (by omega) (by omega) hp
        have KT := f_candT ((i : Int) + 1) j ((v : Int) + 1)
        clear hH3 hfin2 hT hH hW hN hK h0 hE hp
        have hk6 : (i : Int) + 1 = 1 ∨ (i : Int) + 1 = 2 ∨ (i : Int) + 1 = 3 ∨ (i : Int) + 1 = 4 ∨ (i : Int) + 1 = 5 ∨ (i : Int) + 1 = 6 := by omega
        generalize hit ((i : Int) + 1) j ((v : Int) + 1) = ht at *
        generalize (i : Int) + 1 = k at *
        have KT := KT _ _ rfl rfl
        generalize candT k j ((v : Int) + 1) = ct at *
        rcases hk6 with rfl | rfl | rfl | rfl | rfl | rfl
        all_goals
          simp only [reduceIte, Int.reduceEq, or_self, or_true, true_or, or_false, false_or] at KT hH1
          cases ht with
          | false =>
            clear hH1
            repeat' (first | (with_reducible first | refine aw_seq ?_ | refine thn_normal ?_ | refine thn_ret ?_ | refine thn_exit ?_ | refine blk_normal ?_ | refine blk_ret ?_ | refine blk_hit ?_ | refine blk_miss rfl ?_ | refine aw_block ?_ | refine aw_ret ?_ | refine aw_skip ?_ | refine aw_exit ?_ | refine w_nil ?_ | refine x_nil (by kernel_rfl) ?_) | refine aw_region ?_ | refine aw_region_draw (by kernel_rfl) ?_ | refine aw_yes rfl ?_ | refine aw_no rfl ?_ | ((with_reducible refine w_seq ?_); first | refine r_q tbOk rfl rfl rfl rfl ?_ | refine r_e tbOk rfl rfl rfl rfl rfl ?_ | refine r_yes tbOk rfl rfl rfl rfl rfl rfl ?_ | refine w_no rfl rfl (lookO_spec rfl) rfl rfl rfl ?_ | refine w_un rfl rfl (lookO_spec rfl) rfl rfl ?_) | ((with_reducible refine w_drw ?_); first | refine rx_q tbOk rfl rfl rfl rfl ?_ | refine rx_e tbOk rfl rfl rfl rfl rfl ?_ | refine rx_yes tbOk rfl rfl rfl rfl rfl rfl ?_ | refine x_no rfl rfl (lookO_spec rfl) rfl rfl rfl ?_ | refine x_un rfl rfl (lookO_spec rfl) rfl rfl ?_) | ((first | refine' w_q rfl rfl ?xa rfl ?_ | refine' v_q rfl rfl ?xa rfl ?_ | refine' w_yes rfl rfl (lookO_spec rfl) rfl ?xa rfl ?_ | refine' v_yes rfl rfl (lookO_spec rfl) rfl ?xa rfl ?_); case xa => first | exact k_call KT rfl ⟨asA_agg (evO_spec rfl) ⟨cAr_r, cAr_r, cAr_r, cAr_r, trivial⟩, trivial⟩ | exact k_strNeB hne rfl rfl rfl | exact k_strEqB hT1 rfl rfl rfl) | ((first | refine aw_ways rfl ?_ ?_ | refine r_split rfl rfl rfl ?_ ?_) <;> intro hg_ <;> fail_if_success (exact Bool.noConfusion hg_)) <;> (try simp only [prn] at hg_) <;> (try first | contradiction | (exfalso; omega)))
            all_goals first
              | (exfalso; omega)
              | (refine hfin3 _ ?_ rfl
                 (refine weak_ren [] rfl ?_ ?_ <;> repeat' (first | exact trivial | refine subR_cons rfl ?_ ?_ | refine subHR_cons rfl ?_ ?_ | rfl | (refine d_int ?_; (first | rfl | omega | (rw [IntWalk.i64_in _ (by omega)] <;> omega) | (simp; done) | (simp; omega))) | (refine d_bool ?_; (first | (simp_all; done) | (rw [Bool.eq_iff_iff]; simp_all; done) | (rw [Bool.eq_iff_iff]; simp_all; omega) | (rw [Bool.eq_iff_iff]; simp; omega))) | exact d_int hw3)))
              | trace_state
          | true =>
            obtain ⟨rfl, rfl⟩ := hH1 rfl
            clear hfin3
            repeat' (first | (with_reducible first | refine aw_seq ?_ | refine thn_normal ?_ | refine thn_ret ?_ | refine thn_exit ?_ | refine blk_normal ?_ | refine blk_ret ?_ | refine blk_hit ?_ | refine blk_miss rfl ?_ | refine aw_block ?_ | refine aw_ret ?_ | refine aw_skip ?_ | refine aw_exit ?_ | refine w_nil ?_ | refine x_nil (by kernel_rfl) ?_) | refine aw_region ?_ | refine aw_region_draw (by kernel_rfl) ?_ | refine aw_yes rfl ?_ | refine aw_no rfl ?_ | ((with_reducible refine w_seq ?_); first | refine r_q tbOk rfl rfl rfl rfl ?_ | refine r_e tbOk rfl rfl rfl rfl rfl ?_ | refine r_yes tbOk rfl rfl rfl rfl rfl rfl ?_ | refine w_no rfl rfl (lookO_spec rfl) rfl rfl rfl ?_ | refine w_un rfl rfl (lookO_spec rfl) rfl rfl ?_) | ((with_reducible refine w_drw ?_); first | refine rx_q tbOk rfl rfl rfl rfl ?_ | refine rx_e tbOk rfl rfl rfl rfl rfl ?_ | refine rx_yes tbOk rfl rfl rfl rfl rfl rfl ?_ | refine x_no rfl rfl (lookO_spec rfl) rfl rfl rfl ?_ | refine x_un rfl rfl (lookO_spec rfl) rfl rfl ?_) | ((first | refine' w_q rfl rfl ?xa rfl ?_ | refine' v_q rfl rfl ?xa rfl ?_ | refine' w_yes rfl rfl (lookO_spec rfl) rfl ?xa rfl ?_ | refine' v_yes rfl rfl (lookO_spec rfl) rfl ?xa rfl ?_); case xa => first | exact k_call KT rfl ⟨asA_agg (evO_spec rfl) ⟨cAr_r, cAr_r, cAr_r, cAr_r, trivial⟩, trivial⟩ | exact k_strNeB hne rfl rfl rfl | exact k_strEqB hT1 rfl rfl rfl) | ((first | refine aw_ways rfl ?_ ?_ | refine r_split rfl rfl rfl ?_ ?_) <;> intro hg_ <;> fail_if_success (exact Bool.noConfusion hg_)) <;> (try simp only [prn] at hg_) <;> (try first | contradiction | (exfalso; omega)))
            all_goals first
              | (exfalso; omega)
              | exact ret_2 (rv_cell rfl rfl (by (with_reducible first | exact ty2 | exact ty3 | exact ty4 | exact ty5 | exact ty9 | exact ty17 | exact ty19 | exact ty20 | exact ty23 | exact ty25 | exact ty27 | exact ty29 | exact ty32 | exact ty40 | exact ty42 | exact ty44 | exact ty46 | exact ty48 | exact ty63 | exact ty65 | exact ty67 | exact ty70 | exact ty74 | exact ty85 | exact ty89 | exact ty91 | exact ty92 | exact ty93 | exact ty104 | exact ty106 | exact ty107 | exact ty108 | exact ty112 | exact ty115 | exact ty120 | exact ty122 | exact ty124 | exact ty126 | exact ty131 | exact ty134 | exact ty137 | exact ty144 | exact ty154 | exact ty155 | exact ty161 | exact ty164 | exact ty165 | exact ty168)) rfl rfl rfl (dres_agg (by exact ⟨cres_val, cres_val, cres_val, cres_val, trivial⟩))) (rv_tmp rfl (dres_bool rfl))
              | trace_state
      · have hv6 : v = 6 := by omega
        subst hv6
        repeat' (first | (with_reducible first | refine aw_seq ?_ | refine thn_normal ?_ | refine thn_ret ?_ | refine thn_exit ?_ | refine blk_normal ?_ | refine blk_ret ?_ | refine blk_hit ?_ | refine blk_miss rfl ?_ | refine aw_block ?_ | refine aw_ret ?_ | refine aw_skip ?_ | refine aw_exit ?_ | refine w_nil ?_ | refine x_nil (by kernel_rfl) ?_) | refine aw_region ?_ | refine aw_region_draw (by kernel_rfl) ?_ | refine aw_yes rfl ?_ | refine aw_no rfl ?_ | ((with_reducible refine w_seq ?_); first | refine r_q tbOk rfl rfl rfl rfl ?_ | refine r_e tbOk rfl rfl rfl rfl rfl ?_ | refine r_yes tbOk rfl rfl rfl rfl rfl rfl ?_ | refine w_no rfl rfl (lookO_spec rfl) rfl rfl rfl ?_ | refine w_un rfl rfl (lookO_spec rfl) rfl rfl ?_) | ((with_reducible refine w_drw ?_); first | refine rx_q tbOk rfl rfl rfl rfl ?_ | refine rx_e tbOk rfl rfl rfl rfl rfl ?_ | refine rx_yes tbOk rfl rfl rfl rfl rfl rfl ?_ | refine x_no rfl rfl (lookO_spec rfl) rfl rfl rfl ?_ | refine x_un rfl rfl (lookO_spec rfl) rfl rfl ?_) | ((first | refine aw_ways rfl ?_ ?_ | refine r_split rfl rfl rfl ?_ ?_) <;> intro hg_ <;> fail_if_success (exact Bool.noConfusion hg_)) <;> (try simp only [prn] at hg_) <;> (try first | contradiction | (exfalso; omega)))
        all_goals first
          | (exfalso; omega)
          | (refine hfin2 _ ?_ hp
             (refine weak_ren [] rfl ?_ ?_ <;> repeat' (first | exact trivial | refine subR_cons rfl ?_ ?_ | refine subHR_cons rfl ?_ ?_ | rfl | (refine d_int ?_; (first | rfl | omega | (rw [IntWalk.i64_in _ (by omega)] <;> omega) | (simp; done) | (simp; omega))) | (refine d_bool ?_; (first | (simp_all; done) | (rw [Bool.eq_iff_iff]; simp_all; done) | (rw [Bool.eq_iff_iff]; simp_all; omega) | (rw [Bool.eq_iff_iff]; simp; omega))) | exact d_int hw2)))
          | trace_state
    · have hj21 : j = 21 := by omega
      subst hj21
      repeat' (first | (with_reducible first | refine aw_seq ?_ | refine thn_normal ?_ | refine thn_ret ?_ | refine thn_exit ?_ | refine blk_normal ?_ | refine blk_ret ?_ | refine blk_hit ?_ | refine blk_miss rfl ?_ | refine aw_block ?_ | refine aw_ret ?_ | refine aw_skip ?_ | refine aw_exit ?_ | refine w_nil ?_ | refine x_nil (by kernel_rfl) ?_) | refine aw_region ?_ | refine aw_region_draw (by kernel_rfl) ?_ | refine aw_yes rfl ?_ | refine aw_no rfl ?_ | ((with_reducible refine w_seq ?_); first | refine r_q tbOk rfl rfl rfl rfl ?_ | refine r_e tbOk rfl rfl rfl rfl rfl ?_ | refine r_yes tbOk rfl rfl rfl rfl rfl rfl ?_ | refine w_no rfl rfl (lookO_spec rfl) rfl rfl rfl ?_ | refine w_un rfl rfl (lookO_spec rfl) rfl rfl ?_) | ((with_reducible refine w_drw ?_); first | refine rx_q tbOk rfl rfl rfl rfl ?_ | refine rx_e tbOk rfl rfl rfl rfl rfl ?_ | refine rx_yes tbOk rfl rfl rfl rfl rfl rfl ?_ | refine x_no rfl rfl (lookO_spec rfl) rfl rfl rfl ?_ | refine x_un rfl rfl (lookO_spec rfl) rfl rfl ?_) | ((first | refine aw_ways rfl ?_ ?_ | refine r_split rfl rfl rfl ?_ ?_) <;> intro hg_ <;> fail_if_success (exact Bool.noConfusion hg_)) <;> (try simp only [prn] at hg_) <;> (try first | contradiction | (exfalso; omega)))
      all_goals first
        | (exfalso; omega)
        | (refine hfin _ ?_ hp
           (refine weak_ren [] rfl ?_ ?_ <;> repeat' (first | exact trivial | refine subR_cons rfl ?_ ?_ | refine subHR_cons rfl ?_ ?_ | rfl | (refine d_int ?_; (first | rfl | omega | (rw [IntWalk.i64_in _ (by omega)] <;> omega) | (simp; done) | (simp; omega))) | (refine d_bool ?_; (first | (simp_all; done) | (rw [Bool.eq_iff_iff]; simp_all; done) | (rw [Bool.eq_iff_iff]; simp_all; omega) | (rw [Bool.eq_iff_iff]; simp; omega))) | exact d_int hw1)))
        | trace_state
  · have hi6 : i = 6 := by omega
    subst hi6
    obtain ⟨rfl, rfl⟩ := hE hp
    clear hF
    repeat' (first | (with_reducible first | refine aw_seq ?_ | refine thn_normal ?_ | refine thn_ret ?_ | refine thn_exit ?_ | refine blk_normal ?_ | refine blk_ret ?_ | refine blk_hit ?_ | refine blk_miss rfl ?_ | refine aw_block ?_ | refine aw_ret ?_ | refine aw_skip ?_ | refine aw_exit ?_ | refine w_nil ?_ | refine x_nil (by kernel_rfl) ?_) | refine aw_region ?_ | refine aw_region_draw (by kernel_rfl) ?_ | refine aw_yes rfl ?_ | refine aw_no rfl ?_ | ((with_reducible refine w_seq ?_); first | refine r_q tbOk rfl rfl rfl rfl ?_ | refine r_e tbOk rfl rfl rfl rfl rfl ?_ | refine r_yes tbOk rfl rfl rfl rfl rfl rfl ?_ | refine w_no rfl rfl (lookO_spec rfl) rfl rfl rfl ?_ | refine w_un rfl rfl (lookO_spec rfl) rfl rfl ?_) | ((with_reducible refine w_drw ?_); first | refine rx_q tbOk rfl rfl rfl rfl ?_ | refine rx_e tbOk rfl rfl rfl rfl rfl ?_ | refine rx_yes tbOk rfl rfl rfl rfl rfl rfl ?_ | refine x_no rfl rfl (lookO_spec rfl) rfl rfl rfl ?_ | refine x_un rfl rfl (lookO_spec rfl) rfl rfl ?_) | ((first | refine aw_ways rfl ?_ ?_ | refine r_split rfl rfl rfl ?_ ?_) <;> intro hg_ <;> fail_if_success (exact Bool.noConfusion hg_)) <;> (try simp only [prn] at hg_) <;> (try first | contradiction | (exfalso; omega)))
    all_goals first
      | (exfalso; omega)
      | exact ret_2 (rv_cell rfl rfl (by (with_reducible first | exact ty2 | exact ty3 | exact ty4 | exact ty5 | exact ty9 | exact ty17 | exact ty19 | exact ty20 | exact ty23 | exact ty25 | exact ty27 | exact ty29 | exact ty32 | exact ty40 | exact ty42 | exact ty44 | exact ty46 | exact ty48 | exact ty63 | exact ty65 | exact ty67 | exact ty70 | exact ty74 | exact ty85 | exact ty89 | exact ty91 | exact ty92 | exact ty93 | exact ty104 | exact ty106 | exact ty107 | exact ty108 | exact ty112 | exact ty115 | exact ty120 | exact ty122 | exact ty124 | exact ty126 | exact ty131 | exact ty134 | exact ty137 | exact ty144 | exact ty154 | exact ty155 | exact ty161 | exact ty164 | exact ty165 | exact ty168)) rfl rfl rfl (dres_agg (by exact ⟨cres_val, cres_val, cres_val, cres_val, trivial⟩))) (rv_tmp rfl (dres_bool rfl))
      | trace_state
/-- What ReadJob says of a text. -/
noncomputable def readJ (l : List UInt8) : (Int × Int × Int × Int) × Bool := by
  classical
  exact if h : ∃ j : Int × Int × Int × Int, jobOk j.1 j.2.1 j.2.2.1 j.2.2.2 = true ∧ jobB j.1 j.2.1 j.2.2.1 j.2.2.2 = l then (h.choose, true) else ((0, 0, 0, 0), false)
theorem readJ_of {k s r n : Int} (h : jobOk k s r n = true) : readJ (jobB k s r n) = ((k, s, r, n), true) := by
  have hE : ∃ j : Int × Int × Int × Int, jobOk j.1 j.2.1 j.2.2.1 j.2.2.2 = true ∧ jobB j.1 j.2.1 j.2.2.1 j.2.2.2 = jobB k s r n := ⟨(k, s, r, n), h, rfl⟩
  unfold readJ
  rw [dif_pos hE]
  have hs := hE.choose_spec
  rw [show hE.choose = (k, s, r, n) from jobB_inj hs.1 h hs.2]
theorem readJ_no {l : List UInt8} (h : ¬ ∃ j : Int × Int × Int × Int, jobOk j.1 j.2.1 j.2.2.1 j.2.2.2 = true ∧ jobB j.1 j.2.1 j.2.2.1 j.2.2.2 = l) : readJ l = ((0, 0, 0, 0), false) := by unfold readJ; rw [dif_neg h]
theorem jobB_ne {k s r n : Int} : jobB k s r n ≠ [] := by
  unfold jobB withB
  intro h
  have := congrArg List.length h
  simp only [List.length_append, List.length_cons, List.length_nil] at this
  omega
theorem kinds {k s r n : Int} (h : jobOk k s r n = true) : (1 ≤ k ∧ k ≤ 6) ∧ (1 ≤ n ∧ n ≤ 6) ∧ ∃ m : Int, 0 ≤ m ∧ m ≤ 20 ∧ s = (if k = 1 ∨ k = 2 then m else 0) ∧ r = (if k = 4 ∨ k = 6 then m else 0) ∧ (¬ (k = 1 ∨ k = 2) → ¬ (k = 4 ∨ k = 6) → m = 0) := by
  refine ⟨jobOk_kind h, ?_⟩
  unfold jobOk progOk at h
  rw [Bool.and_eq_true, decide_eq_true_eq] at h
  obtain ⟨hp, hn⟩ := h
  refine ⟨hn, ?_⟩
  by_cases h1 : k = 1 ∨ k = 2
  · rw [if_pos h1, decide_eq_true_eq] at hp
    exact ⟨s, by omega, by omega, by rw [if_pos h1], by rw [if_neg (by omega)]; omega, fun h => absurd h1 h⟩
  · rw [if_neg h1] at hp
    by_cases h3 : k = 3 ∨ k = 5
    · rw [if_pos h3, decide_eq_true_eq] at hp
      exact ⟨0, by omega, by omega, by rw [if_neg h1]; omega, by rw [if_neg (by omega)]; omega, fun _ _ => rfl⟩
    · rw [if_neg h3] at hp
      by_cases h4 : k = 4 ∨ k = 6
      · rw [if_pos h4, decide_eq_true_eq] at hp
        exact ⟨r, by omega, by omega, by rw [if_neg h1]; omega, by rw [if_pos h4], fun _ h => absurd h4 h⟩
      · rw [if_neg h4] at hp; cases hp
theorem f_specReadJob (l : List UInt8) (hl : l ≠ []) : Fn Tryd.prog 19 [strP l] (.tup [jobQ (readJ l).1, .one (bool (readJ l).2)]) := by
  have hne : (!(l == [])) = true := by simpa using hl
  by_cases h : ∃ j : Int × Int × Int × Int, jobOk j.1 j.2.1 j.2.2.1 j.2.2.2 = true ∧ jobB j.1 j.2.1 j.2.2.1 j.2.2.2 = l
  · obtain ⟨⟨k0, s0, r0, w0⟩, hok, hB⟩ := h
    dsimp only at hok hB
    subst hB
    rw [readJ_of hok]
    obtain ⟨hk, hw, n0, hn0, hn20, hs, hr, hz⟩ := kinds hok
    refine f_specRead _ (fun k n w => decide (k = k0 ∧ n = n0 ∧ w = w0)) (fun k n w => k ≤ k0 ∧ (k = k0 → n ≤ n0 ∧ (n = n0 → w ≤ w0))) _ _ hne ?_ ?_ ?_ ?_ ?_ ?_ ?_
    · intro k n w h1 h2 h3 h4 h5 h6 hp
      rw [Bool.eq_iff_iff, beq_iff_eq, decide_eq_true_eq]
      unfold candT
      constructor
      · intro he
        generalize hs1 : (if k = 1 ∨ k = 2 then n else 0) = s1 at he
        generalize hr1 : (if k = 4 ∨ k = 6 then n else 0) = r1 at he
        split at he
        · rename_i hj
          have hi := jobB_inj hj hok he
          injection hi with e1 hi
          injection hi with e2 hi
          injection hi with e3 e4
          subst e1
          refine ⟨rfl, ?_, e4⟩
          rw [hs, ← hs1] at e2
          rw [hr, ← hr1] at e3
          by_cases c1 : k = 1 ∨ k = 2
          · rw [if_pos c1, if_pos c1] at e2; exact e2
          · by_cases c2 : k = 4 ∨ k = 6
            · rw [if_pos c2, if_pos c2] at e3; exact e3
            · have := hz c1 c2
              have := (hp.2 rfl).1
              omega
        · exact absurd he.symm jobB_ne
      · rintro ⟨rfl, rfl, rfl⟩
        rw [← hs, ← hr, if_pos hok]
    · intro k n w h1 h2 h3 h4 h5 h6 hp hh
      rw [decide_eq_true_eq] at hh
      obtain ⟨rfl, rfl, rfl⟩ := hh
      rw [← hs, ← hr]
      exact ⟨rfl, rfl⟩
    · intro k n w h1 h2 h3 h4 h5 h6 hp hh
      rw [decide_eq_false_iff_not] at hh
      refine ⟨hp.1, fun e => ⟨(hp.2 e).1, fun e2 => ?_⟩⟩
      have := (hp.2 e).2 e2
      rcases Classical.em (w = w0) with e3 | e3
      · exact absurd ⟨e, e2, e3⟩ hh
      · omega
    · intro k n hp
      refine ⟨hp.1, fun e => ?_⟩
      have h1 := (hp.2 e).1
      have h2 := (hp.2 e).2
      rcases Classical.em (n = n0) with e3 | e3
      · have := h2 e3; omega
      · exact ⟨by omega, fun _ => hw.1⟩
    · intro k hp
      have : k ≠ k0 := fun e => by have := (hp.2 e).1; omega
      have h1 := hp.1
      exact ⟨by omega, fun e => ⟨hn0, fun _ => hw.1⟩⟩
    · exact ⟨hk.1, fun e => ⟨hn0, fun _ => hw.1⟩⟩
    · intro hp
      have := hp.1
      omega
  · rw [readJ_no h]
    refine f_specRead _ (fun _ _ _ => false) (fun _ _ _ => True) _ _ hne ?_ ?_ ?_ ?_ ?_ ?_ ?_
    · intro k n w h1 h2 h3 h4 h5 h6 _
      rw [beq_eq_false_iff_ne]
      intro he
      unfold candT at he
      generalize (if k = 1 ∨ k = 2 then n else 0) = s1 at he
      generalize (if k = 4 ∨ k = 6 then n else 0) = r1 at he
      split at he
      · rename_i hj
        exact h ⟨(k, s1, r1, w), hj, he⟩
      · exact hl he.symm
    · intro k n w _ _ _ _ _ _ _ hh; cases hh
    · intros; trivial
    · intros; trivial
    · intros; trivial
    · trivial
    · intro _; exact ⟨rfl, rfl⟩
set_option maxRecDepth 100000 in
set_option maxHeartbeats 4000000 in
theorem f_specReadNil : Fn Tryd.prog 19 [strP []] (.tup [jobQ (readJ []).1, .one (bool (readJ []).2)]) := by
  rw [readJ_no (fun ⟨j, _, h⟩ => jobB_ne h)]
  have hne : (!(([] : List UInt8) == [])) = false := rfl
  refine fn_of (l := [.cell 2 29, .tmp 3]) Tryd.func19 (by kernel_rfl) rfl Tryd.ntmps19 rfl rfl ?_; simp only [argEnv, P0.d, Nat.reduceAdd, jobQ, jobP]
  repeat' (first | (with_reducible first | refine aw_seq ?_ | refine thn_normal ?_ | refine thn_ret ?_ | refine thn_exit ?_ | refine blk_normal ?_ | refine blk_ret ?_ | refine blk_hit ?_ | refine blk_miss rfl ?_ | refine aw_block ?_ | refine aw_ret ?_ | refine aw_skip ?_ | refine aw_exit ?_ | refine w_nil ?_ | refine x_nil (by kernel_rfl) ?_) | refine aw_region ?_ | refine aw_region_draw (by kernel_rfl) ?_ | refine aw_yes rfl ?_ | refine aw_no rfl ?_ | ((with_reducible refine w_seq ?_); first | refine r_q tbOk rfl rfl rfl rfl ?_ | refine r_e tbOk rfl rfl rfl rfl rfl ?_ | refine r_yes tbOk rfl rfl rfl rfl rfl rfl ?_ | refine w_no rfl rfl (lookO_spec rfl) rfl rfl rfl ?_ | refine w_un rfl rfl (lookO_spec rfl) rfl rfl ?_) | ((with_reducible refine w_drw ?_); first | refine rx_q tbOk rfl rfl rfl rfl ?_ | refine rx_e tbOk rfl rfl rfl rfl rfl ?_ | refine rx_yes tbOk rfl rfl rfl rfl rfl rfl ?_ | refine x_no rfl rfl (lookO_spec rfl) rfl rfl rfl ?_ | refine x_un rfl rfl (lookO_spec rfl) rfl rfl ?_) | ((first | refine aw_ways rfl ?_ ?_ | refine r_split rfl rfl rfl ?_ ?_) <;> intro hg_ <;> fail_if_success (exact Bool.noConfusion hg_)) <;> (try simp only [prn] at hg_) <;> (try first | contradiction | (exfalso; omega)))
  obtain ⟨F, hF⟩ : ∃ F : Nat → St, ∀ i : Nat, F i = mkS 47 [(4, .one (.r true (int ((i : Int) + 1)))), (2, .one (.ptr 2 0 0 0)), (0, .one (.r false (val (strV []))))] [(2, .var 29 [.r true (int 0), .r true (int 0), .r true (int 0), .r true (int 0)])] := ⟨_, fun _ => rfl⟩
  refine aw_loopI (fun i : Nat => i ≤ 6) F (fun i => 6 - i) 0 (by omega) (by rw [hF]; (refine weak_ren [] rfl ?_ ?_ <;> repeat' (first | exact trivial | refine subR_cons rfl ?_ ?_ | refine subHR_cons rfl ?_ ?_ | rfl | (refine d_int ?_; (first | rfl | omega | (rw [IntWalk.i64_in _ (by omega)] <;> omega) | (simp; done) | (simp; omega))) | (refine d_bool ?_; (first | (simp_all; done) | (rw [Bool.eq_iff_iff]; simp_all; done) | (rw [Bool.eq_iff_iff]; simp_all; omega) | (rw [Bool.eq_iff_iff]; simp; omega)))))) ?_
  rintro i hi
  rw [hF]
  by_cases hlt : i < 6
  · have hfin : ∀ s' : St, Weak s' (F (i + 1)) → ∃ x' : Nat, x' ≤ 6 ∧ Weak s' (F x') ∧ 6 - x' < 6 - i := fun s' h => ⟨i + 1, by omega, h, by omega⟩
    rw [hF (i + 1)] at hfin
    have hw1 : IntKind.i64.wrap ((i : Int) + 1 + 1) = ((i + 1 : Nat) : Int) + 1 := by rw [IntWalk.i64_in _ (by omega)]; omega
    clear hF
    repeat' (first | (with_reducible first | refine aw_seq ?_ | refine thn_normal ?_ | refine thn_ret ?_ | refine thn_exit ?_ | refine blk_normal ?_ | refine blk_ret ?_ | refine blk_hit ?_ | refine blk_miss rfl ?_ | refine aw_block ?_ | refine aw_ret ?_ | refine aw_skip ?_ | refine aw_exit ?_ | refine w_nil ?_ | refine x_nil (by kernel_rfl) ?_) | refine aw_region ?_ | refine aw_region_draw (by kernel_rfl) ?_ | refine aw_yes rfl ?_ | refine aw_no rfl ?_ | ((with_reducible refine w_seq ?_); first | refine r_q tbOk rfl rfl rfl rfl ?_ | refine r_e tbOk rfl rfl rfl rfl rfl ?_ | refine r_yes tbOk rfl rfl rfl rfl rfl rfl ?_ | refine w_no rfl rfl (lookO_spec rfl) rfl rfl rfl ?_ | refine w_un rfl rfl (lookO_spec rfl) rfl rfl ?_) | ((with_reducible refine w_drw ?_); first | refine rx_q tbOk rfl rfl rfl rfl ?_ | refine rx_e tbOk rfl rfl rfl rfl rfl ?_ | refine rx_yes tbOk rfl rfl rfl rfl rfl rfl ?_ | refine x_no rfl rfl (lookO_spec rfl) rfl rfl rfl ?_ | refine x_un rfl rfl (lookO_spec rfl) rfl rfl ?_) | ((first | refine aw_ways rfl ?_ ?_ | refine r_split rfl rfl rfl ?_ ?_) <;> intro hg_ <;> fail_if_success (exact Bool.noConfusion hg_)) <;> (try simp only [prn] at hg_) <;> (try first | contradiction | (exfalso; omega)))
    all_goals first
      | (exfalso; omega)
      | skip
    obtain ⟨G, hG⟩ : ∃ G : Nat → St, ∀ j : Nat, G j = mkS 47 [(5, .one (.r true (int (j : Int)))), (4, .one (.r true (int ((i : Int) + 1)))), (2, .one (.ptr 2 0 0 0)), (0, .one (.r false (val (strV []))))] [(2, .var 29 [.r true (int 0), .r true (int 0), .r true (int 0), .r true (int 0)])] := ⟨_, fun _ => rfl⟩
    refine aw_loopI (fun j : Nat => j ≤ 21) G (fun j => 21 - j) 0 (by omega) (by rw [hG]; (refine weak_ren [] rfl ?_ ?_ <;> repeat' (first | exact trivial | refine subR_cons rfl ?_ ?_ | refine subHR_cons rfl ?_ ?_ | rfl | (refine d_int ?_; (first | rfl | omega | (rw [IntWalk.i64_in _ (by omega)] <;> omega) | (simp; done) | (simp; omega))) | (refine d_bool ?_; (first | (simp_all; done) | (rw [Bool.eq_iff_iff]; simp_all; done) | (rw [Bool.eq_iff_iff]; simp_all; omega) | (rw [Bool.eq_iff_iff]; simp; omega)))))) ?_
    rintro j hj
    rw [hG]
    by_cases hjl : j < 21
    · have hfin2 : ∀ s' : St, Weak s' (G (j + 1)) → ∃ x' : Nat, x' ≤ 21 ∧ Weak s' (G x') ∧ 21 - x' < 21 - j := fun s' h => ⟨j + 1, by omega, h, by omega⟩
      rw [hG (j + 1)] at hfin2
      have hw2 : IntKind.i64.wrap ((j : Int) + 1) = ((j + 1 : Nat) : Int) := by rw [IntWalk.i64_in _ (by omega)]; omega
      clear hG hfin
      repeat' (first | (with_reducible first | refine aw_seq ?_ | refine thn_normal ?_ | refine thn_ret ?_ | refine thn_exit ?_ | refine blk_normal ?_ | refine blk_ret ?_ | refine blk_hit ?_ | refine blk_miss rfl ?_ | refine aw_block ?_ | refine aw_ret ?_ | refine aw_skip ?_ | refine aw_exit ?_ | refine w_nil ?_ | refine x_nil (by kernel_rfl) ?_) | refine aw_region ?_ | refine aw_region_draw (by kernel_rfl) ?_ | refine aw_yes rfl ?_ | refine aw_no rfl ?_ | ((with_reducible refine w_seq ?_); first | refine r_q tbOk rfl rfl rfl rfl ?_ | refine r_e tbOk rfl rfl rfl rfl rfl ?_ | refine r_yes tbOk rfl rfl rfl rfl rfl rfl ?_ | refine w_no rfl rfl (lookO_spec rfl) rfl rfl rfl ?_ | refine w_un rfl rfl (lookO_spec rfl) rfl rfl ?_) | ((with_reducible refine w_drw ?_); first | refine rx_q tbOk rfl rfl rfl rfl ?_ | refine rx_e tbOk rfl rfl rfl rfl rfl ?_ | refine rx_yes tbOk rfl rfl rfl rfl rfl rfl ?_ | refine x_no rfl rfl (lookO_spec rfl) rfl rfl rfl ?_ | refine x_un rfl rfl (lookO_spec rfl) rfl rfl ?_) | ((first | refine aw_ways rfl ?_ ?_ | refine r_split rfl rfl rfl ?_ ?_) <;> intro hg_ <;> fail_if_success (exact Bool.noConfusion hg_)) <;> (try simp only [prn] at hg_) <;> (try first | contradiction | (exfalso; omega)))
      all_goals first
        | (exfalso; omega)
        | skip
      obtain ⟨H, hH3⟩ : ∃ H : Nat → St, ∀ v : Nat, H v = mkS 47 [(6, .one (.r true (int ((v : Int) + 1)))), (5, .one (.r true (int (j : Int)))), (4, .one (.r true (int ((i : Int) + 1)))), (2, .one (.ptr 2 0 0 0)), (0, .one (.r false (val (strV []))))] [(2, .var 29 [.r true (int 0), .r true (int 0), .r true (int 0), .r true (int 0)])] := ⟨_, fun _ => rfl⟩
      refine aw_loopI (fun v : Nat => v ≤ 6) H (fun v => 6 - v) 0 (by omega) (by rw [hH3]; (refine weak_ren [] rfl ?_ ?_ <;> repeat' (first | exact trivial | refine subR_cons rfl ?_ ?_ | refine subHR_cons rfl ?_ ?_ | rfl | (refine d_int ?_; (first | rfl | omega | (rw [IntWalk.i64_in _ (by omega)] <;> omega) | (simp; done) | (simp; omega))) | (refine d_bool ?_; (first | (simp_all; done) | (rw [Bool.eq_iff_iff]; simp_all; done) | (rw [Bool.eq_iff_iff]; simp_all; omega) | (rw [Bool.eq_iff_iff]; simp; omega)))))) ?_
      rintro v hv
      rw [hH3]
      by_cases hvl : v < 6
      · have hfin3 : ∀ s' : St, Weak s' (H (v + 1)) → ∃ x' : Nat, x' ≤ 6 ∧ Weak s' (H x') ∧ 6 - x' < 6 - v := fun s' h => ⟨v + 1, by omega, h, by omega⟩
        rw [hH3 (v + 1)] at hfin3
        have hw3 : IntKind.i64.wrap ((v : Int) + 1 + 1) = ((v + 1 : Nat) : Int) + 1 := by rw [IntWalk.i64_in _ (by omega)]; omega
        clear hH3 hfin2
        repeat' (first | (with_reducible first | refine aw_seq ?_ | refine thn_normal ?_ | refine thn_ret ?_ | refine thn_exit ?_ | refine blk_normal ?_ | refine blk_ret ?_ | refine blk_hit ?_ | refine blk_miss rfl ?_ | refine aw_block ?_ | refine aw_ret ?_ | refine aw_skip ?_ | refine aw_exit ?_ | refine w_nil ?_ | refine x_nil (by kernel_rfl) ?_) | refine aw_region ?_ | refine aw_region_draw (by kernel_rfl) ?_ | refine aw_yes rfl ?_ | refine aw_no rfl ?_ | ((with_reducible refine w_seq ?_); first | refine r_q tbOk rfl rfl rfl rfl ?_ | refine r_e tbOk rfl rfl rfl rfl rfl ?_ | refine r_yes tbOk rfl rfl rfl rfl rfl rfl ?_ | refine w_no rfl rfl (lookO_spec rfl) rfl rfl rfl ?_ | refine w_un rfl rfl (lookO_spec rfl) rfl rfl ?_) | ((with_reducible refine w_drw ?_); first | refine rx_q tbOk rfl rfl rfl rfl ?_ | refine rx_e tbOk rfl rfl rfl rfl rfl ?_ | refine rx_yes tbOk rfl rfl rfl rfl rfl rfl ?_ | refine x_no rfl rfl (lookO_spec rfl) rfl rfl rfl ?_ | refine x_un rfl rfl (lookO_spec rfl) rfl rfl ?_) | ((first | refine' w_q rfl rfl ?xa rfl ?_ | refine' v_q rfl rfl ?xa rfl ?_ | refine' w_yes rfl rfl (lookO_spec rfl) rfl ?xa rfl ?_ | refine' v_yes rfl rfl (lookO_spec rfl) rfl ?xa rfl ?_); case xa => exact k_strNeB hne rfl rfl rfl) | ((first | refine aw_ways rfl ?_ ?_ | refine r_split rfl rfl rfl ?_ ?_) <;> intro hg_ <;> fail_if_success (exact Bool.noConfusion hg_)) <;> (try simp only [prn] at hg_) <;> (try first | contradiction | (exfalso; omega)))
        all_goals first
          | (exfalso; omega)
          | (refine hfin3 _ ?_
             (refine weak_ren [] rfl ?_ ?_ <;> repeat' (first | exact trivial | refine subR_cons rfl ?_ ?_ | refine subHR_cons rfl ?_ ?_ | rfl | (refine d_int ?_; (first | rfl | omega | (rw [IntWalk.i64_in _ (by omega)] <;> omega) | (simp; done) | (simp; omega))) | (refine d_bool ?_; (first | (simp_all; done) | (rw [Bool.eq_iff_iff]; simp_all; done) | (rw [Bool.eq_iff_iff]; simp_all; omega) | (rw [Bool.eq_iff_iff]; simp; omega))) | exact d_int hw3)))
          | trace_state
      · repeat' (first | (with_reducible first | refine aw_seq ?_ | refine thn_normal ?_ | refine thn_ret ?_ | refine thn_exit ?_ | refine blk_normal ?_ | refine blk_ret ?_ | refine blk_hit ?_ | refine blk_miss rfl ?_ | refine aw_block ?_ | refine aw_ret ?_ | refine aw_skip ?_ | refine aw_exit ?_ | refine w_nil ?_ | refine x_nil (by kernel_rfl) ?_) | refine aw_region ?_ | refine aw_region_draw (by kernel_rfl) ?_ | refine aw_yes rfl ?_ | refine aw_no rfl ?_ | ((with_reducible refine w_seq ?_); first | refine r_q tbOk rfl rfl rfl rfl ?_ | refine r_e tbOk rfl rfl rfl rfl rfl ?_ | refine r_yes tbOk rfl rfl rfl rfl rfl rfl ?_ | refine w_no rfl rfl (lookO_spec rfl) rfl rfl rfl ?_ | refine w_un rfl rfl (lookO_spec rfl) rfl rfl ?_) | ((with_reducible refine w_drw ?_); first | refine rx_q tbOk rfl rfl rfl rfl ?_ | refine rx_e tbOk rfl rfl rfl rfl rfl ?_ | refine rx_yes tbOk rfl rfl rfl rfl rfl rfl ?_ | refine x_no rfl rfl (lookO_spec rfl) rfl rfl rfl ?_ | refine x_un rfl rfl (lookO_spec rfl) rfl rfl ?_) | ((first | refine aw_ways rfl ?_ ?_ | refine r_split rfl rfl rfl ?_ ?_) <;> intro hg_ <;> fail_if_success (exact Bool.noConfusion hg_)) <;> (try simp only [prn] at hg_) <;> (try first | contradiction | (exfalso; omega)))
        all_goals first
          | (exfalso; omega)
          | (refine hfin2 _ ?_
             (refine weak_ren [] rfl ?_ ?_ <;> repeat' (first | exact trivial | refine subR_cons rfl ?_ ?_ | refine subHR_cons rfl ?_ ?_ | rfl | (refine d_int ?_; (first | rfl | omega | (rw [IntWalk.i64_in _ (by omega)] <;> omega) | (simp; done) | (simp; omega))) | (refine d_bool ?_; (first | (simp_all; done) | (rw [Bool.eq_iff_iff]; simp_all; done) | (rw [Bool.eq_iff_iff]; simp_all; omega) | (rw [Bool.eq_iff_iff]; simp; omega))) | exact d_int hw2)))
          | trace_state
    · repeat' (first | (with_reducible first | refine aw_seq ?_ | refine thn_normal ?_ | refine thn_ret ?_ | refine thn_exit ?_ | refine blk_normal ?_ | refine blk_ret ?_ | refine blk_hit ?_ | refine blk_miss rfl ?_ | refine aw_block ?_ | refine aw_ret ?_ | refine aw_skip ?_ | refine aw_exit ?_ | refine w_nil ?_ | refine x_nil (by kernel_rfl) ?_) | refine aw_region ?_ | refine aw_region_draw (by kernel_rfl) ?_ | refine aw_yes rfl ?_ | refine aw_no rfl ?_ | ((with_reducible refine w_seq ?_); first | refine r_q tbOk rfl rfl rfl rfl ?_ | refine r_e tbOk rfl rfl rfl rfl rfl ?_ | refine r_yes tbOk rfl rfl rfl rfl rfl rfl ?_ | refine w_no rfl rfl (lookO_spec rfl) rfl rfl rfl ?_ | refine w_un rfl rfl (lookO_spec rfl) rfl rfl ?_) | ((with_reducible refine w_drw ?_); first | refine rx_q tbOk rfl rfl rfl rfl ?_ | refine rx_e tbOk rfl rfl rfl rfl rfl ?_ | refine rx_yes tbOk rfl rfl rfl rfl rfl rfl ?_ | refine x_no rfl rfl (lookO_spec rfl) rfl rfl rfl ?_ | refine x_un rfl rfl (lookO_spec rfl) rfl rfl ?_) | ((first | refine aw_ways rfl ?_ ?_ | refine r_split rfl rfl rfl ?_ ?_) <;> intro hg_ <;> fail_if_success (exact Bool.noConfusion hg_)) <;> (try simp only [prn] at hg_) <;> (try first | contradiction | (exfalso; omega)))
      all_goals first
        | (exfalso; omega)
        | (refine hfin _ ?_
           (refine weak_ren [] rfl ?_ ?_ <;> repeat' (first | exact trivial | refine subR_cons rfl ?_ ?_ | refine subHR_cons rfl ?_ ?_ | rfl | (refine d_int ?_; (first | rfl | omega | (rw [IntWalk.i64_in _ (by omega)] <;> omega) | (simp; done) | (simp; omega))) | (refine d_bool ?_; (first | (simp_all; done) | (rw [Bool.eq_iff_iff]; simp_all; done) | (rw [Bool.eq_iff_iff]; simp_all; omega) | (rw [Bool.eq_iff_iff]; simp; omega))) | exact d_int hw1)))
        | trace_state
  · clear hF
    repeat' (first | (with_reducible first | refine aw_seq ?_ | refine thn_normal ?_ | refine thn_ret ?_ | refine thn_exit ?_ | refine blk_normal ?_ | refine blk_ret ?_ | refine blk_hit ?_ | refine blk_miss rfl ?_ | refine aw_block ?_ | refine aw_ret ?_ | refine aw_skip ?_ | refine aw_exit ?_ | refine w_nil ?_ | refine x_nil (by kernel_rfl) ?_) | refine aw_region ?_ | refine aw_region_draw (by kernel_rfl) ?_ | refine aw_yes rfl ?_ | refine aw_no rfl ?_ | ((with_reducible refine w_seq ?_); first | refine r_q tbOk rfl rfl rfl rfl ?_ | refine r_e tbOk rfl rfl rfl rfl rfl ?_ | refine r_yes tbOk rfl rfl rfl rfl rfl rfl ?_ | refine w_no rfl rfl (lookO_spec rfl) rfl rfl rfl ?_ | refine w_un rfl rfl (lookO_spec rfl) rfl rfl ?_) | ((with_reducible refine w_drw ?_); first | refine rx_q tbOk rfl rfl rfl rfl ?_ | refine rx_e tbOk rfl rfl rfl rfl rfl ?_ | refine rx_yes tbOk rfl rfl rfl rfl rfl rfl ?_ | refine x_no rfl rfl (lookO_spec rfl) rfl rfl rfl ?_ | refine x_un rfl rfl (lookO_spec rfl) rfl rfl ?_) | ((first | refine aw_ways rfl ?_ ?_ | refine r_split rfl rfl rfl ?_ ?_) <;> intro hg_ <;> fail_if_success (exact Bool.noConfusion hg_)) <;> (try simp only [prn] at hg_) <;> (try first | contradiction | (exfalso; omega)))
    all_goals first
      | (exfalso; omega)
      | exact ret_2 (rv_cell rfl rfl (by (with_reducible first | exact ty2 | exact ty3 | exact ty4 | exact ty5 | exact ty9 | exact ty17 | exact ty19 | exact ty20 | exact ty23 | exact ty25 | exact ty27 | exact ty29 | exact ty32 | exact ty40 | exact ty42 | exact ty44 | exact ty46 | exact ty48 | exact ty63 | exact ty65 | exact ty67 | exact ty70 | exact ty74 | exact ty85 | exact ty89 | exact ty91 | exact ty92 | exact ty93 | exact ty104 | exact ty106 | exact ty107 | exact ty108 | exact ty112 | exact ty115 | exact ty120 | exact ty122 | exact ty124 | exact ty126 | exact ty131 | exact ty134 | exact ty137 | exact ty144 | exact ty154 | exact ty155 | exact ty161 | exact ty164 | exact ty165 | exact ty168)) rfl rfl rfl (dres_agg (by exact ⟨cres_val, cres_val, cres_val, cres_val, trivial⟩))) (rv_tmp rfl (dres_bool rfl))
      | trace_state
theorem f_specReadAny (l : List UInt8) : Fn Tryd.prog 19 [strP l] (.tup [jobQ (readJ l).1, .one (bool (readJ l).2)]) := by
  by_cases h : l = []
  · subst h; exact f_specReadNil
  · exact f_specReadJob l h
end Go.Proofs.YthjnidcmhegoeaaDoor.Abs
