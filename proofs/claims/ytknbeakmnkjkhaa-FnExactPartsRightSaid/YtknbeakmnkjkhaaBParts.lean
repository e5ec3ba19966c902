/- PartsRight of the program by states. No statement of the seat is proved here. -/
import Derived.Test.YtknbeakmnkjkhaaTy
import Derived.Lib.Hide
import Derived.Test.YtknbeakmnkjkhaaBCosts
import Derived.Test.YtknbeakmnkjkhaaANear
set_option linter.unusedSimpArgs false
set_option linter.unusedVariables false
namespace Go.Proofs.Ytknbeakmnkjkhaa.Abs
open Go.RowKit
open R (val row ref)

theorem f_maskHasI (M : Nat) (v : Int) (hM : M < 4294967296) (h0 : 0 ≤ v) (hv : v ≤ 31) : Fn Try.prog 72 [mP M, iP v] (.v (.one (bool (M.testBit v.toNat)))) := by
  have := f_maskHas M v.toNat hM (by omega)
  rwa [show ((v.toNat : Nat) : Int) = v by omega] at this
/-- What the program asks of one vertex. -/
def pI (M : Nat) (NM : List Nat) (d f : Int → Int) (v : Int) : Bool :=
  if d v = v then decide (f v = -1) else !(decide (v < d v) || !hasV M (d v) || !hasV M (f v) || !(NM.getD v.toNat 0).testBit (f v).toNat) && (decide (d (f v) = d v) && Costs.climb M (d v) f M (f v))
def partE (d : Int → Int) (e : E3) : Bool := decide (d e.1 = d e.2.1)
def partsOk (m : Int) (es : List E3) (vs fs : List Int) : Bool :=
  gOk m es && decide ((vs.length : Int) = m) && decide ((fs.length : Int) = m) && (es.all (partE (dV vs)) && (List.range vs.length).all (fun v : Nat => pI vs.length (nearM vs.length es) (dV vs) (dV fs) v))
set_option maxRecDepth 100000 in
set_option maxHeartbeats 8000000 in
theorem f_implPartsRight (m : Int) (nil nil1 nil2 : Bool) (es : List E3) (vs fs : List Int) (hl : es.length ≤ 1048576) (hlv : vs.length ≤ 1048576) (hlf : fs.length ≤ 1048576) :
    Fn Try.prog 29 [graphP m nil es, .one (row nil1 1 (ints vs)), .one (row nil2 1 (ints fs))] (.v (.one (bool (partsOk m es vs fs)))) := by
  have hlen := edges_len es
  have hlen2 := ints_len vs
  have hlen3 := ints_len fs
  have hlm : es.length ≤ maxLen := by simp only [maxLen]; omega
  refine fn_of (l := [.tmp 6]) Try.func29 (by kernel_rfl) rfl Try.ntmps29 rfl rfl ?_; simp only [argEnv, P0.d, Nat.reduceAdd, graphP, List.map_cons, List.map_nil]
  repeat' (first | with_reducible refine aw_seq ?_ | refine aw_region ?_ | refine aw_region_draw (by kernel_rfl) (by kernel_rfl) ?_ | with_reducible refine thn_normal ?_ | with_reducible refine thn_ret ?_ | with_reducible refine thn_exit ?_ | with_reducible refine blk_normal ?_ | with_reducible refine blk_ret ?_ | with_reducible refine blk_hit ?_ | with_reducible refine blk_miss rfl ?_ | with_reducible refine aw_block ?_ | with_reducible refine aw_ret ?_ | with_reducible refine aw_skip ?_ | with_reducible refine aw_exit ?_ | refine aw_yes rfl ?_ | refine aw_no rfl ?_ | (refine aw_ways rfl ?_ ?_ <;> intro hg_ <;> (try simp only [decide_eq_true_eq, decide_eq_false_iff_not, Bool.not_eq_true', Bool.not_eq_false', beq_iff_eq, bne_iff_ne, ne_eq, beq_eq_false_iff_ne, bne_eq_false_iff_eq, Int.not_lt, Int.not_le, Bool.not_eq_true, Bool.not_eq_false] at hg_) <;> (try first | contradiction | (exfalso; omega))) | with_reducible refine w_nil ?_ | (first | refine r_q tbOk rfl rfl rfl rfl ?_ | refine r_e tbOk rfl rfl ?_ | refine r_yes tbOk rfl rfl rfl rfl rfl rfl ?_ | refine w_no rfl rfl (lookO_spec rfl) rfl rfl rfl ?_ | refine w_un rfl rfl (lookO_spec rfl) rfl rfl ?_ | refine w_q rfl rfl (by exact k_call (f_implGraphValid _ _ es hlm) rfl ⟨asA_agg (evO_spec rfl) ⟨cAr_r, cAr_r, trivial⟩, trivial⟩) rfl ?_ | refine w_yes rfl rfl (lookO_spec rfl) rfl (by exact k_call (f_implGraphValid _ _ es hlm) rfl ⟨asA_agg (evO_spec rfl) ⟨cAr_r, cAr_r, trivial⟩, trivial⟩) rfl ?_ | (refine r_split rfl rfl rfl ?_ ?_ <;> intro hg_ <;> fail_if_success (exact Bool.noConfusion hg_)) <;> (try simp only [decide_eq_true_eq, decide_eq_false_iff_not, Bool.not_eq_true', Bool.not_eq_false', beq_iff_eq, bne_iff_ne, ne_eq, beq_eq_false_iff_ne, bne_eq_false_iff_eq, Int.not_lt, Int.not_le, Bool.not_eq_true, Bool.not_eq_false] at hg_) <;> (try first | contradiction | (exfalso; omega))))
  all_goals try exact ret_tmp rfl (dres_bool (by unfold partsOk; simp_all))
  rename_i h1 h2
  have h3 := hg_
  clear hg_
  have hm := gOk_m h1
  have hmn : m = (vs.length : Int) := by omega
  have hmf : m = (fs.length : Int) := by omega
  have hge := gOk_edges h1
  have hR : partsOk m es vs fs = (es.all (partE (dV vs)) && (List.range vs.length).all (fun v : Nat => pI vs.length (nearM vs.length es) (dV vs) (dV fs) v)) := by
    unfold partsOk
    rw [h1, decide_eq_true hmn.symm, decide_eq_true hmf.symm]; simp
  rw [hR]
  clear h1 h2 h3 hR
  refine aw_loopI (fun k : Nat => k ≤ es.length ∧ ∀ e ∈ es.take k, partE (dV vs) e = true) (fun k => mkS 105 [(33, .one (.r true (int k))), (32, .one (.r true (int (edges es).length))), (31, .one (.r false (row nil 3 (edges es)))), (1, .one (.r false (row nil1 1 (ints vs)))), (2, .one (.r false (row nil2 1 (ints fs)))), (3, .one (.ptr 3 0 0 0))] [(3, .var 28 [.r false (int m), .r false (row nil 3 (edges es))])]) (fun k => es.length - k) 0 ⟨Nat.zero_le _, by simp⟩ (by (refine weak_ren [] rfl ?_ ?_ <;> repeat' (first | exact trivial | refine subR_cons rfl ?_ ?_ | refine subHR_cons rfl ?_ ?_ | rfl | (refine d_int ?_; (first | rfl | omega | (rw [IntWalk.i64_in _ (by omega)] <;> omega) | (simp; done) | (simp; omega))) | (refine d_bool ?_; (first | (simp_all; done) | (rw [Bool.eq_iff_iff]; simp_all; done) | (rw [Bool.eq_iff_iff]; simp_all; omega) | (rw [Bool.eq_iff_iff]; simp; omega)))))) ?_
  rintro k ⟨hk, HE⟩
  by_cases hlt : k < es.length
  · have hix := edges_at hlt
    have hgk := hge es[k] (List.getElem_mem hlt)
    have hem : es[k] ∈ es := List.getElem_mem hlt
    have hnext : partE (dV vs) es[k] = true → ∀ e ∈ es.take (k + 1), partE (dV vs) e = true := fun h e he => by
      rw [List.take_succ_eq_append_getElem hlt, List.mem_append] at he
      rcases he with he | he
      · exact HE e he
      · obtain rfl : e = es[k] := by simpa using he
        exact h
    generalize es[k] = e at *
    have hg0 := hgk.1.1
    have hg1 := hgk.1.2
    have hg2 := hgk.2.1.1
    have hg3 := hgk.2.1.2
    have hno : partE (dV vs) e = false → es.all (partE (dV vs)) = false := fun h => by rw [List.all_eq_false]; exact ⟨e, hem, by simp [h]⟩
    repeat' (first | with_reducible refine aw_seq ?_ | refine aw_region ?_ | refine aw_region_draw (by kernel_rfl) (by kernel_rfl) ?_ | with_reducible refine thn_normal ?_ | with_reducible refine thn_ret ?_ | with_reducible refine thn_exit ?_ | with_reducible refine blk_normal ?_ | with_reducible refine blk_ret ?_ | with_reducible refine blk_hit ?_ | with_reducible refine blk_miss rfl ?_ | with_reducible refine aw_block ?_ | with_reducible refine aw_ret ?_ | with_reducible refine aw_skip ?_ | with_reducible refine aw_exit ?_ | refine aw_yes rfl ?_ | refine aw_no rfl ?_ | (refine aw_ways rfl ?_ ?_ <;> intro hg_ <;> (try simp only [decide_eq_true_eq, decide_eq_false_iff_not, Bool.not_eq_true', Bool.not_eq_false', beq_iff_eq, bne_iff_ne, ne_eq, beq_eq_false_iff_ne, bne_eq_false_iff_eq, Int.not_lt, Int.not_le, Bool.not_eq_true, Bool.not_eq_false] at hg_) <;> (try first | contradiction | (exfalso; omega))) | with_reducible refine w_nil ?_ | (first | refine r_q tbOk rfl rfl rfl rfl ?_ | refine r_e tbOk rfl rfl ?_ | refine r_yes tbOk rfl rfl rfl rfl rfl rfl ?_ | refine w_no rfl rfl (lookO_spec rfl) rfl rfl rfl ?_ | refine w_un rfl rfl (lookO_spec rfl) rfl rfl ?_ | refine w_q rfl rfl (by exact k_index tbOk rfl rfl rfl rfl (by omega) (by first | exact hix | exact ints_atD (by omega) (by omega))) rfl ?_ | refine w_yes rfl rfl (lookO_spec rfl) rfl (by exact k_index tbOk rfl rfl rfl rfl (by omega) (by first | exact hix | exact ints_atD (by omega) (by omega))) rfl ?_ | (refine r_split rfl rfl rfl ?_ ?_ <;> intro hg_ <;> fail_if_success (exact Bool.noConfusion hg_)) <;> (try simp only [decide_eq_true_eq, decide_eq_false_iff_not, Bool.not_eq_true', Bool.not_eq_false', beq_iff_eq, bne_iff_ne, ne_eq, beq_eq_false_iff_ne, bne_eq_false_iff_eq, Int.not_lt, Int.not_le, Bool.not_eq_true, Bool.not_eq_false] at hg_) <;> (try first | contradiction | (exfalso; omega))))
    all_goals first
      | exact ret_tmp rfl (dres_bool (by rw [hno (by unfold partE; simpa using hg_)]; rfl))
      | exact ⟨k + 1, ⟨by omega, hnext (by unfold partE; simpa using hg_)⟩, by (refine weak_ren [] rfl ?_ ?_ <;> repeat' (first | exact trivial | refine subR_cons rfl ?_ ?_ | refine subHR_cons rfl ?_ ?_ | rfl | (refine d_int ?_; (first | rfl | omega | (rw [IntWalk.i64_in _ (by omega)] <;> omega) | (simp; done) | (simp; omega))) | (refine d_bool ?_; (first | (simp_all; done) | (rw [Bool.eq_iff_iff]; simp_all; done) | (rw [Bool.eq_iff_iff]; simp_all; omega) | (rw [Bool.eq_iff_iff]; simp; omega))))), by omega⟩
      | trace_state
  · have HE : es.all (partE (dV vs)) = true := by rw [List.take_of_length_le (by omega)] at HE; rw [List.all_eq_true]; exact HE
    rw [HE, Bool.true_and]
    have hgn : ∀ e ∈ es, (0 ≤ e.1 ∧ e.1 < (vs.length : Int)) ∧ (0 ≤ e.2.1 ∧ e.2.1 < (vs.length : Int)) := fun e he => by have := hge e he; omega
    have KN : FnO Try.prog 78 [graphP m nil es] 97 1 ((nearM vs.length es).map mP) := by
      rw [hmn]; exact f_nearMasks vs.length nil es (by omega) hl hgn
    repeat' (first | with_reducible refine aw_seq ?_ | refine aw_region ?_ | refine aw_region_draw (by kernel_rfl) (by kernel_rfl) ?_ | with_reducible refine thn_normal ?_ | with_reducible refine thn_ret ?_ | with_reducible refine thn_exit ?_ | with_reducible refine blk_normal ?_ | with_reducible refine blk_ret ?_ | with_reducible refine blk_hit ?_ | with_reducible refine blk_miss rfl ?_ | with_reducible refine aw_block ?_ | with_reducible refine aw_ret ?_ | with_reducible refine aw_skip ?_ | with_reducible refine aw_exit ?_ | refine aw_yes rfl ?_ | refine aw_no rfl ?_ | (refine aw_ways rfl ?_ ?_ <;> intro hg_ <;> (try simp only [decide_eq_true_eq, decide_eq_false_iff_not, Bool.not_eq_true', Bool.not_eq_false', beq_iff_eq, bne_iff_ne, ne_eq, beq_eq_false_iff_ne, bne_eq_false_iff_eq, Int.not_lt, Int.not_le, Bool.not_eq_true, Bool.not_eq_false] at hg_) <;> (try first | contradiction | (exfalso; omega))) | with_reducible refine w_nil ?_ | (first | refine r_q tbOk rfl rfl rfl rfl ?_ | refine r_e tbOk rfl rfl ?_ | refine r_yes tbOk rfl rfl rfl rfl rfl rfl ?_ | refine w_no rfl rfl (lookO_spec rfl) rfl rfl rfl ?_ | refine w_un rfl rfl (lookO_spec rfl) rfl rfl ?_ | (refine w_e rfl (by exact e_callO KN rfl rfl ⟨asA_agg (evO_spec rfl) ⟨cAr_r, cAr_r, trivial⟩, trivial⟩ rfl rfl) ?_; try dsimp only [P0.d, Res.d, List.map_cons, List.map_nil, List.set_cons_zero, List.set_cons_succ, Nat.reduceAdd]) | (refine r_split rfl rfl rfl ?_ ?_ <;> intro hg_ <;> fail_if_success (exact Bool.noConfusion hg_)) <;> (try simp only [decide_eq_true_eq, decide_eq_false_iff_not, Bool.not_eq_true', Bool.not_eq_false', beq_iff_eq, bne_iff_ne, ne_eq, beq_eq_false_iff_ne, bne_eq_false_iff_eq, Int.not_lt, Int.not_le, Bool.not_eq_true, Bool.not_eq_false] at hg_) <;> (try first | contradiction | (exfalso; omega))))
    have hnm : (nearM vs.length es).length = vs.length ∧ Sm (nearM vs.length es) := near_ok vs.length (by omega) es hgn _ (next_ok vs.length (by omega) es hgn _ (by simp) (fun i => by rw [List.getD_eq_getElem?_getD, List.getElem?_replicate]; split <;> simp)).1 (next_ok vs.length (by omega) es hgn _ (by simp) (fun i => by rw [List.getD_eq_getElem?_getD, List.getElem?_replicate]; split <;> simp)).2
    clear KN hg_ hgn hge
    obtain ⟨hnl, hsm⟩ := hnm
    generalize nearM vs.length es = NM at *
    have hnlm : (NM.map mP).length = vs.length := by rw [List.length_map]; exact hnl
    have hno : ∀ v : Nat, v < vs.length → pI vs.length NM (dV vs) (dV fs) v = false → (List.range vs.length).all (fun v : Nat => pI vs.length NM (dV vs) (dV fs) v) = false := fun v hv h => by
      rw [List.all_eq_false]; exact ⟨v, by simp [hv], by simp [h]⟩
    have hyes : (∀ v : Nat, v < vs.length → pI vs.length NM (dV vs) (dV fs) v = true) → (List.range vs.length).all (fun v : Nat => pI vs.length NM (dV vs) (dV fs) v) = true := fun h => by
      rw [List.all_eq_true]; intro v hv; exact h v (by simpa using hv)
    generalize (List.range vs.length).all (fun v : Nat => pI vs.length NM (dV vs) (dV fs) v) = RES at *
    have KC : ∀ a s, Fn Try.prog 74 [.one (row nil2 1 (ints fs)), iP a, iP s] (.v (.one (bool (Costs.climb vs.length s (dV fs) vs.length a)))) := fun a s => by
      have := f_climbs nil2 fs a s hlf
      rwa [show fs.length = vs.length by omega] at this
    refine aw_loopI (fun v : Nat => v ≤ vs.length ∧ ∀ u : Nat, u < v → pI vs.length NM (dV vs) (dV fs) u = true) (fun v => mkS 105 [(53, .one (.r true (int v))), (52, .one (.r true (int (ints vs).length))), (51, .one (.r false (row nil1 1 (ints vs)))), (9, .one (.own 100 0 (NM.map mP).length 1)), (1, .one (.r false (row nil1 1 (ints vs)))), (2, .one (.r false (row nil2 1 (ints fs)))), (3, .one (.ptr 3 0 0 0))] [(100, .sl 97 1 true (NM.map mP)), (3, .var 28 [.r false (int m), .r false (row nil 3 (edges es))])]) (fun v => vs.length - v) 0 ⟨Nat.zero_le _, fun u hu => by omega⟩ (by (refine weak_ren [(100, 50)] rfl ?_ ?_ <;> repeat' (first | exact trivial | refine subR_cons rfl ?_ ?_ | refine subHR_cons rfl ?_ ?_ | rfl | (refine d_int ?_; (first | rfl | omega | (rw [IntWalk.i64_in _ (by omega)] <;> omega) | (simp; done) | (simp; omega))) | (refine d_bool ?_; (first | (simp_all; done) | (rw [Bool.eq_iff_iff]; simp_all; done) | (rw [Bool.eq_iff_iff]; simp_all; omega) | (rw [Bool.eq_iff_iff]; simp; omega)))))) ?_
    rintro v ⟨hv, HV⟩
    have hnext : pI vs.length NM (dV vs) (dV fs) v = true → ∀ u : Nat, u < v + 1 → pI vs.length NM (dV vs) (dV fs) u = true := fun h u hu => by
      rcases Nat.lt_succ_iff_lt_or_eq.1 hu with hu | rfl
      · exact HV u hu
      · exact h
    have hp : hasV m (dV fs v) = true → 0 ≤ dV fs v ∧ dV fs v < vs.length := fun h => by unfold hasV at h; simp at h; omega
    repeat' (first | with_reducible refine aw_seq ?_ | refine aw_region ?_ | refine aw_region_draw (by kernel_rfl) (by kernel_rfl) ?_ | with_reducible refine thn_normal ?_ | with_reducible refine thn_ret ?_ | with_reducible refine thn_exit ?_ | with_reducible refine blk_normal ?_ | with_reducible refine blk_ret ?_ | with_reducible refine blk_hit ?_ | with_reducible refine blk_miss rfl ?_ | with_reducible refine aw_block ?_ | with_reducible refine aw_ret ?_ | with_reducible refine aw_skip ?_ | with_reducible refine aw_exit ?_ | refine aw_yes rfl ?_ | refine aw_no rfl ?_ | (refine aw_ways rfl ?_ ?_ <;> intro hg_ <;> (try simp only [decide_eq_true_eq, decide_eq_false_iff_not, Bool.not_eq_true', Bool.not_eq_false', beq_iff_eq, bne_iff_ne, ne_eq, beq_eq_false_iff_ne, bne_eq_false_iff_eq, Int.not_lt, Int.not_le, Bool.not_eq_true, Bool.not_eq_false] at hg_) <;> (try first | contradiction | (exfalso; omega))) | with_reducible refine w_nil ?_ | (first | refine r_q tbOk rfl rfl rfl rfl ?_ | refine r_e tbOk rfl rfl ?_ | refine r_yes tbOk rfl rfl rfl rfl rfl rfl ?_ | refine w_no rfl rfl (lookO_spec rfl) rfl rfl rfl ?_ | refine w_un rfl rfl (lookO_spec rfl) rfl rfl ?_ | refine w_q rfl rfl (by exact k_index tbOk rfl rfl rfl rfl (by first | omega | exact (hp (by assumption)).1) (by first | exact ints_atD (by omega) (by omega) | exact ints_atD (hp (by assumption)).1 (by have := (hp (by assumption)).2; omega))) rfl ?_ | refine w_yes rfl rfl (lookO_spec rfl) rfl (by exact k_index tbOk rfl rfl rfl rfl (by first | omega | exact (hp (by assumption)).1) (by first | exact ints_atD (by omega) (by omega) | exact ints_atD (hp (by assumption)).1 (by have := (hp (by assumption)).2; omega))) rfl ?_ | refine w_q rfl rfl (by exact k_indexO tbOk rfl rfl rfl rfl (by omega) (by omega)) rfl ?_ | refine w_yes rfl rfl (lookO_spec rfl) rfl (by exact k_indexO tbOk rfl rfl rfl rfl (by omega) (by omega)) rfl ?_ | refine w_q rfl rfl (by exact k_loadM tbOk rfl rfl rfl rfl (by omega)) rfl ?_ | refine w_yes rfl rfl (lookO_spec rfl) rfl (by exact k_loadM tbOk rfl rfl rfl rfl (by omega)) rfl ?_ | refine w_q rfl rfl (by exact k_call (f_implHas m _ es _) rfl ⟨asA_agg (evO_spec rfl) ⟨cAr_r, cAr_r, trivial⟩, asA_r (evO_spec rfl), trivial⟩) rfl ?_ | refine w_yes rfl rfl (lookO_spec rfl) rfl (by exact k_call (f_implHas m _ es _) rfl ⟨asA_agg (evO_spec rfl) ⟨cAr_r, cAr_r, trivial⟩, asA_r (evO_spec rfl), trivial⟩) rfl ?_ | refine w_q rfl rfl (by exact k_call (f_maskHasI _ _ (hsm _) (hp (by assumption)).1 (by have := (hp (by assumption)).2; omega)) rfl ⟨asA_r (evO_spec rfl), asA_r (evO_spec rfl), trivial⟩) rfl ?_ | refine w_yes rfl rfl (lookO_spec rfl) rfl (by exact k_call (f_maskHasI _ _ (hsm _) (hp (by assumption)).1 (by have := (hp (by assumption)).2; omega)) rfl ⟨asA_r (evO_spec rfl), asA_r (evO_spec rfl), trivial⟩) rfl ?_ | refine w_q rfl rfl (by exact k_call (KC _ _) rfl ⟨asA_r (evO_spec rfl), asA_r (evO_spec rfl), asA_r (evO_spec rfl), trivial⟩) rfl ?_ | refine w_yes rfl rfl (lookO_spec rfl) rfl (by exact k_call (KC _ _) rfl ⟨asA_r (evO_spec rfl), asA_r (evO_spec rfl), asA_r (evO_spec rfl), trivial⟩) rfl ?_ | (refine r_split rfl rfl rfl ?_ ?_ <;> intro hg_ <;> fail_if_success (exact Bool.noConfusion hg_)) <;> (try simp only [decide_eq_true_eq, decide_eq_false_iff_not, Bool.not_eq_true', Bool.not_eq_false', beq_iff_eq, bne_iff_ne, ne_eq, beq_eq_false_iff_ne, bne_eq_false_iff_eq, Int.not_lt, Int.not_le, Bool.not_eq_true, Bool.not_eq_false] at hg_) <;> (try first | contradiction | (exfalso; omega))))
    all_goals first
      | exact ret_tmp rfl (dres_bool (hyes fun u hu => HV u (by omega)).symm)
      | exact ret_tmp rfl (dres_bool (hno v (by omega) (by clear hnext HV hyes hno; unfold pI; simp_all)).symm)
      | exact ⟨v + 1, ⟨by omega, hnext (by clear hnext HV hyes hno; unfold pI; simp_all)⟩, by (refine weak_ren [] rfl ?_ ?_ <;> repeat' (first | exact trivial | refine subR_cons rfl ?_ ?_ | refine subHR_cons rfl ?_ ?_ | rfl | (refine d_int ?_; (first | rfl | omega | (rw [IntWalk.i64_in _ (by omega)] <;> omega) | (simp; done) | (simp; omega))) | (refine d_bool ?_; (first | (simp_all; done) | (rw [Bool.eq_iff_iff]; simp_all; done) | (rw [Bool.eq_iff_iff]; simp_all; omega) | (rw [Bool.eq_iff_iff]; simp; omega))))), by omega⟩
      | trace_state
end Go.Proofs.Ytknbeakmnkjkhaa.Abs
