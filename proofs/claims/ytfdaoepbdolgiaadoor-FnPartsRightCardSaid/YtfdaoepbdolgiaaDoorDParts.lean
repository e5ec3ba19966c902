/- PartsRight of the program by states. No statement of the seat is proved here. -/
import Derived.Test.YtfdaoepbdolgiaaDoorTy
import Derived.Lib.Hide
import Derived.Test.YtfdaoepbdolgiaaDoorBCosts
import Derived.Test.YtfdaoepbdolgiaaDoorDPart
import Derived.Test.YtfdaoepbdolgiaaDoorPParts
set_option linter.unusedSimpArgs false
set_option linter.unusedVariables false
namespace Go.Proofs.YtfdaoepbdolgiaaDoor.Abs
open Go.RowKit
open R (val row ref)

/-! ## BParts -/
theorem f_maskHasI (M : Nat) (v : Int) (hM : M < 4294967296) (h0 : 0 ≤ v) (hv : v ≤ 31) : Fn Tryd.prog 52 [mP M, iP v] (.v (.one (bool (M.testBit v.toNat)))) := by
  have := f_maskHas M v.toNat hM (by omega)
  rwa [show ((v.toNat : Nat) : Int) = v by omega] at this
/-- What the program asks of one vertex. -/
def pI (M : Nat) (NM : List Nat) (d f : Int → Int) (v : Int) : Bool :=
  if d v = v then decide (f v = -1) else !(decide (v < d v) || !hasV M (d v) || !hasV M (f v) || !(NM.getD v.toNat 0).testBit (f v).toNat) && (decide (d (f v) = d v) && Costs.climb M (d v) f M (f v))
def partE (d : Int → Int) (e : E3) : Bool := decide (d e.1 = d e.2.1)
def partsOk (m : Int) (es : List E3) (vs fs : List Int) : Bool :=
  gOk m es && decide ((vs.length : Int) = m) && decide ((fs.length : Int) = m) && (es.all (partE (dV vs)) && (List.range vs.length).all (fun v : Nat => pI vs.length (nearM vs.length es) (dV vs) (dV fs) v))
set_option maxRecDepth 100000 in
set_option maxHeartbeats 8000000 in
theorem f_implPartsRight (m : Int) (nil nil1 nil2 : Bool) (es : List E3) (vs fs : List Int) (hl : es.length ≤ 1048576) (hlv : vs.length ≤ 1048576) (hlf : fs.length ≤ 1048576) :
    Fn Tryd.prog 26 [graphP m nil es, .one (row nil1 1 (ints vs)), .one (row nil2 1 (ints fs))] (.v (.one (bool (partsOk m es vs fs)))) := by
  have hlen := edges_len es
  have hlen2 := ints_len vs
  have hlen3 := ints_len fs
  have hlm : es.length ≤ maxLen := by simp only [maxLen]; omega
  refine fn_of (l := [.tmp 6]) Tryd.func26 (by kernel_rfl) rfl Tryd.ntmps26 rfl rfl ?_; simp only [argEnv, P0.d, Nat.reduceAdd, graphP, List.map_cons, List.map_nil]
  repeat' (first | (with_reducible first | refine aw_seq ?_ | refine thn_normal ?_ | refine thn_ret ?_ | refine thn_exit ?_ | refine blk_normal ?_ | refine blk_ret ?_ | refine blk_hit ?_ | refine blk_miss rfl ?_ | refine aw_block ?_ | refine aw_ret ?_ | refine aw_skip ?_ | refine aw_exit ?_ | refine w_nil ?_ | refine x_nil (by kernel_rfl) ?_) | refine aw_region ?_ | refine aw_region_draw (by kernel_rfl) ?_ | refine aw_yes rfl ?_ | refine aw_no rfl ?_ | ((with_reducible refine w_seq ?_); first | refine r_q tbOk rfl rfl rfl rfl ?_ | refine r_e tbOk rfl rfl rfl rfl rfl ?_ | refine r_yes tbOk rfl rfl rfl rfl rfl rfl ?_ | refine w_no rfl rfl (lookO_spec rfl) rfl rfl rfl ?_ | refine w_un rfl rfl (lookO_spec rfl) rfl rfl ?_) | ((with_reducible refine w_drw ?_); first | refine rx_q tbOk rfl rfl rfl rfl ?_ | refine rx_e tbOk rfl rfl rfl rfl rfl ?_ | refine rx_yes tbOk rfl rfl rfl rfl rfl rfl ?_ | refine x_no rfl rfl (lookO_spec rfl) rfl rfl rfl ?_ | refine x_un rfl rfl (lookO_spec rfl) rfl rfl ?_) | ((first | refine' w_q rfl rfl ?xa rfl ?_ | refine' v_q rfl rfl ?xa rfl ?_ | refine' w_yes rfl rfl (lookO_spec rfl) rfl ?xa rfl ?_ | refine' v_yes rfl rfl (lookO_spec rfl) rfl ?xa rfl ?_); case xa => exact k_call (f_implGraphValid _ _ es hlm) rfl ⟨asA_agg (evO_spec rfl) ⟨cAr_r, cAr_r, trivial⟩, trivial⟩) | ((first | refine aw_ways rfl ?_ ?_ | refine r_split rfl rfl rfl ?_ ?_) <;> intro hg_ <;> fail_if_success (exact Bool.noConfusion hg_)) <;> (try simp only [prn] at hg_) <;> (try first | contradiction | (exfalso; omega)))
  all_goals try exact ret_tmp rfl (dres_bool (by unfold partsOk; simp_all))
  rename_i h1 h2
  have h3 := hg_
  clear hg_
  have hm := gOk_m h1
  have hmn : m = (vs.length : Int) := by omega
  have hmf : m = (fs.length : Int) := by omega
  have hge := gOk_edges h1
  have hR : partsOk m es vs fs = (es.all (partE (dV vs)) && (List.range vs.length).all (fun v : Nat => pI vs.length (nearM vs.length es) (dV vs) (dV fs) v)) := by
    unfold partsOk
    rw [h1, decide_eq_true hmn.symm, decide_eq_true hmf.symm]; simp
  rw [hR]
  clear h1 h2 h3 hR
  refine aw_loopI (fun k : Nat => k ≤ es.length ∧ ∀ e ∈ es.take k, partE (dV vs) e = true) (fun k => mkS 105 [(33, .one (.r true (int k))), (32, .one (.r true (int (edges es).length))), (31, .one (.r false (row nil 3 (edges es)))), (1, .one (.r false (row nil1 1 (ints vs)))), (2, .one (.r false (row nil2 1 (ints fs)))), (3, .one (.ptr 3 0 0 0))] [(3, .var 25 [.r false (int m), .r false (row nil 3 (edges es))])]) (fun k => es.length - k) 0 ⟨Nat.zero_le _, by simp⟩ (by (refine weak_ren [] rfl ?_ ?_ <;> repeat' (first | exact trivial | refine subR_cons rfl ?_ ?_ | refine subHR_cons rfl ?_ ?_ | rfl | (refine d_int ?_; (first | rfl | omega | (rw [IntWalk.i64_in _ (by omega)] <;> omega) | (simp; done) | (simp; omega))) | (refine d_bool ?_; (first | (simp_all; done) | (rw [Bool.eq_iff_iff]; simp_all; done) | (rw [Bool.eq_iff_iff]; simp_all; omega) | (rw [Bool.eq_iff_iff]; simp; omega)))))) ?_
  rintro k ⟨hk, HE⟩
  by_cases hlt : k < es.length
  · have hix := edges_at hlt
    have hgk := hge es[k] (List.getElem_mem hlt)
    have hem : es[k] ∈ es := List.getElem_mem hlt
    have hnext : partE (dV vs) es[k] = true → ∀ e ∈ es.take (k + 1), partE (dV vs) e = true := fun h e he => by
      rw [List.take_succ_eq_append_getElem hlt, List.mem_append] at he
      rcases he with he | he
      · exact HE e he
      · obtain rfl : e = es[k] := by simpa using he
        exact h
    generalize es[k] = e at *
    have hg0 := hgk.1.1
    have hg1 := hgk.1.2
    have hg2 := hgk.2.1.1
    have hg3 := hgk.2.1.2
    have hno : partE (dV vs) e = false → es.all (partE (dV vs)) = false := fun h => by rw [List.all_eq_false]; exact ⟨e, hem, by simp [h]⟩
    repeat' (first | (with_reducible first | refine aw_seq ?_ | refine thn_normal ?_ | refine thn_ret ?_ | refine thn_exit ?_ | refine blk_normal ?_ | refine blk_ret ?_ | refine blk_hit ?_ | refine blk_miss rfl ?_ | refine aw_block ?_ | refine aw_ret ?_ | refine aw_skip ?_ | refine aw_exit ?_ | refine w_nil ?_ | refine x_nil (by kernel_rfl) ?_) | refine aw_region ?_ | refine aw_region_draw (by kernel_rfl) ?_ | refine aw_yes rfl ?_ | refine aw_no rfl ?_ | ((with_reducible refine w_seq ?_); first | refine r_q tbOk rfl rfl rfl rfl ?_ | refine r_e tbOk rfl rfl rfl rfl rfl ?_ | refine r_yes tbOk rfl rfl rfl rfl rfl rfl ?_ | refine w_no rfl rfl (lookO_spec rfl) rfl rfl rfl ?_ | refine w_un rfl rfl (lookO_spec rfl) rfl rfl ?_) | ((with_reducible refine w_drw ?_); first | refine rx_q tbOk rfl rfl rfl rfl ?_ | refine rx_e tbOk rfl rfl rfl rfl rfl ?_ | refine rx_yes tbOk rfl rfl rfl rfl rfl rfl ?_ | refine x_no rfl rfl (lookO_spec rfl) rfl rfl rfl ?_ | refine x_un rfl rfl (lookO_spec rfl) rfl rfl ?_) | ((first | refine' w_q rfl rfl ?xa rfl ?_ | refine' v_q rfl rfl ?xa rfl ?_ | refine' w_yes rfl rfl (lookO_spec rfl) rfl ?xa rfl ?_ | refine' v_yes rfl rfl (lookO_spec rfl) rfl ?xa rfl ?_); case xa => exact k_index tbOk rfl rfl rfl rfl (by omega) (by first | exact hix | exact ints_atD (by omega) (by omega))) | ((first | refine aw_ways rfl ?_ ?_ | refine r_split rfl rfl rfl ?_ ?_) <;> intro hg_ <;> fail_if_success (exact Bool.noConfusion hg_)) <;> (try simp only [prn] at hg_) <;> (try first | contradiction | (exfalso; omega)))
    all_goals first
      | exact ret_tmp rfl (dres_bool (by rw [hno (by unfold partE; simpa using hg_)]; rfl))
      | exact ⟨k + 1, ⟨by omega, hnext (by unfold partE; simpa using hg_)⟩, by (refine weak_ren [] rfl ?_ ?_ <;> repeat' (first | exact trivial | refine subR_cons rfl ?_ ?_ | refine subHR_cons rfl ?_ ?_ | rfl | (refine d_int ?_; (first | rfl | omega | (rw [IntWalk.i64_in _ (by omega)] <;> omega) | (simp; done) | (simp; omega))) | (refine d_bool ?_; (first | (simp_all; done) | (rw [Bool.eq_iff_iff]; simp_all; done) | (rw [Bool.eq_iff_iff]; simp_all; omega) | (rw [Bool.eq_iff_iff]; simp; omega))))), by omega⟩
      | trace_state
  · have HE : es.all (partE (dV vs)) = true := by rw [List.take_of_length_le (by omega)] at HE; rw [List.all_eq_true]; exact HE
    rw [HE, Bool.true_and]
    have hgn : ∀ e ∈ es, (0 ≤ e.1 ∧ e.1 < (vs.length : Int)) ∧ (0 ≤ e.2.1 ∧ e.2.1 < (vs.length : Int)) := fun e he => by have := hge e he; omega
    have KN : FnO Tryd.prog 59 [graphP m nil es] 69 1 ((nearM vs.length es).map mP) := by
      rw [hmn]; exact f_nearMasks vs.length nil es (by omega) hl hgn
    repeat' (first | (with_reducible first | refine aw_seq ?_ | refine thn_normal ?_ | refine thn_ret ?_ | refine thn_exit ?_ | refine blk_normal ?_ | refine blk_ret ?_ | refine blk_hit ?_ | refine blk_miss rfl ?_ | refine aw_block ?_ | refine aw_ret ?_ | refine aw_skip ?_ | refine aw_exit ?_ | refine w_nil ?_ | refine x_nil (by kernel_rfl) ?_) | refine aw_region ?_ | refine aw_region_draw (by kernel_rfl) ?_ | refine aw_yes rfl ?_ | refine aw_no rfl ?_ | ((with_reducible refine w_seq ?_); first | refine r_q tbOk rfl rfl rfl rfl ?_ | refine r_e tbOk rfl rfl rfl rfl rfl ?_ | refine r_yes tbOk rfl rfl rfl rfl rfl rfl ?_ | refine w_no rfl rfl (lookO_spec rfl) rfl rfl rfl ?_ | refine w_un rfl rfl (lookO_spec rfl) rfl rfl ?_) | ((with_reducible refine w_drw ?_); first | refine rx_q tbOk rfl rfl rfl rfl ?_ | refine rx_e tbOk rfl rfl rfl rfl rfl ?_ | refine rx_yes tbOk rfl rfl rfl rfl rfl rfl ?_ | refine x_no rfl rfl (lookO_spec rfl) rfl rfl rfl ?_ | refine x_un rfl rfl (lookO_spec rfl) rfl rfl ?_) | ((first | refine' w_e rfl ?xa ?xb ?xc ?xe ?_ | refine' v_e rfl ?xa ?xb ?xc ?xe ?_); (case xa => exact e_callO KN rfl rfl ⟨asA_agg (evO_spec rfl) ⟨cAr_r, cAr_r, trivial⟩, trivial⟩); (case xb => rfl); (case xc => rfl); (case xe => rfl); try dsimp only [P0.d, Res.d, List.map_cons, List.map_nil, List.set_cons_zero, List.set_cons_succ, Nat.reduceAdd]) | ((first | refine aw_ways rfl ?_ ?_ | refine r_split rfl rfl rfl ?_ ?_) <;> intro hg_ <;> fail_if_success (exact Bool.noConfusion hg_)) <;> (try simp only [prn] at hg_) <;> (try first | contradiction | (exfalso; omega)))
    have hnm : (nearM vs.length es).length = vs.length ∧ Sm (nearM vs.length es) := near_ok vs.length (by omega) es hgn _ (next_ok vs.length (by omega) es hgn _ (by simp) (fun i => by rw [List.getD_eq_getElem?_getD, List.getElem?_replicate]; split <;> simp)).1 (next_ok vs.length (by omega) es hgn _ (by simp) (fun i => by rw [List.getD_eq_getElem?_getD, List.getElem?_replicate]; split <;> simp)).2
    clear KN hg_ hgn hge
    obtain ⟨hnl, hsm⟩ := hnm
    generalize nearM vs.length es = NM at *
    have hnlm : (NM.map mP).length = vs.length := by rw [List.length_map]; exact hnl
    have hno : ∀ v : Nat, v < vs.length → pI vs.length NM (dV vs) (dV fs) v = false → (List.range vs.length).all (fun v : Nat => pI vs.length NM (dV vs) (dV fs) v) = false := fun v hv h => by
      rw [List.all_eq_false]; exact ⟨v, by simp [hv], by simp [h]⟩
    have hyes : (∀ v : Nat, v < vs.length → pI vs.length NM (dV vs) (dV fs) v = true) → (List.range vs.length).all (fun v : Nat => pI vs.length NM (dV vs) (dV fs) v) = true := fun h => by
      rw [List.all_eq_true]; intro v hv; exact h v (by simpa using hv)
    generalize (List.range vs.length).all (fun v : Nat => pI vs.length NM (dV vs) (dV fs) v) = RES at *
    have KC : ∀ a s, Fn Tryd.prog 62 [.one (row nil2 1 (ints fs)), iP a, iP s] (.v (.one (bool (Costs.climb vs.length s (dV fs) vs.length a)))) := fun a s => by
      have := f_climbs nil2 fs a s hlf
      rwa [show fs.length = vs.length by omega] at this
    refine aw_loopI (fun v : Nat => v ≤ vs.length ∧ ∀ u : Nat, u < v → pI vs.length NM (dV vs) (dV fs) u = true) (fun v => mkS 105 [(53, .one (.r true (int v))), (52, .one (.r true (int (ints vs).length))), (51, .one (.r false (row nil1 1 (ints vs)))), (9, .one (.own 100 0 (NM.map mP).length 1)), (1, .one (.r false (row nil1 1 (ints vs)))), (2, .one (.r false (row nil2 1 (ints fs)))), (3, .one (.ptr 3 0 0 0))] [(100, .sl 69 1 true (NM.map mP)), (3, .var 25 [.r false (int m), .r false (row nil 3 (edges es))])]) (fun v => vs.length - v) 0 ⟨Nat.zero_le _, fun u hu => by omega⟩ (by (refine weak_ren [(100, 50)] rfl ?_ ?_ <;> repeat' (first | exact trivial | refine subR_cons rfl ?_ ?_ | refine subHR_cons rfl ?_ ?_ | rfl | (refine d_int ?_; (first | rfl | omega | (rw [IntWalk.i64_in _ (by omega)] <;> omega) | (simp; done) | (simp; omega))) | (refine d_bool ?_; (first | (simp_all; done) | (rw [Bool.eq_iff_iff]; simp_all; done) | (rw [Bool.eq_iff_iff]; simp_all; omega) | (rw [Bool.eq_iff_iff]; simp; omega)))))) ?_
    rintro v ⟨hv, HV⟩
    have hnext : pI vs.length NM (dV vs) (dV fs) v = true → ∀ u : Nat, u < v + 1 → pI vs.length NM (dV vs) (dV fs) u = true := fun h u hu => by
      rcases Nat.lt_succ_iff_lt_or_eq.1 hu with hu | rfl
      · exact HV u hu
      · exact h
    have hp : hasV m (dV fs v) = true → 0 ≤ dV fs v ∧ dV fs v < vs.length := fun h => by unfold hasV at h; simp at h; omega
    repeat' (first | (with_reducible first | refine aw_seq ?_ | refine thn_normal ?_ | refine thn_ret ?_ | refine thn_exit ?_ | refine blk_normal ?_ | refine blk_ret ?_ | refine blk_hit ?_ | refine blk_miss rfl ?_ | refine aw_block ?_ | refine aw_ret ?_ | refine aw_skip ?_ | refine aw_exit ?_ | refine w_nil ?_ | refine x_nil (by kernel_rfl) ?_) | refine aw_region ?_ | refine aw_region_draw (by kernel_rfl) ?_ | refine aw_yes rfl ?_ | refine aw_no rfl ?_ | ((with_reducible refine w_seq ?_); first | refine r_q tbOk rfl rfl rfl rfl ?_ | refine r_e tbOk rfl rfl rfl rfl rfl ?_ | refine r_yes tbOk rfl rfl rfl rfl rfl rfl ?_ | refine w_no rfl rfl (lookO_spec rfl) rfl rfl rfl ?_ | refine w_un rfl rfl (lookO_spec rfl) rfl rfl ?_) | ((with_reducible refine w_drw ?_); first | refine rx_q tbOk rfl rfl rfl rfl ?_ | refine rx_e tbOk rfl rfl rfl rfl rfl ?_ | refine rx_yes tbOk rfl rfl rfl rfl rfl rfl ?_ | refine x_no rfl rfl (lookO_spec rfl) rfl rfl rfl ?_ | refine x_un rfl rfl (lookO_spec rfl) rfl rfl ?_) | ((first | refine' w_q rfl rfl ?xa rfl ?_ | refine' v_q rfl rfl ?xa rfl ?_ | refine' w_yes rfl rfl (lookO_spec rfl) rfl ?xa rfl ?_ | refine' v_yes rfl rfl (lookO_spec rfl) rfl ?xa rfl ?_); case xa => first | exact k_index tbOk rfl rfl rfl rfl (by first | omega | exact (hp (by assumption)).1) (by first | exact ints_atD (by omega) (by omega) | exact ints_atD (hp (by assumption)).1 (by have := (hp (by assumption)).2; omega)) | exact k_indexO tbOk rfl rfl rfl rfl (by omega) (by omega) | exact k_loadM tbOk rfl rfl rfl rfl (by omega) | exact k_call (f_implHas m _ es _) rfl ⟨asA_agg (evO_spec rfl) ⟨cAr_r, cAr_r, trivial⟩, asA_r (evO_spec rfl), trivial⟩ | exact k_call (f_maskHasI _ _ (hsm _) (hp (by assumption)).1 (by have := (hp (by assumption)).2; omega)) rfl ⟨asA_r (evO_spec rfl), asA_r (evO_spec rfl), trivial⟩ | exact k_call (KC _ _) rfl ⟨asA_r (evO_spec rfl), asA_r (evO_spec rfl), asA_r (evO_spec rfl), trivial⟩) | ((first | refine aw_ways rfl ?_ ?_ | refine r_split rfl rfl rfl ?_ ?_) <;> intro hg_ <;> fail_if_success (exact Bool.noConfusion hg_)) <;> (try simp only [prn] at hg_) <;> (try first | contradiction | (exfalso; omega)))
    all_goals first
      | exact ret_tmp rfl (dres_bool (hyes fun u hu => HV u (by omega)).symm)
      | exact ret_tmp rfl (dres_bool (hno v (by omega) (by clear hnext HV hyes hno; unfold pI; simp_all)).symm)
      | exact ⟨v + 1, ⟨by omega, hnext (by clear hnext HV hyes hno; unfold pI; simp_all)⟩, by (refine weak_ren [] rfl ?_ ?_ <;> repeat' (first | exact trivial | refine subR_cons rfl ?_ ?_ | refine subHR_cons rfl ?_ ?_ | rfl | (refine d_int ?_; (first | rfl | omega | (rw [IntWalk.i64_in _ (by omega)] <;> omega) | (simp; done) | (simp; omega))) | (refine d_bool ?_; (first | (simp_all; done) | (rw [Bool.eq_iff_iff]; simp_all; done) | (rw [Bool.eq_iff_iff]; simp_all; omega) | (rw [Bool.eq_iff_iff]; simp; omega))))), by omega⟩
      | trace_state
/-! ## CParts -/
theorem nearL_any {m : Int} {es : List E3} (hg : gOk m es = true) (v p : Int) : (nearL m es v).any (fun z => decide (z = p)) = (hasV m p && adj es v p) := by
  unfold nearL hasV
  rw [hg, if_pos rfl, Bool.eq_iff_iff, List.any_eq_true, Bool.and_eq_true]
  simp only [decide_eq_true_eq, List.mem_filter, List.mem_map, List.mem_range]
  constructor
  · rintro ⟨z, ⟨⟨i, hi, rfl⟩, h2⟩, rfl⟩
    exact ⟨⟨by omega, by omega⟩, h2⟩
  · rintro ⟨⟨h0, h1⟩, h2⟩
    exact ⟨p, ⟨⟨p.toNat, by omega, by omega⟩, h2⟩, rfl⟩
/-- Is p a neighbour of v? -/
def nr (m : Int) (es : List E3) (v p : Int) : Bool := hasV m p && adj es v p
theorem pI_vI {m : Int} {es : List E3} {vs : List Int} (d f : Int → Int) (hg : gOk m es = true) (hmn : (vs.length : Int) = m) {v : Int} (h0 : 0 ≤ v) (h1 : v < m) :
    pI vs.length (nearM vs.length es) d f v = Parts.vI vs.length d f (nr m es) v := by
  have hm := gOk_m hg
  have hge := gOk_edges hg
  have hb := nearM_bit (m := vs.length) (es := es) (by omega) (fun e he => by have := hge e he; omega) v.toNat (f v).toNat
  unfold pI Parts.vI nr
  by_cases hd : d v = v
  · rw [if_pos hd, if_pos hd]
  · rw [if_neg hd, if_neg hd, hb, hmn]
    by_cases hp : hasV m (f v) = true
    · have hp' := hp
      unfold hasV at hp'
      simp only [decide_eq_true_eq] at hp'
      rw [show ((v.toNat : Nat) : Int) = v by omega, show (((f v).toNat : Nat) : Int) = f v by omega, hp]
      have e : decide (v < d v) = !decide (d v ≤ v) := by rw [Bool.eq_iff_iff]; simp
      rw [e]
      unfold hasV
      generalize decide (d v ≤ v) = b1
      generalize decide (0 ≤ d v ∧ d v < m) = b2
      generalize adj es v (f v) = b3
      generalize decide (d (f v) = d v) = b4
      generalize Costs.climb vs.length (d v) f vs.length (f v) = b5
      cases b1 <;> cases b2 <;> cases b3 <;> cases b4 <;> cases b5 <;> rfl
    · rw [Bool.not_eq_true] at hp
      rw [hp]; simp
/-! ## DParts -/
theorem runP_s (d f : Int → Int) (near : Int → Int → Bool) (R : Int) (n : Nat) (v : Int) : Parts.runP d f near R (n + 1) v = (decide (v = R) || ((near v (f v) && decide (d (f v) = R)) && Parts.runP d f near R n (f v))) := rfl
theorem runP_z (d f : Int → Int) (near : Int → Int → Bool) (R : Int) (v : Int) : Parts.runP d f near R 0 v = decide (v = R) := rfl
theorem runP_at (d f : Int → Int) (near : Int → Int → Bool) (R : Int) (n : Nat) : Parts.runP d f near R n R = true := by cases n <;> simp [runP_s, runP_z]
def pSp (m : Int) (es : List E3) (vs fs : List Int) : Bool := es.all (partE (dV vs)) && (List.range vs.length).all (fun v : Nat => Parts.vS vs.length (dV vs) (dV fs) (nr m es) v)
theorem pSp_ok {m : Int} {es : List E3} {vs fs : List Int} (hg : gOk m es = true) (hmn : (vs.length : Int) = m) (hmf : (fs.length : Int) = m) : partsOk m es vs fs = pSp m es vs fs := by
  have h := Parts.same (M := vs.length) (d := dV vs) (f := dV fs) (near := nr m es) (fun v p h => by unfold nr hasV at h; simp at h; omega)
  unfold partsOk pSp
  rw [hg, decide_eq_true hmn, decide_eq_true hmf, Bool.true_and, Bool.true_and, Bool.true_and]
  congr 1
  rw [Bool.eq_iff_iff, allR vs.length (Parts.vS vs.length (dV vs) (dV fs) (nr m es)), h, ← allR vs.length (Parts.vI vs.length (dV vs) (dV fs) (nr m es)), List.all_eq_true, List.all_eq_true]
  constructor
  · intro h v hv; rw [← pI_vI (dV vs) (dV fs) hg hmn (by omega) (by simp at hv; omega)]; exact h v hv
  · intro h v hv; rw [pI_vI (dV vs) (dV fs) hg hmn (by omega) (by simp at hv; omega)]; exact h v hv
theorem vS_no1 (M : Nat) (d f : Int → Int) (near : Int → Int → Bool) (v : Int) (h : d v = v) (h' : ¬ f v = -1) : Parts.vS M d f near v = false := by
  unfold Parts.vS; rw [decide_eq_true h, decide_eq_false h']; rfl
theorem vS_no2 (M : Nat) (d f : Int → Int) (near : Int → Int → Bool) (v : Int) (h : inR 0 v (d v) = false) : Parts.vS M d f near v = false := by
  unfold Parts.vS Costs.inn; unfold inR at h; rw [h]; simp
theorem nearL_len (m : Int) (es : List E3) (a : Int) : (nearL m es a).length ≤ m.toNat := by
  unfold nearL
  split
  · refine Nat.le_trans (List.length_filter_le _ _) ?_
    simp
  · exact Nat.zero_le _
set_option maxRecDepth 100000 in
set_option maxHeartbeats 8000000 in
theorem f_specPartsRight (m : Int) (nil nil1 nil2 : Bool) (es : List E3) (vs fs : List Int) (hl : es.length ≤ 1048576) (hlv : vs.length ≤ 1048576) (hlf : fs.length ≤ 1048576) :
    Fn Tryd.prog 27 [graphP m nil es, .one (row nil1 1 (ints vs)), .one (row nil2 1 (ints fs))] (.v (.one (bool (partsOk m es vs fs)))) := by
  have hlen := edges_len es
  have hlen2 := ints_len vs
  have hlen3 := ints_len fs
  have hlm : es.length ≤ maxLen := by simp only [maxLen]; omega
  refine fn_of (l := [.tmp 6]) Tryd.func27 (by kernel_rfl) rfl Tryd.ntmps27 rfl rfl ?_; simp only [argEnv, P0.d, Nat.reduceAdd, graphP, List.map_cons, List.map_nil]
  repeat' (first | (with_reducible first | refine aw_seq ?_ | refine thn_normal ?_ | refine thn_ret ?_ | refine thn_exit ?_ | refine blk_normal ?_ | refine blk_ret ?_ | refine blk_hit ?_ | refine blk_miss rfl ?_ | refine aw_block ?_ | refine aw_ret ?_ | refine aw_skip ?_ | refine aw_exit ?_ | refine w_nil ?_ | refine x_nil (by kernel_rfl) ?_) | refine aw_region ?_ | refine aw_region_draw (by kernel_rfl) ?_ | refine aw_yes rfl ?_ | refine aw_no rfl ?_ | ((with_reducible refine w_seq ?_); first | refine r_q tbOk rfl rfl rfl rfl ?_ | refine r_e tbOk rfl rfl rfl rfl rfl ?_ | refine r_yes tbOk rfl rfl rfl rfl rfl rfl ?_ | refine w_no rfl rfl (lookO_spec rfl) rfl rfl rfl ?_ | refine w_un rfl rfl (lookO_spec rfl) rfl rfl ?_) | ((with_reducible refine w_drw ?_); first | refine rx_q tbOk rfl rfl rfl rfl ?_ | refine rx_e tbOk rfl rfl rfl rfl rfl ?_ | refine rx_yes tbOk rfl rfl rfl rfl rfl rfl ?_ | refine x_no rfl rfl (lookO_spec rfl) rfl rfl rfl ?_ | refine x_un rfl rfl (lookO_spec rfl) rfl rfl ?_) | ((first | refine' w_q rfl rfl ?xa rfl ?_ | refine' v_q rfl rfl ?xa rfl ?_ | refine' w_yes rfl rfl (lookO_spec rfl) rfl ?xa rfl ?_ | refine' v_yes rfl rfl (lookO_spec rfl) rfl ?xa rfl ?_); case xa => exact k_call (f_specGraphValid _ _ es hlm) rfl ⟨asA_agg (evO_spec rfl) ⟨cAr_r, cAr_r, trivial⟩, trivial⟩) | ((first | refine aw_ways rfl ?_ ?_ | refine r_split rfl rfl rfl ?_ ?_) <;> intro hg_ <;> fail_if_success (exact Bool.noConfusion hg_)) <;> (try simp only [prn] at hg_) <;> (try first | contradiction | (exfalso; omega)))
  all_goals try exact ret_tmp rfl (dres_bool (by unfold partsOk; simp_all))
  rename_i h1 h2
  have h3 := hg_
  clear hg_
  have hm := gOk_m h1
  have hmn : m = (vs.length : Int) := by omega
  have hmf : m = (fs.length : Int) := by omega
  have hge := gOk_edges h1
  rw [pSp_ok h1 hmn.symm hmf.symm]
  have hnoE : ∀ e ∈ es, partE (dV vs) e = false → pSp m es vs fs = false := fun e he h => by
    unfold pSp
    have : es.all (partE (dV vs)) = false := by rw [List.all_eq_false]; exact ⟨e, he, by simp [h]⟩
    rw [this]; rfl
  have hnoV : ∀ v : Nat, v < vs.length → Parts.vS vs.length (dV vs) (dV fs) (nr m es) v = false → pSp m es vs fs = false := fun v hv h => by
    unfold pSp
    have : (List.range vs.length).all (fun v : Nat => Parts.vS vs.length (dV vs) (dV fs) (nr m es) v) = false := by
      rw [List.all_eq_false]; exact ⟨v, by simp [hv], by simp [h]⟩
    rw [this]; simp
  have hyes : (∀ e ∈ es, partE (dV vs) e = true) → (∀ v : Nat, v < vs.length → Parts.vS vs.length (dV vs) (dV fs) (nr m es) v = true) → pSp m es vs fs = true := fun h h' => by
    unfold pSp
    rw [Bool.and_eq_true, List.all_eq_true, List.all_eq_true]
    exact ⟨h, fun v hv => h' v (by simpa using hv)⟩
  have hG := h1
  clear h1 h2 h3
  refine aw_loopI (fun k : Nat => k ≤ es.length ∧ ∀ e ∈ es.take k, partE (dV vs) e = true) (fun k => mkS 126 [(7, .one (.r true (int k))), (1, .one (.r false (row nil1 1 (ints vs)))), (2, .one (.r false (row nil2 1 (ints fs)))), (3, .one (.ptr 3 0 0 0))] [(3, .var 25 [.r false (int m), .r false (row nil 3 (edges es))])]) (fun k => es.length - k) 0 ⟨Nat.zero_le _, by simp⟩ (by (refine weak_ren [] rfl ?_ ?_ <;> repeat' (first | exact trivial | refine subR_cons rfl ?_ ?_ | refine subHR_cons rfl ?_ ?_ | rfl | (refine d_int ?_; (first | rfl | omega | (rw [IntWalk.i64_in _ (by omega)] <;> omega) | (simp; done) | (simp; omega))) | (refine d_bool ?_; (first | (simp_all; done) | (rw [Bool.eq_iff_iff]; simp_all; done) | (rw [Bool.eq_iff_iff]; simp_all; omega) | (rw [Bool.eq_iff_iff]; simp; omega)))))) ?_
  rintro k ⟨hk, HE⟩
  by_cases hlt : k < es.length
  · have hix := edges_at hlt
    have hgk := hge es[k] (List.getElem_mem hlt)
    have hem : es[k] ∈ es := List.getElem_mem hlt
    have hnext : partE (dV vs) es[k] = true → ∀ e ∈ es.take (k + 1), partE (dV vs) e = true := fun h e he => by
      rw [List.take_succ_eq_append_getElem hlt, List.mem_append] at he
      rcases he with he | he
      · exact HE e he
      · obtain rfl : e = es[k] := by simpa using he
        exact h
    generalize es[k] = e at *
    have hg0 := hgk.1.1
    have hg1 := hgk.1.2
    have hg2 := hgk.2.1.1
    have hg3 := hgk.2.1.2
    repeat' (first | (with_reducible first | refine aw_seq ?_ | refine thn_normal ?_ | refine thn_ret ?_ | refine thn_exit ?_ | refine blk_normal ?_ | refine blk_ret ?_ | refine blk_hit ?_ | refine blk_miss rfl ?_ | refine aw_block ?_ | refine aw_ret ?_ | refine aw_skip ?_ | refine aw_exit ?_ | refine w_nil ?_ | refine x_nil (by kernel_rfl) ?_) | refine aw_region ?_ | refine aw_region_draw (by kernel_rfl) ?_ | refine aw_yes rfl ?_ | refine aw_no rfl ?_ | ((with_reducible refine w_seq ?_); first | refine r_q tbOk rfl rfl rfl rfl ?_ | refine r_e tbOk rfl rfl rfl rfl rfl ?_ | refine r_yes tbOk rfl rfl rfl rfl rfl rfl ?_ | refine w_no rfl rfl (lookO_spec rfl) rfl rfl rfl ?_ | refine w_un rfl rfl (lookO_spec rfl) rfl rfl ?_) | ((with_reducible refine w_drw ?_); first | refine rx_q tbOk rfl rfl rfl rfl ?_ | refine rx_e tbOk rfl rfl rfl rfl rfl ?_ | refine rx_yes tbOk rfl rfl rfl rfl rfl rfl ?_ | refine x_no rfl rfl (lookO_spec rfl) rfl rfl rfl ?_ | refine x_un rfl rfl (lookO_spec rfl) rfl rfl ?_) | ((first | refine' w_q rfl rfl ?xa rfl ?_ | refine' v_q rfl rfl ?xa rfl ?_ | refine' w_yes rfl rfl (lookO_spec rfl) rfl ?xa rfl ?_ | refine' v_yes rfl rfl (lookO_spec rfl) rfl ?xa rfl ?_); case xa => exact k_index tbOk rfl rfl rfl rfl (by omega) (by first | exact hix | exact ints_atD (by omega) (by omega))) | ((first | refine aw_ways rfl ?_ ?_ | refine r_split rfl rfl rfl ?_ ?_) <;> intro hg_ <;> fail_if_success (exact Bool.noConfusion hg_)) <;> (try simp only [prn] at hg_) <;> (try first | contradiction | (exfalso; omega)))
    all_goals first
      | exact ret_tmp rfl (dres_bool (hnoE e hem (by unfold partE; simpa using hg_)).symm)
      | exact ⟨k + 1, ⟨by omega, hnext (by unfold partE; simpa using hg_)⟩, by (refine weak_ren [] rfl ?_ ?_ <;> repeat' (first | exact trivial | refine subR_cons rfl ?_ ?_ | refine subHR_cons rfl ?_ ?_ | rfl | (refine d_int ?_; (first | rfl | omega | (rw [IntWalk.i64_in _ (by omega)] <;> omega) | (simp; done) | (simp; omega))) | (refine d_bool ?_; (first | (simp_all; done) | (rw [Bool.eq_iff_iff]; simp_all; done) | (rw [Bool.eq_iff_iff]; simp_all; omega) | (rw [Bool.eq_iff_iff]; simp; omega))))), by omega⟩
      | trace_state
  · have HE : ∀ e ∈ es, partE (dV vs) e = true := by rwa [List.take_of_length_le (by omega)] at HE
    repeat' (first | (with_reducible first | refine aw_seq ?_ | refine thn_normal ?_ | refine thn_ret ?_ | refine thn_exit ?_ | refine blk_normal ?_ | refine blk_ret ?_ | refine blk_hit ?_ | refine blk_miss rfl ?_ | refine aw_block ?_ | refine aw_ret ?_ | refine aw_skip ?_ | refine aw_exit ?_ | refine w_nil ?_ | refine x_nil (by kernel_rfl) ?_) | refine aw_region ?_ | refine aw_region_draw (by kernel_rfl) ?_ | refine aw_yes rfl ?_ | refine aw_no rfl ?_ | ((with_reducible refine w_seq ?_); first | refine r_q tbOk rfl rfl rfl rfl ?_ | refine r_e tbOk rfl rfl rfl rfl rfl ?_ | refine r_yes tbOk rfl rfl rfl rfl rfl rfl ?_ | refine w_no rfl rfl (lookO_spec rfl) rfl rfl rfl ?_ | refine w_un rfl rfl (lookO_spec rfl) rfl rfl ?_) | ((with_reducible refine w_drw ?_); first | refine rx_q tbOk rfl rfl rfl rfl ?_ | refine rx_e tbOk rfl rfl rfl rfl rfl ?_ | refine rx_yes tbOk rfl rfl rfl rfl rfl rfl ?_ | refine x_no rfl rfl (lookO_spec rfl) rfl rfl rfl ?_ | refine x_un rfl rfl (lookO_spec rfl) rfl rfl ?_) | ((first | refine aw_ways rfl ?_ ?_ | refine r_split rfl rfl rfl ?_ ?_) <;> intro hg_ <;> fail_if_success (exact Bool.noConfusion hg_)) <;> (try simp only [prn] at hg_) <;> (try first | contradiction | (exfalso; omega)))
    clear hg_ hlt hk hge hnoE
    refine aw_loopI (fun v : Nat => v ≤ vs.length ∧ ∀ u : Nat, u < v → Parts.vS vs.length (dV vs) (dV fs) (nr m es) u = true) (fun v => mkS 126 [(8, .one (.r true (int v))), (1, .one (.r false (row nil1 1 (ints vs)))), (2, .one (.r false (row nil2 1 (ints fs)))), (3, .one (.ptr 3 0 0 0))] [(3, .var 25 [.r false (int m), .r false (row nil 3 (edges es))])]) (fun v => vs.length - v) 0 ⟨Nat.zero_le _, fun u hu => by omega⟩ (by (refine weak_ren [] rfl ?_ ?_ <;> repeat' (first | exact trivial | refine subR_cons rfl ?_ ?_ | refine subHR_cons rfl ?_ ?_ | rfl | (refine d_int ?_; (first | rfl | omega | (rw [IntWalk.i64_in _ (by omega)] <;> omega) | (simp; done) | (simp; omega))) | (refine d_bool ?_; (first | (simp_all; done) | (rw [Bool.eq_iff_iff]; simp_all; done) | (rw [Bool.eq_iff_iff]; simp_all; omega) | (rw [Bool.eq_iff_iff]; simp; omega)))))) ?_
    rintro v ⟨hv, HV⟩
    repeat' (first | (with_reducible first | refine aw_seq ?_ | refine thn_normal ?_ | refine thn_ret ?_ | refine thn_exit ?_ | refine blk_normal ?_ | refine blk_ret ?_ | refine blk_hit ?_ | refine blk_miss rfl ?_ | refine aw_block ?_ | refine aw_ret ?_ | refine aw_skip ?_ | refine aw_exit ?_ | refine w_nil ?_ | refine x_nil (by kernel_rfl) ?_) | refine aw_region ?_ | refine aw_region_draw (by kernel_rfl) ?_ | refine aw_yes rfl ?_ | refine aw_no rfl ?_ | ((with_reducible refine w_seq ?_); first | refine r_q tbOk rfl rfl rfl rfl ?_ | refine r_e tbOk rfl rfl rfl rfl rfl ?_ | refine r_yes tbOk rfl rfl rfl rfl rfl rfl ?_ | refine w_no rfl rfl (lookO_spec rfl) rfl rfl rfl ?_ | refine w_un rfl rfl (lookO_spec rfl) rfl rfl ?_) | ((with_reducible refine w_drw ?_); first | refine rx_q tbOk rfl rfl rfl rfl ?_ | refine rx_e tbOk rfl rfl rfl rfl rfl ?_ | refine rx_yes tbOk rfl rfl rfl rfl rfl rfl ?_ | refine x_no rfl rfl (lookO_spec rfl) rfl rfl rfl ?_ | refine x_un rfl rfl (lookO_spec rfl) rfl rfl ?_) | ((first | refine' w_q rfl rfl ?xa rfl ?_ | refine' v_q rfl rfl ?xa rfl ?_ | refine' w_yes rfl rfl (lookO_spec rfl) rfl ?xa rfl ?_ | refine' v_yes rfl rfl (lookO_spec rfl) rfl ?xa rfl ?_); case xa => first | exact k_index tbOk rfl rfl rfl rfl (by omega) (by exact ints_atD (by omega) (by omega)) | exact k_call (f_l1In _ _ _) rfl ⟨asA_r (evO_spec rfl), asA_r (evO_spec rfl), asA_r (evO_spec rfl), trivial⟩) | ((first | refine aw_ways rfl ?_ ?_ | refine r_split rfl rfl rfl ?_ ?_) <;> intro hg_ <;> fail_if_success (exact Bool.noConfusion hg_)) <;> (try simp only [prn] at hg_) <;> (try first | contradiction | (exfalso; omega)))
    all_goals try first
      | exact ret_tmp rfl (dres_bool (hyes HE fun v hv => HV v (by omega)).symm)
      | exact ret_tmp rfl (dres_bool (hnoV v (by omega) (vS_no1 _ _ _ _ _ (by assumption) (by assumption))).symm)
      | exact ret_tmp rfl (dres_bool (hnoV v (by omega) (vS_no2 _ _ _ _ _ (by assumption))).symm)
    all_goals
      have hvl : v < vs.length := by omega
      have hd0 : 0 ≤ dV vs v ∧ dV vs v ≤ v := by unfold inR at hg_; simpa using hg_
      have hvS : Parts.vS vs.length (dV vs) (dV fs) (nr m es) v = Parts.runP (dV vs) (dV fs) (nr m es) (dV vs v) (vs.length + 1) v := by
        unfold Parts.vS Costs.inn
        rw [decide_eq_true hd0]
        first
          | (rw [decide_eq_true (show dV fs v = -1 by assumption)]; simp; done)
          | (rw [decide_eq_false (show ¬ dV vs v = v by assumption)]; simp; done)
      have hnext : Parts.vS vs.length (dV vs) (dV fs) (nr m es) v = true → ∀ u : Nat, u < v + 1 → Parts.vS vs.length (dV vs) (dV fs) (nr m es) u = true := fun h u hu => by
        rcases Nat.lt_succ_iff_lt_or_eq.1 hu with hu | rfl
        · exact HV u hu
        · exact h
      clear hg_
      refine aw_loopI (fun x : Bool × Nat × Int => x.2.1 ≤ vs.length + 1 ∧ (0 ≤ x.2.2 ∧ x.2.2 < m) ∧ Parts.vS vs.length (dV vs) (dV fs) (nr m es) v = Parts.runP (dV vs) (dV fs) (nr m es) (dV vs v) (vs.length + 1 - x.2.1) x.2.2) (fun x => mkS 126 [(10, .one (.r true (int x.2.1))), (9, .one (.r x.1 (int x.2.2))), (8, .one (.r true (int v))), (1, .one (.r false (row nil1 1 (ints vs)))), (2, .one (.r false (row nil2 1 (ints fs)))), (3, .one (.ptr 3 0 0 0))] [(3, .var 25 [.r false (int m), .r false (row nil 3 (edges es))])]) (fun x => vs.length + 1 - x.2.1) (true, 0, (v : Int)) ⟨Nat.zero_le _, ⟨by show (0 : Int) ≤ v; omega, by show (v : Int) < m; omega⟩, hvS⟩ (by (refine weak_ren [] rfl ?_ ?_ <;> repeat' (first | exact trivial | refine subR_cons rfl ?_ ?_ | refine subHR_cons rfl ?_ ?_ | rfl | (refine d_int ?_; (first | rfl | omega | (rw [IntWalk.i64_in _ (by omega)] <;> omega) | (simp; done) | (simp; omega))) | (refine d_bool ?_; (first | (simp_all; done) | (rw [Bool.eq_iff_iff]; simp_all; done) | (rw [Bool.eq_iff_iff]; simp_all; omega) | (rw [Bool.eq_iff_iff]; simp; omega)))))) ?_
      rintro x ⟨hj, ⟨ha0, ha1⟩, HR⟩
      clear hvS
      by_cases hlt2 : x.2.1 ≤ vs.length ∧ x.2.2 ≠ dV vs v
      · obtain ⟨hj1, has⟩ := hlt2
        obtain ⟨n, hn⟩ : ∃ n, vs.length + 1 - x.2.1 = n + 1 := ⟨vs.length - x.2.1, by omega⟩
        have hn' : vs.length + 1 - (x.2.1 + 1) = n := by omega
        simp only [hn, runP_s, decide_eq_false has, Bool.false_or] at HR
        have hnr : nr m es x.2.2 (dV fs x.2.2) = (nearL m es x.2.2).any (fun z => decide (z = dV fs x.2.2)) := (nearL_any hG _ _).symm
        rw [hnr] at HR
        have hp : ((nearL m es x.2.2).any fun z => decide (z = dV fs x.2.2)) = true → 0 ≤ dV fs x.2.2 ∧ dV fs x.2.2 < m := fun h => by
          rw [nearL_any hG] at h; unfold hasV at h; simp at h; omega
        have hnl := nearL_len m es x.2.2
        have hcall := fun nil => f_l7Has nil (nearL m es x.2.2) (dV fs x.2.2) (by omega)
        generalize (nearL m es x.2.2).any (fun z => decide (z = dV fs x.2.2)) = B at *
        repeat' (first | (with_reducible first | refine aw_seq ?_ | refine thn_normal ?_ | refine thn_ret ?_ | refine thn_exit ?_ | refine blk_normal ?_ | refine blk_ret ?_ | refine blk_hit ?_ | refine blk_miss rfl ?_ | refine aw_block ?_ | refine aw_ret ?_ | refine aw_skip ?_ | refine aw_exit ?_ | refine w_nil ?_ | refine x_nil (by kernel_rfl) ?_) | refine aw_region ?_ | refine aw_region_draw (by kernel_rfl) ?_ | refine aw_yes rfl ?_ | refine aw_no rfl ?_ | ((with_reducible refine w_seq ?_); first | refine r_q tbOk rfl rfl rfl rfl ?_ | refine r_e tbOk rfl rfl rfl rfl rfl ?_ | refine r_yes tbOk rfl rfl rfl rfl rfl rfl ?_ | refine w_no rfl rfl (lookO_spec rfl) rfl rfl rfl ?_ | refine w_un rfl rfl (lookO_spec rfl) rfl rfl ?_) | ((with_reducible refine w_drw ?_); first | refine rx_q tbOk rfl rfl rfl rfl ?_ | refine rx_e tbOk rfl rfl rfl rfl rfl ?_ | refine rx_yes tbOk rfl rfl rfl rfl rfl rfl ?_ | refine x_no rfl rfl (lookO_spec rfl) rfl rfl rfl ?_ | refine x_un rfl rfl (lookO_spec rfl) rfl rfl ?_) | ((first | refine' w_q rfl rfl ?xa rfl ?_ | refine' v_q rfl rfl ?xa rfl ?_ | refine' w_yes rfl rfl (lookO_spec rfl) rfl ?xa rfl ?_ | refine' v_yes rfl rfl (lookO_spec rfl) rfl ?xa rfl ?_); case xa => first | exact k_index tbOk rfl rfl rfl rfl (by first | omega | exact (hp (by assumption)).1) (by first | exact ints_atD (by omega) (by omega) | exact ints_atD (hp (by assumption)).1 (by have := (hp (by assumption)).2; omega)) | exact k_call (f_specNearOf m _ es _ hlm hG) rfl ⟨asA_agg (evO_spec rfl) ⟨cAr_r, cAr_r, trivial⟩, asA_r (evO_spec rfl), trivial⟩ | exact k_call (hcall _) rfl ⟨asA_r (evO_spec rfl), asA_r (evO_spec rfl), trivial⟩) | ((first | refine aw_ways rfl ?_ ?_ | refine r_split rfl rfl rfl ?_ ?_) <;> intro hg_ <;> fail_if_success (exact Bool.noConfusion hg_)) <;> (try simp only [prn] at hg_) <;> (try first | contradiction | (exfalso; omega)))
        all_goals first
          | exact ret_tmp rfl (dres_bool (hnoV v hvl (by rw [HR]; clear hnext HE HV hyes hnoV HR; simp_all)).symm)
          | exact ⟨(false, x.2.1 + 1, dV fs x.2.2), ⟨by simp only; omega, hp (by assumption), by rw [HR]; simp only [hn']; clear hnext HE HV hyes hnoV HR; simp_all⟩, by (refine weak_ren [] rfl ?_ ?_ <;> repeat' (first | exact trivial | refine subR_cons rfl ?_ ?_ | refine subHR_cons rfl ?_ ?_ | rfl | (refine d_int ?_; (first | rfl | omega | (rw [IntWalk.i64_in _ (by omega)] <;> omega) | (simp; done) | (simp; omega))) | (refine d_bool ?_; (first | (simp_all; done) | (rw [Bool.eq_iff_iff]; simp_all; done) | (rw [Bool.eq_iff_iff]; simp_all; omega) | (rw [Bool.eq_iff_iff]; simp; omega))) | exact d_int (by simp only; rw [IntWalk.i64_in _ (by omega)]; omega))), by simp only; omega⟩
          | trace_state
      · repeat' (first | (with_reducible first | refine aw_seq ?_ | refine thn_normal ?_ | refine thn_ret ?_ | refine thn_exit ?_ | refine blk_normal ?_ | refine blk_ret ?_ | refine blk_hit ?_ | refine blk_miss rfl ?_ | refine aw_block ?_ | refine aw_ret ?_ | refine aw_skip ?_ | refine aw_exit ?_ | refine w_nil ?_ | refine x_nil (by kernel_rfl) ?_) | refine aw_region ?_ | refine aw_region_draw (by kernel_rfl) ?_ | refine aw_yes rfl ?_ | refine aw_no rfl ?_ | ((with_reducible refine w_seq ?_); first | refine r_q tbOk rfl rfl rfl rfl ?_ | refine r_e tbOk rfl rfl rfl rfl rfl ?_ | refine r_yes tbOk rfl rfl rfl rfl rfl rfl ?_ | refine w_no rfl rfl (lookO_spec rfl) rfl rfl rfl ?_ | refine w_un rfl rfl (lookO_spec rfl) rfl rfl ?_) | ((with_reducible refine w_drw ?_); first | refine rx_q tbOk rfl rfl rfl rfl ?_ | refine rx_e tbOk rfl rfl rfl rfl rfl ?_ | refine rx_yes tbOk rfl rfl rfl rfl rfl rfl ?_ | refine x_no rfl rfl (lookO_spec rfl) rfl rfl rfl ?_ | refine x_un rfl rfl (lookO_spec rfl) rfl rfl ?_) | ((first | refine' w_q rfl rfl ?xa rfl ?_ | refine' v_q rfl rfl ?xa rfl ?_ | refine' w_yes rfl rfl (lookO_spec rfl) rfl ?xa rfl ?_ | refine' v_yes rfl rfl (lookO_spec rfl) rfl ?xa rfl ?_); case xa => exact k_index tbOk rfl rfl rfl rfl (by omega) (by exact ints_atD (by omega) (by omega))) | ((first | refine aw_ways rfl ?_ ?_ | refine r_split rfl rfl rfl ?_ ?_) <;> intro hg_ <;> fail_if_success (exact Bool.noConfusion hg_)) <;> (try simp only [prn] at hg_) <;> (try first | contradiction | (exfalso; omega)))
        all_goals first
          | exact ret_tmp rfl (dres_bool (hnoV v hvl (by rw [HR, show vs.length + 1 - x.2.1 = 0 by omega, runP_z]; simpa using hg_)).symm)
          | exact ⟨v + 1, ⟨by omega, hnext (by rw [HR, show x.2.2 = dV vs v from by assumption]; exact runP_at _ _ _ _ _)⟩, by (refine weak_ren [] rfl ?_ ?_ <;> repeat' (first | exact trivial | refine subR_cons rfl ?_ ?_ | refine subHR_cons rfl ?_ ?_ | rfl | (refine d_int ?_; (first | rfl | omega | (rw [IntWalk.i64_in _ (by omega)] <;> omega) | (simp; done) | (simp; omega))) | (refine d_bool ?_; (first | (simp_all; done) | (rw [Bool.eq_iff_iff]; simp_all; done) | (rw [Bool.eq_iff_iff]; simp_all; omega) | (rw [Bool.eq_iff_iff]; simp; omega))))), by omega⟩
          | trace_state
end Go.Proofs.YtfdaoepbdolgiaaDoor.Abs
