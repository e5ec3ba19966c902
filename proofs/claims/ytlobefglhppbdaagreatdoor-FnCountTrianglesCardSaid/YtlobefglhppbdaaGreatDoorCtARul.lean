/- Degrees and triangles by states: the program. No statement of the seat is proved here. -/
import Derived.Lib.Hide
import Derived.Test.YtlobefglhppbdaaGreatDoorCtTy
import Derived.Test.YtlobefglhppbdaaGreatDoorCtGOrd
import Derived.Test.YtlobefglhppbdaaGreatDoorCtAMsk
import Derived.Test.YtlobefglhppbdaaGreatDoorCtAList
import Derived.Test.YtlobefglhppbdaaGreatDoorCtAInO
import Derived.Test.YtlobefglhppbdaaGreatDoorCtAHopJ
import Derived.Test.YtlobefglhppbdaaGreatDoorCtAAdd
import Derived.Test.YtlobefglhppbdaaGreatDoorCtAbsI
import Derived.Test.YtlobefglhppbdaaGreatDoorCtAProg
set_option linter.unusedSimpArgs false
set_option linter.unusedVariables false
set_option maxRecDepth 100000
set_option maxHeartbeats 8000000
namespace Go.Proofs.YtlobefglhppbdaaGreatDoor.Abs
open Go.RowKit
open R (val row ref)
def fillI (L : List Int) (k : Nat) : List Int := L.take k ++ List.replicate (L.length - k) 0
theorem fillI_len (L : List Int) {k : Nat} (h : k ≤ L.length) : (fillI L k).length = L.length := by unfold fillI; simp; omega
theorem fillI_zero (L : List Int) : fillI L 0 = List.replicate L.length 0 := by unfold fillI; simp
theorem fillI_set {L : List Int} {k : Nat} (h : k < L.length) : (fillI L k).set k L[k] = fillI L (k + 1) := fill_step L 0 k h
theorem fillI_all (L : List Int) : fillI L L.length = L := by unfold fillI; simp
theorem fillI_get {L : List Int} {k : Nat} (h : k < L.length) : (fillI L k)[k]? = some 0 := fill_get L 0 k h
theorem lt256 {x : Nat} (h : ∀ p, 8 ≤ p → x.testBit p = false) : x < 256 := by
  have := Nat.lt_pow_two_of_testBit (n := 8) x (fun i hi => h i hi)
  simpa using this
theorem near_256 {m : Int} {es : List E3} (hg : gOk m es = true) {M : Nat} (hm : m = (M : Int)) (h7 : M ≤ 7) (v : Nat) : (nearM M es).getD v 0 < 256 := by
  refine lt256 fun p hp => ?_
  rw [near_tb hg hm]
  cases h : adj es v p with
  | false => rfl
  | true => have := adj_lt hg hm h; omega
theorem sub_256 {x y : Nat} (hx : x < 256) : x &&& y < 256 := Nat.lt_of_le_of_lt Nat.and_le_left hx
def degL (m : Int) (es : List E3) : List Int := (allV m).map fun v => ((nearL m es v).length : Int)
theorem degL_len {m : Int} {M : Nat} (hm : m = (M : Int)) (es : List E3) : (degL m es).length = M := by unfold degL; rw [List.length_map, allV_M m hm]
theorem degL_at {m : Int} {M : Nat} (hm : m = (M : Int)) (es : List E3) {k : Nat} (h : k < (degL m es).length) : (degL m es)[k] = ((nearL m es (k : Int)).length : Int) := by
  have hk : k < (allV m).length := by unfold degL at h; rwa [List.length_map] at h
  have e := allV_at m hm hk
  simp only [degL, List.getElem_map, e]
theorem ob_fill {L : List Int} {k : Nat} {z : Int} (h : k < L.length) (hz : z = L[k]) : (ints (fillI L k)).set (0 + k) (iP z) = ints (fillI L (k + 1)) := by
  rw [Nat.zero_add, hz, ints_set, fillI_set h]
theorem f_degrees (m : Int) (nil : Bool) (es : List E3) (hg : gOk m es = true) {M : Nat} (hm : m = (M : Int)) (h7 : M ≤ 7) : Fn Tryz.prog 13 [graphP m nil es] (.v (.one (row false 1 (ints (degL m es))))) := by
  subst hm
  have hm : (M : Int) = (M : Int) := rfl
  have hl40 := gOk_len hg
  have KG := f_implGraphValid (M : Int) nil es (by simp only [maxLen]; omega)
  rw [hg] at KG
  have KN := f_nearMasks M nil es oM oM (in_M hg hm)
  have hnl := near_len hg hm
  have h256 := near_256 hg hm h7
  have hbn := bits_near hg hm
  have hdl := degL_len hm es
  have hda := fun k (h : k < (degL (M : Int) es).length) => degL_at hm es h
  generalize degL (M : Int) es = DL at *
  generalize nearM M es = NM at *
  have hnlm : (NM.map mP).length = M := by rw [List.length_map]; exact hnl
  refine fn_of (l := [.tmp 2]) Tryz.func13 kRf rfl Tryz.ntmps13 rfl rfl ?_; simp only [argEnv, P0.d, Nat.reduceAdd, graphP, List.map_cons, List.map_nil]
  repeat' (first|refine wk ?_|((first|refine' w_q rfl rfl ?xa rfl ?_|refine' v_q rfl rfl ?xa rfl ?_|refine' w_yes rfl rfl (lookO_spec rfl) rfl ?xa rfl ?_|refine' v_yes rfl rfl (lookO_spec rfl) rfl ?xa rfl ?_);case xa => exact k_call KG rfl ⟨asA_agg (evO_spec rfl) ⟨cAr_r, cAr_r, trivial⟩, trivial⟩)|((first|refine' w_e rfl ?xa ?xb ?xc ?xe ?_|refine' v_e rfl ?xa ?xb ?xc ?xe ?_);(case xa => first|exact e_make tlOk rfl rfl rfl rfl rfl rfl (c := M) rfl rfl oM (by simp only [maxLen];omega)|exact e_callO KN rfl rfl ⟨asA_agg (evO_spec rfl) ⟨cAr_r, cAr_r, trivial⟩, trivial⟩);(case xb|xc|xe=>rfl);try refine wkD ?_)|(refine wkB ?_ ?_<;>intro hg_<;>try exact wkX)|fail)
  refine aw_loopI (fun k : Nat => k ≤ M) (fun k => mkS 27 [(15, .one (.r true (int k))), (14, .one (.r true (int (NM.map mP).length))), (13, .one (.own 101 0 (NM.map mP).length 1)), (3, .one (.own 100 0 M 1))] [(101, .sl 44 1 true (NM.map mP)), (100, .sl 3 1 true (ints (fillI DL k)))]) (fun k => M - k) 0 (Nat.zero_le _) (by (refine weak_ren [(101, 13), (100, 11)] rfl ?_ ?_ <;> repeat' (first|refine wkS ?_ ?_|exact wkE|exact ob_sl rfl (by rw [fillI_zero, hdl];simp [ints, iP])))) ?_
  intro k hk
  by_cases hlt : k < M
  · have KS := f_size (NM.getD k 0) (h256 k)
    have hfl := fillI_len DL (k := k) oM
    have hil : (ints (fillI DL k)).length = M := by rw [ints_len, hfl, hdl]
    have hz := hda k oM
    rw [← hbn k] at hz
    have hS := ob_fill (L := DL) (k := k) oM hz.symm
    have hx : 0 + ((k : Nat) : Int).toNat = k := by omega
    clear hz hda hbn
    generalize ints (fillI DL k) = A at *
    rw [Nat.zero_add] at hS
    repeat' (first|refine wk ?_|((first|refine' w_q rfl rfl ?xa rfl ?_|refine' v_q rfl rfl ?xa rfl ?_|refine' w_yes rfl rfl (lookO_spec rfl) rfl ?xa rfl ?_|refine' v_yes rfl rfl (lookO_spec rfl) rfl ?xa rfl ?_);case xa => first|exact k_indexO tbOk rfl rfl rfl rfl oM oM|exact k_loadM tbOk rfl rfl rfl rfl oM|exact k_call KS rfl ⟨by rw [evO_spec rfl, hx];exact asArg_r, trivial⟩)|((first|refine' w_e rfl ?xa ?xb ?xc ?xe ?_|refine' v_e rfl ?xa ?xb ?xc ?xe ?_);(case xa => exact e_storeS tbOk rfl rfl rfl rfl rfl rfl rfl rfl oM);(case xb|xc|xe=>rfl);try refine wkD ?_)|(refine wkB ?_ ?_<;>intro hg_<;>try exact wkX)|fail)
    all_goals first
      | exact ⟨k + 1, by omega, by (refine weak_ren [] rfl ?_ ?_ <;> repeat' (first|refine wkS ?_ ?_|exact wkE|exact ob_sl rfl (by rw [hx];exact hS))), by omega⟩
      | fail
  · obtain rfl : k = M := by omega
    repeat' (first|refine wk ?_|(refine wkB ?_ ?_<;>intro hg_<;>try exact wkX)|fail)
    rw [show k = DL.length from hdl.symm, fillI_all] at *
    all_goals first
      | exact ret_tmp rfl (dres_one (cres_own0 (lookHO_spec rfl) (by rw [ints_len])))
      | fail
def accT (es : List E3) (l : List Int) (j : Nat) : Nat := ((l.take j).map fun b => (l.filter fun a => decide (a < b) && adj es b a).length).sum
theorem accT_succ (es : List E3) {l : List Int} {j : Nat} (h : j < l.length) : accT es l (j + 1) = accT es l j + (l.filter fun a => decide (a < l[j]) && adj es l[j] a).length := by
  unfold accT
  rw [List.take_succ_eq_append_getElem h, List.map_append, List.sum_append]
  simp
theorem accT_end (m : Int) (es : List E3) (v : Int) : accT es (leL m es v) (leL m es v).length = triV m es v := by
  unfold accT triV triT
  rw [List.take_length]
theorem accT_le (es : List E3) (l : List Int) (h7 : l.length ≤ 7) (j : Nat) : accT es l j ≤ 49 := by
  unfold accT
  refine Nat.le_trans (sum_le _ (fun _ => 7) _ fun b _ => Nat.le_trans (List.length_filter_le _ _) h7) ?_
  rw [sum_const, List.length_take]
  have : min j l.length ≤ 7 := by omega
  omega
def trL (m : Int) (es : List E3) : List Int := (allV m).map fun v => (triV m es v : Int)
theorem trL_len {m : Int} {M : Nat} (hm : m = (M : Int)) (es : List E3) : (trL m es).length = M := by unfold trL; rw [List.length_map, allV_M m hm]
theorem trL_at {m : Int} {M : Nat} (hm : m = (M : Int)) (es : List E3) {k : Nat} (h : k < (trL m es).length) : (trL m es)[k] = (triV m es (k : Int) : Int) := by
  have hk : k < (allV m).length := by unfold trL at h; rwa [List.length_map] at h
  have e := allV_at m hm hk
  simp only [trL, List.getElem_map, e]
def rowT (L : List Int) (k : Nat) (a : Int) : List Int := (fillI L k).set k a
theorem rowT_len (L : List Int) {k : Nat} (h : k ≤ L.length) (a : Int) : (rowT L k a).length = L.length := by unfold rowT; rw [List.length_set, fillI_len L h]
theorem rowT_zero {L : List Int} {k : Nat} (h : k < L.length) : rowT L k 0 = fillI L k := by
  unfold rowT
  obtain ⟨h1, h2⟩ := List.getElem?_eq_some_iff.1 (fillI_get h)
  refine List.ext_getElem (by simp) fun i h3 h4 => ?_
  rw [List.getElem_set]
  split
  · rename_i e; subst e; exact h2.symm
  · rfl
theorem rowT_get {L : List Int} {k : Nat} (h : k < L.length) (a : Int) : (rowT L k a).getD (0 + ((k : Nat) : Int).toNat) 0 = a := by
  unfold rowT
  have := fillI_len L (k := k) oM
  rw [Nat.zero_add, Int.toNat_natCast, List.getD_eq_getElem?_getD, List.getElem?_set_self oM]; rfl
theorem rowT_set (L : List Int) (k : Nat) (a b : Int) : (ints (rowT L k a)).set (0 + ((k : Nat) : Int).toNat) (iP b) = ints (rowT L k b) := by
  unfold rowT
  rw [Nat.zero_add, Int.toNat_natCast, ints_set, List.set_set]
theorem rowT_end {L : List Int} {k : Nat} (h : k < L.length) : rowT L k L[k] = fillI L (k + 1) := fillI_set h
theorem f_implTri (m : Int) (nil : Bool) (es : List E3) (hg : gOk m es = true) {M : Nat} (hm : m = (M : Int)) (h7 : M ≤ 7) : Fn Tryz.prog 5 [graphP m nil es] (.v (.one (row false 1 (ints (trL m es))))) := by
  subst hm
  have hm : (M : Int) = (M : Int) := rfl
  have hl40 := gOk_len hg
  have KG := f_implGraphValid (M : Int) nil es (by simp only [maxLen]; omega)
  rw [hg] at KG
  have KN := f_nearMasks M nil es oM oM (in_M hg hm)
  have hnl := near_len hg hm
  have h256 := near_256 hg hm h7
  have hsm := near_sm hg hm
  have hbb := bits_below hg hm
  have hbt := bits_tri hg hm
  have hle := fun v => leL_M hg hm (es := es) v
  have hin : ∀ v b : Int, b ∈ leL (M : Int) es v → 0 ≤ b ∧ b < (M : Int) := fun v b hb => by
    unfold leL at hb
    rw [List.mem_filter, nearL_eq hg, List.mem_filter] at hb
    exact mem_allV hg hm hb.1.1
  have hend := fun v => accT_end (M : Int) es v
  have hdl := trL_len hm es
  have hda := fun k (h : k < (trL (M : Int) es).length) => trL_at hm es h
  generalize trL (M : Int) es = TL at *
  generalize nearM M es = NM at *
  have hnlm : (NM.map mP).length = M := by rw [List.length_map]; exact hnl
  refine fn_of (l := [.tmp 2]) Tryz.func5 kRf rfl Tryz.ntmps5 rfl rfl ?_; simp only [argEnv, P0.d, Nat.reduceAdd, graphP, List.map_cons, List.map_nil]
  repeat' (first|refine wk ?_|((first|refine' w_q rfl rfl ?xa rfl ?_|refine' v_q rfl rfl ?xa rfl ?_|refine' w_yes rfl rfl (lookO_spec rfl) rfl ?xa rfl ?_|refine' v_yes rfl rfl (lookO_spec rfl) rfl ?xa rfl ?_);case xa => exact k_call KG rfl ⟨asA_agg (evO_spec rfl) ⟨cAr_r, cAr_r, trivial⟩, trivial⟩)|((first|refine' w_e rfl ?xa ?xb ?xc ?xe ?_|refine' v_e rfl ?xa ?xb ?xc ?xe ?_);(case xa => first|exact e_make tlOk rfl rfl rfl rfl rfl rfl (c := M) rfl rfl oM (by simp only [maxLen];omega)|exact e_callO KN rfl rfl ⟨asA_agg (evO_spec rfl) ⟨cAr_r, cAr_r, trivial⟩, trivial⟩);(case xb|xc|xe=>rfl);try refine wkD ?_)|(refine wkB ?_ ?_<;>intro hg_<;>try exact wkX)|fail)
  clear KG KN
  obtain ⟨F, hF⟩ : ∃ F : Nat → St, ∀ k, F k = mkS 53 [(19, .one (.r true (int k))), (18, .one (.r true (int M))), (4, .one (.own 100 0 M 1)), (3, .one (.own 101 0 (NM.map mP).length 1))] [(101, .sl 44 1 true (NM.map mP)), (100, .sl 3 1 true (ints (fillI TL k)))] := ⟨_, fun _ => rfl⟩
  refine aw_loopI (fun k : Nat => k ≤ M) F (fun k => M - k) 0 (Nat.zero_le _) (by rw [hF];(refine weak_ren [(101, 13), (100, 16)] rfl ?_ ?_ <;> repeat' (first|refine wkS ?_ ?_|exact wkE|exact ob_sl rfl (by rw [fillI_zero, hdl];simp [ints, iP])))) ?_
  intro k hk
  rw [hF]
  by_cases hlt : k < M
  · have hx : 0 + ((k : Nat) : Int).toNat = k := by omega
    have KB := f_below (NM.getD k 0) (k : Int) (hsm k) oM oM
    rw [Int.toNat_natCast] at KB
    have hLs := h256 k
    have hL2 : belowN (NM.getD k 0) k < 256 := sub_256 hLs
    have KL := f_list (belowN (NM.getD k 0) k) oM
    have hls := hle (k : Int)
    have hbk := hbb k
    have hbt := hbt k
    have hink := hin (k : Int)
    have hendk := hend (k : Int)
    have htk := hda k oM
    rw [hbk] at KL
    clear hbb hle hin hend hda hbk
    generalize belowN (NM.getD k 0) k = LM at *
    generalize triV (M : Int) es (k : Int) = TK at *
    generalize leL (M : Int) es (k : Int) = ls at *
    have hlsl := ints_len ls
    generalize decide (LM = 0) = nb at *
    have h0 := rowT_zero (L := TL) (k := k) oM
    repeat' (first|refine wk ?_|((first|refine' w_q rfl rfl ?xa rfl ?_|refine' v_q rfl rfl ?xa rfl ?_|refine' w_yes rfl rfl (lookO_spec rfl) rfl ?xa rfl ?_|refine' v_yes rfl rfl (lookO_spec rfl) rfl ?xa rfl ?_);case xa => first|exact k_indexO tbOk rfl rfl rfl rfl oM oM|exact k_loadM tbOk rfl rfl rfl rfl oM|exact k_call KB rfl ⟨by rw [evO_spec rfl, hx];exact asArg_r, asA_r (evO_spec rfl), trivial⟩|exact k_call KL rfl ⟨asA_r (evO_spec rfl), trivial⟩)|(refine wkB ?_ ?_<;>intro hg_<;>try exact wkX)|fail)
    obtain ⟨G, hG⟩ : ∃ G : Nat → St, ∀ j, G j = mkS 53 [(31, .one (.r true (int j))), (30, .one (.r true (int ls.length))), (29, .one (.r true (row nb 1 (ints ls)))), (6, .one (.r true (R.val (.int .u32 (LM : Int))))), (5, .one (.r true (int k))), (19, .one (.r true (int k))), (18, .one (.r true (int M))), (4, .one (.own 100 0 M 1)), (3, .one (.own 101 0 (NM.map mP).length 1))] [(101, .sl 44 1 true (NM.map mP)), (100, .sl 3 1 true (ints (rowT TL k (accT es ls j : Int))))] := ⟨_, fun _ => rfl⟩
    refine aw_loopI (fun j : Nat => j ≤ ls.length) G (fun j => ls.length - j) 0 (Nat.zero_le _) (by rw [hG];(refine weak_ren [] rfl ?_ ?_ <;> repeat' (first|refine wkS ?_ ?_|exact wkE|exact ob_sl rfl (congrArg ints h0.symm)))) ?_
    clear KB KL h0
    intro j hj
    rw [hG]
    by_cases hlj : j < ls.length
    · have hix := ints_at hlj
      obtain ⟨b0, b1⟩ := hink ls[j] (List.getElem_mem hlj)
      have hsu := accT_succ es hlj
      have hac := accT_le es ls oM j
      have hac1 := accT_le es ls oM (j + 1)
      generalize ls[j] = b at *
      obtain ⟨nb', rfl⟩ : ∃ nb' : Nat, b = (nb' : Int) := ⟨b.toNat, by omega⟩
      have hxb : 0 + ((nb' : Nat) : Int).toNat = nb' := by omega
      have hA : LM &&& NM.getD nb' 0 < 256 := sub_256 hL2
      have KB2 := f_below (LM &&& NM.getD nb' 0) (nb' : Int) oM oM oM
      rw [Int.toNat_natCast] at KB2
      have KS := f_size (belowN (LM &&& NM.getD nb' 0) nb') (sub_256 hA)
      rw [hbt nb'] at KS
      have hmb := hsm nb'
      have hget := rowT_get (L := TL) (k := k) oM (accT es ls j : Int)
      have hset := rowT_set TL k (accT es ls j : Int) (accT es ls (j + 1) : Int)
      have hrl := rowT_len TL (k := k) oM (accT es ls j : Int)
      have hil : (ints (rowT TL k (accT es ls j : Int))).length = M := by rw [ints_len, hrl, hdl]
      generalize (ls.filter fun a => decide (a < (nb' : Int)) && adj es (nb' : Int) a).length = sz at *
      generalize hq : rowT TL k (accT es ls j : Int) = X at *
      have hadd : IntKind.i64.wrap ((accT es ls j : Int) + (sz : Int)) = ((accT es ls (j + 1) : Nat) : Int) := by rw [IntWalk.i64_in _ oM]; omega
      clear hbt hsu hink hsm h256
      repeat' (first|refine wk ?_|((first|refine' w_q rfl rfl ?xa rfl ?_|refine' v_q rfl rfl ?xa rfl ?_|refine' w_yes rfl rfl (lookO_spec rfl) rfl ?xa rfl ?_|refine' v_yes rfl rfl (lookO_spec rfl) rfl ?xa rfl ?_);case xa => first|exact k_index tbOk rfl rfl rfl rfl oM (by exact hix)|exact k_indexO tbOk rfl rfl rfl rfl oM oM|exact k_loadI tbOk rfl rfl rfl rfl oM|exact k_loadM tbOk rfl rfl rfl rfl oM|exact k_and (q := NM.getD nb' 0) (by rw [hxb]) rfl rfl rfl oM oM|exact k_call KB2 rfl ⟨asA_r (evO_spec rfl), asA_r (evO_spec rfl), trivial⟩|exact k_call KS rfl ⟨asA_r (evO_spec rfl), trivial⟩)|((first|refine' w_e rfl ?xa ?xb ?xc ?xe ?_|refine' v_e rfl ?xa ?xb ?xc ?xe ?_);(case xa => exact e_storeS tbOk rfl rfl rfl rfl rfl rfl rfl rfl oM);(case xb|xc|xe=>rfl);try refine wkD ?_)|(refine wkB ?_ ?_<;>intro hg_<;>try exact wkX)|fail)
      all_goals first
        | exact ⟨j + 1, by omega, by rw [hG];(refine weak_ren [] rfl ?_ ?_ <;> repeat' (first|refine wkS ?_ ?_|exact wkE|exact ob_sl rfl (by rw [hget, hadd];exact hset))), by omega⟩
        | fail
    · obtain rfl : j = ls.length := by omega
      have he := rowT_end (L := TL) (k := k) oM
      rw [htk] at he
      rw [hendk, he]
      repeat' (first|refine wk ?_|(refine wkB ?_ ?_<;>intro hg_<;>try exact wkX)|fail)
      all_goals first
        | exact ⟨k + 1, by omega, by rw [hF];(refine weak_ren [] rfl ?_ ?_ <;>exact wkW), by omega⟩
        | fail
  · obtain rfl : k = M := by omega
    repeat' (first|refine wk ?_|(refine wkB ?_ ?_<;>intro hg_<;>try exact wkX)|fail)
    rw [show k = TL.length from hdl.symm, fillI_all] at *
    all_goals first
      | exact ret_tmp rfl (dres_one (cres_own0 (lookHO_spec rfl) (by rw [ints_len])))
      | fail
end Go.Proofs.YtlobefglhppbdaaGreatDoor.Abs
set_option linter.unusedSimpArgs false
set_option linter.unusedVariables false
namespace Go.Proofs.YtlobefglhppbdaaGreatDoor.Abs
open Go.RowKit
open R (val row ref)
theorem near_any {m : Int} {es : List E3} (hg : gOk m es = true) {M : Nat} (hm : m = (M : Int)) (x y : Int) : (nearL m es x).any (fun z => decide (z = y)) = adj es x y := by
  rw [nearL_eq hg, Bool.eq_iff_iff, List.any_eq_true]
  constructor
  · rintro ⟨z, hz, h⟩
    rw [List.mem_filter] at hz
    rw [← of_decide_eq_true h]; exact hz.2
  · intro h
    exact ⟨y, by rw [List.mem_filter, mem_allV2]; exact ⟨adj_lt hg hm h, h⟩, by simp⟩
theorem trL_take {m : Int} {M : Nat} (hm : m = (M : Int)) (es : List E3) {k : Nat} (h : k < M) : (trL m es).take (k + 1) = (trL m es).take k ++ [(triV m es (k : Int) : Int)] := by
  have hl := trL_len hm es
  rw [List.take_succ_eq_append_getElem oM, trL_at hm es oM]
theorem triV_le {m : Int} {es : List E3} (hg : gOk m es = true) {M : Nat} (hm : m = (M : Int)) (h7 : M ≤ 7) (v : Int) : triV m es v ≤ 49 := by
  rw [← accT_end]
  exact accT_le _ _ (Nat.le_trans (leL_M hg hm v) h7) _
theorem nearL_M {m : Int} {es : List E3} (hg : gOk m es = true) {M : Nat} (hm : m = (M : Int)) (v : Int) : (nearL m es v).length ≤ M := by
  rw [nearL_eq hg]
  exact Nat.le_trans (List.length_filter_le _ _) (by rw [allV_M m hm]; exact Nat.le_refl _)
theorem f_specTri (m : Int) (nil : Bool) (es : List E3) (hg : gOk m es = true) {M : Nat} (hm : m = (M : Int)) (h7 : M ≤ 7) : Fn Tryz.prog 7 [graphP m nil es] (.v (.one (row false 1 (ints (trL m es))))) := by
  subst hm
  have hm : (M : Int) = (M : Int) := rfl
  have hl40 := gOk_len hg
  have KG := f_specGraphValid (M : Int) nil es (by simp only [maxLen]; omega)
  rw [hg] at KG
  have KN := fun a => f_specNearOf (M : Int) nil es a (by simp only [maxLen]; omega) hg
  have hNl := fun v => nearL_M hg hm (es := es) v
  have hin : ∀ v b : Int, b ∈ nearL (M : Int) es v → 0 ≤ b ∧ b < (M : Int) := fun v b hb => by
    rw [nearL_eq hg, List.mem_filter] at hb
    exact mem_allV hg hm hb.1
  have hany := fun x y => near_any hg hm x y
  have htot := fun v => triV_i hg v
  have htle := fun v => triV_le hg hm h7 v
  have hdl := trL_len hm es
  have htk := fun k (h : k < M) => trL_take hm es h
  generalize trL (M : Int) es = TL at *
  refine fn_of (l := [.tmp 2]) Tryz.func7 kRf rfl Tryz.ntmps7 rfl rfl ?_; simp only [argEnv, P0.d, Nat.reduceAdd, graphP, List.map_cons, List.map_nil]
  repeat' (first|refine wk ?_|((first|refine' w_e rfl ?xa ?xb ?xc ?xe ?_|refine' v_e rfl ?xa ?xb ?xc ?xe ?_);(case xa => exact e_build [] tlOk rfl rfl rfl rfl rfl rfl (by simp [AllN]) (by simp));(case xb|xc|xe=>rfl);try refine wkD ?_)|(refine wkB ?_ ?_<;>intro hg_<;>try exact wkX)|fail)
  obtain ⟨F, hF⟩ : ∃ F : Nat → St, ∀ k, F k = mkS 63 [(4, .one (.r true (int k))), (3, .one (.own 100 0 (ints (TL.take k)).length 1)), (1, .one (.ptr 1 0 0 0))] [(100, .sl 3 1 true (ints (TL.take k))), (1, .var 25 [.r false (int M), .r false (row nil 3 (edges es))])] := ⟨_, fun _ => rfl⟩
  refine aw_loopI (fun k : Nat => k ≤ M) F (fun k => M - k) 0 (Nat.zero_le _) (by rw [hF];(refine weak_ren [(100, 9)] rfl ?_ ?_ <;>exact wkW)) ?_
  intro k hk
  by_cases hlt : k < M
  · have KNk := KN (k : Int)
    have hNk := hNl (k : Int)
    have hsr := near_srt hg (k : Int)
    have hink := hin (k : Int)
    have htk' := htk k hlt
    have htot' := htot (k : Int)
    have htle' := htle (k : Int)
    clear htk htot htle
    generalize triV (M : Int) es (k : Int) = TK at *
    generalize nearL (M : Int) es (k : Int) = N at *
    have hNi := ints_len N
    have hTl : (ints (TL.take k)).length = k := by rw [ints_len, List.length_take]; omega
    rw [hF]
    rw [hTl]
    generalize hTA : ints (TL.take k) = TA at *
    repeat' (first|refine wk ?_|((first|refine' w_q rfl rfl ?xa rfl ?_|refine' v_q rfl rfl ?xa rfl ?_|refine' w_yes rfl rfl (lookO_spec rfl) rfl ?xa rfl ?_|refine' v_yes rfl rfl (lookO_spec rfl) rfl ?xa rfl ?_);case xa => first|exact k_call KG rfl ⟨asA_agg (evO_spec rfl) ⟨cAr_r, cAr_r, trivial⟩, trivial⟩|exact k_call KNk rfl ⟨asA_agg (evO_spec rfl) ⟨cAr_r, cAr_r, trivial⟩, asA_r (evO_spec rfl), trivial⟩)|(refine wkB ?_ ?_<;>intro hg_<;>try exact wkX)|fail)
    obtain ⟨G, hG⟩ : ∃ G : Nat × Nat → St, ∀ x, G x = mkS 63 [(7, .one (.r true (int x.1))), (6, .one (.r true (int x.2))), (5, .one (.r true (row false 1 (ints N)))), (4, .one (.r true (int k))), (3, .one (.own 100 0 k 1)), (1, .one (.ptr 1 0 0 0))] [(100, .sl 3 1 true TA), (1, .var 25 [.r false (int M), .r false (row nil 3 (edges es))])] := ⟨_, fun _ => rfl⟩
    refine aw_loopI (fun x : Nat × Nat => x.1 ≤ N.length ∧ x.2 + iSum (adj es) (k : Int) (N.drop x.1) = TK) G (fun x => N.length - x.1) (0, 0) ⟨Nat.zero_le _, by rw [List.drop_zero, htot'];exact Nat.zero_add _⟩ (by rw [hG];(refine weak_ren [] rfl ?_ ?_ <;>exact wkW)) ?_
    clear KNk htot'
    rintro ⟨i, n⟩ ⟨hi, hn⟩
    dsimp only at hi hn
    rw [hG]
    by_cases hli : i < N.length
    · have hixi := ints_at hli
      have hdi := List.drop_eq_getElem_cons hli
      rw [hdi] at hn
      have hn : n + (jSum (adj es) (k : Int) N[i] (N.drop (i + 1)) + iSum (adj es) (k : Int) (N.drop (i + 1))) = TK := hn
      have KNi := KN N[i]
      have hNil := hNl N[i]
      have hanyi := hany N[i]
      clear KN hNl hany hdi
      generalize N[i] = xi at *
      generalize hRS : iSum (adj es) (k : Int) (N.drop (i + 1)) = RS at *
      generalize nearL (M : Int) es xi = NI at *
      have hNIi := ints_len NI
      dsimp only
      repeat' (first|refine wk ?_|(refine wkB ?_ ?_<;>intro hg_<;>try exact wkX)|fail)
      all_goals (try (exfalso; simp at *; omega))
      obtain ⟨J, hJ⟩ : ∃ J : Nat × Nat → St, ∀ x, J x = mkS 63 [(8, .one (.r true (int x.1))), (6, .one (.r true (int x.2))), (7, .one (.r true (int i))), (5, .one (.r true (row false 1 (ints N)))), (4, .one (.r true (int k))), (3, .one (.own 100 0 k 1)), (1, .one (.ptr 1 0 0 0))] [(100, .sl 3 1 true TA), (1, .var 25 [.r false (int M), .r false (row nil 3 (edges es))])] := ⟨_, fun _ => rfl⟩
      refine aw_loopI (fun x : Nat × Nat => x.1 ≤ N.length ∧ x.2 + jSum (adj es) (k : Int) xi (N.drop x.1) + RS = TK) J (fun x => N.length - x.1) (i + 1, n) ⟨by show i + 1 ≤ N.length;omega, by show n + jSum (adj es) (k : Int) xi (N.drop (i + 1)) + RS = TK;omega⟩ (by rw [hJ];(refine weak_ren [] rfl ?_ ?_ <;>exact wkW)) ?_
      clear hn
      rintro ⟨j, n⟩ ⟨hj, hn⟩
      dsimp only at hj hn
      rw [hJ]
      dsimp only
      by_cases hlj : j < N.length
      · have hixj := ints_at hlj
        have hdj := List.drop_eq_getElem_cons hlj
        rw [hdj] at hn
        obtain ⟨y0, y1⟩ := hink N[j] (List.getElem_mem hlj)
        have hanyj := hanyi N[j]
        clear hdj hanyi
        generalize N[j] = yj at *
        have hnd : n + (if yj < (k : Int) then (if adj es xi yj then 1 else 0) + jSum (adj es) (k : Int) xi (N.drop (j + 1)) else 0) + RS = TK := hn
        clear hn
        by_cases hyk : yj < (k : Int)
        · rw [if_pos hyk] at hnd
          have KL := f_l7Has false NI yj oM
          rw [hanyj] at KL
          generalize adj es xi yj = A at *
          cases A
          · have hf : n + jSum (adj es) (k : Int) xi (N.drop (j + 1)) + RS = TK := by simpa using hnd
            clear hnd
            repeat' (first|refine wk ?_|((first|refine' w_q rfl rfl ?xa rfl ?_|refine' v_q rfl rfl ?xa rfl ?_|refine' w_yes rfl rfl (lookO_spec rfl) rfl ?xa rfl ?_|refine' v_yes rfl rfl (lookO_spec rfl) rfl ?xa rfl ?_);case xa => first|exact k_index tbOk rfl rfl rfl rfl oM (by first|exact hixi|exact hixj)|exact k_call KNi rfl ⟨asA_agg (evO_spec rfl) ⟨cAr_r, cAr_r, trivial⟩, asA_r (evO_spec rfl), trivial⟩|exact k_call KL rfl ⟨asA_r (evO_spec rfl), asA_r (evO_spec rfl), trivial⟩)|(refine wkB ?_ ?_<;>intro hg_<;>try exact wkX)|fail)
            all_goals first
              | (exfalso; simp_all; done)
              | exact ⟨(j + 1, n), ⟨by show j + 1 ≤ N.length;omega, hf⟩, by rw [hJ];(refine weak_ren [] rfl ?_ ?_ <;>exact wkW), by show N.length - (j + 1) < N.length - j;omega⟩
              | fail
          · have hf : (n + 1) + jSum (adj es) (k : Int) xi (N.drop (j + 1)) + RS = TK := by
              have : n + (1 + jSum (adj es) (k : Int) xi (N.drop (j + 1))) + RS = TK := hnd
              omega
            clear hnd
            repeat' (first|refine wk ?_|((first|refine' w_q rfl rfl ?xa rfl ?_|refine' v_q rfl rfl ?xa rfl ?_|refine' w_yes rfl rfl (lookO_spec rfl) rfl ?xa rfl ?_|refine' v_yes rfl rfl (lookO_spec rfl) rfl ?xa rfl ?_);case xa => first|exact k_index tbOk rfl rfl rfl rfl oM (by first|exact hixi|exact hixj)|exact k_call KNi rfl ⟨asA_agg (evO_spec rfl) ⟨cAr_r, cAr_r, trivial⟩, asA_r (evO_spec rfl), trivial⟩|exact k_call KL rfl ⟨asA_r (evO_spec rfl), asA_r (evO_spec rfl), trivial⟩)|(refine wkB ?_ ?_<;>intro hg_<;>try exact wkX)|fail)
            all_goals first
              | (exfalso; simp_all; done)
              | exact ⟨(j + 1, n + 1), ⟨by show j + 1 ≤ N.length;omega, hf⟩, by rw [hJ];(refine weak_ren [] rfl ?_ ?_ <;>exact wkW), by show N.length - (j + 1) < N.length - j;omega⟩
              | fail
        · rw [if_neg hyk] at hnd
          repeat' (first|refine wk ?_|((first|refine' w_q rfl rfl ?xa rfl ?_|refine' v_q rfl rfl ?xa rfl ?_|refine' w_yes rfl rfl (lookO_spec rfl) rfl ?xa rfl ?_|refine' v_yes rfl rfl (lookO_spec rfl) rfl ?xa rfl ?_);case xa => exact k_index tbOk rfl rfl rfl rfl oM (by exact hixj))|(refine wkB ?_ ?_<;>intro hg_<;>try exact wkX)|fail)
          all_goals first
            | (exfalso; simp_all; done)
            | exact ⟨(i + 1, n), ⟨by show i + 1 ≤ N.length;omega, by show n + iSum (adj es) (k : Int) (N.drop (i + 1)) = TK;omega⟩, by rw [hG];(refine weak_ren [] rfl ?_ ?_ <;>exact wkW), by show N.length - (i + 1) < N.length - i;omega⟩
            | fail
      · rw [List.drop_of_length_le oM] at hn
        have hn : n + 0 + RS = TK := hn
        repeat' (first|refine wk ?_|(refine wkB ?_ ?_<;>intro hg_<;>try exact wkX)|fail)
        all_goals first
          | (exfalso; simp_all; done)
          | exact ⟨(i + 1, n), ⟨by show i + 1 ≤ N.length;omega, by show n + iSum (adj es) (k : Int) (N.drop (i + 1)) = TK;omega⟩, by rw [hG];(refine weak_ren [] rfl ?_ ?_ <;>exact wkW), by show N.length - (i + 1) < N.length - i;omega⟩
          | fail
    · rw [List.drop_of_length_le oM] at hn
      have hn : n = TK := by have : n + 0 = TK := hn; omega
      subst hn
      dsimp only
      clear hink hin hany KN hNl hsr
      repeat' (first|refine wk ?_|((first|refine' w_e rfl ?xa ?xb ?xc ?xe ?_|refine' v_e rfl ?xa ?xb ?xc ?xe ?_);(case xa => first|exact e_build [.tmp 59] tlOk rfl rfl rfl rfl rfl rfl (allN_one rfl) (by simp)|exact e_append tlOk rfl rfl rfl rfl rfl rfl (slD_own (lookHO_spec rfl) rfl) oM (by simp only [maxLen, List.length_cons, List.length_nil];omega) (by simp only [List.length_cons, List.length_nil];omega));(case xb|xc|xe=>rfl);try refine wkD ?_)|(refine wkB ?_ ?_<;>intro hg_<;>try exact wkX)|fail)
      all_goals first
        | (exfalso; simp_all; done)
        | (refine ⟨k + 1, by omega, ?_, by omega⟩;rw [hF];simp only [htk', ints_app, List.length_append, hTA, hTl];(refine weak_ren [(100, 61)] rfl ?_ ?_ <;>exact wkW);done)
        | fail
  · rw [hF]
    obtain rfl : k = M := by omega
    rw [List.take_of_length_le oM]
    repeat' (first|refine wk ?_|((first|refine' w_q rfl rfl ?xa rfl ?_|refine' v_q rfl rfl ?xa rfl ?_|refine' w_yes rfl rfl (lookO_spec rfl) rfl ?xa rfl ?_|refine' v_yes rfl rfl (lookO_spec rfl) rfl ?xa rfl ?_);case xa => exact k_call KG rfl ⟨asA_agg (evO_spec rfl) ⟨cAr_r, cAr_r, trivial⟩, trivial⟩)|(refine wkB ?_ ?_<;>intro hg_<;>try exact wkX)|fail)
    all_goals first
      | (exfalso; simp_all; done)
      | exact ret_tmp rfl (dres_one (cres_own0 (lookHO_spec rfl) rfl))
      | fail
end Go.Proofs.YtlobefglhppbdaaGreatDoor.Abs
set_option linter.unusedSimpArgs false
set_option linter.unusedVariables false
namespace Go.Proofs.YtlobefglhppbdaaGreatDoor.Abs
open Go.RowKit
open R (val row ref)
theorem f_implTriNo (m : Int) (nil : Bool) (es : List E3) (hl : es.length ≤ 1048576) (hg : gOk m es = false) : Fn Tryz.prog 5 [graphP m nil es] (.v (.one (row true 1 (ints [])))) := by
  have KG := f_implGraphValid m nil es (by simp only [maxLen]; omega)
  rw [hg] at KG
  refine fn_of (l := [.tmp 2]) Tryz.func5 kRf rfl Tryz.ntmps5 rfl rfl ?_; simp only [argEnv, P0.d, Nat.reduceAdd, graphP, List.map_cons, List.map_nil]
  repeat' (first|refine wk ?_|((first|refine' w_q rfl rfl ?xa rfl ?_|refine' v_q rfl rfl ?xa rfl ?_|refine' w_yes rfl rfl (lookO_spec rfl) rfl ?xa rfl ?_|refine' v_yes rfl rfl (lookO_spec rfl) rfl ?xa rfl ?_);case xa => exact k_call KG rfl ⟨asA_agg (evO_spec rfl) ⟨cAr_r, cAr_r, trivial⟩, trivial⟩)|(refine wkB ?_ ?_<;>intro hg_<;>try exact wkX)|fail)
  all_goals first
    | exact ret_tmp rfl (dres_one cres_nil)
    | fail
theorem f_specTriNo (m : Int) (nil : Bool) (es : List E3) (hl : es.length ≤ 1048576) (hg : gOk m es = false) : Fn Tryz.prog 7 [graphP m nil es] (.v (.one (row false 1 (ints [])))) := by
  have KG := f_specGraphValid m nil es (by simp only [maxLen]; omega)
  rw [hg] at KG
  refine fn_of (l := [.tmp 2]) Tryz.func7 kRf rfl Tryz.ntmps7 rfl rfl ?_; simp only [argEnv, P0.d, Nat.reduceAdd, graphP, List.map_cons, List.map_nil]
  repeat' (first|refine wk ?_|((first|refine' w_e rfl ?xa ?xb ?xc ?xe ?_|refine' v_e rfl ?xa ?xb ?xc ?xe ?_);(case xa => exact e_build [] tlOk rfl rfl rfl rfl rfl rfl (by simp [AllN]) (by simp));(case xb|xc|xe=>rfl);try refine wkD ?_)|(refine wkB ?_ ?_<;>intro hg_<;>try exact wkX)|fail)
  obtain ⟨F, hF⟩ : ∃ F : Nat → St, ∀ k, F k = mkS 63 [(4, .one (.r true (int 0))), (3, .one (.own 100 0 0 1)), (1, .one (.ptr 1 0 0 0))] [(100, .sl 3 1 true []), (1, .var 25 [.r false (int m), .r false (row nil 3 (edges es))])] := ⟨_, fun _ => rfl⟩
  refine aw_loopI (fun k : Nat => True) F (fun k => 0) 0 trivial (by rw [hF];(refine weak_ren [(100, 9)] rfl ?_ ?_ <;>exact wkW)) ?_
  intro k _
  rw [hF]
  repeat' (first|refine wk ?_|((first|refine' w_q rfl rfl ?xa rfl ?_|refine' v_q rfl rfl ?xa rfl ?_|refine' w_yes rfl rfl (lookO_spec rfl) rfl ?xa rfl ?_|refine' v_yes rfl rfl (lookO_spec rfl) rfl ?xa rfl ?_);case xa => exact k_call KG rfl ⟨asA_agg (evO_spec rfl) ⟨cAr_r, cAr_r, trivial⟩, trivial⟩)|(refine wkB ?_ ?_<;>intro hg_<;>try exact wkX)|fail)
  all_goals first
    | exact ret_tmp rfl (dres_one (cres_own0 (lookHO_spec rfl) rfl))
    | (exfalso; simp_all; done)
    | fail
theorem sum_take_le {l : List Int} {B : Nat} (hb : ∀ z ∈ l, 0 ≤ z ∧ z ≤ (B : Int)) : ∀ k, 0 ≤ (l.take k).sum ∧ (l.take k).sum ≤ ((l.length * B : Nat) : Int) := by
  induction l with
  | nil => intro k; simp
  | cons x l ih =>
    intro k
    cases k with
    | zero => exact ⟨Int.le_refl _, Int.natCast_nonneg _⟩
    | succ k =>
      have h1 := hb x (by simp)
      have h2 := ih (fun z hz => hb z (by simp [hz])) k
      rw [List.take_succ_cons, List.sum_cons, List.length_cons, Nat.add_mul]
      omega
theorem f_total (nil : Bool) (l : List Int) (hl : l.length ≤ 1000) (hb : ∀ z ∈ l, 0 ≤ z ∧ z ≤ 1000) : Fn Tryz.prog 12 [.one (row nil 1 (ints l))] (.v (iP l.sum)) := by
  have hlen := ints_len l
  have hsm := sum_take_le (l := l) (B := 1000) hb
  refine fn_of (l := [.tmp 2]) Tryz.func12 kRf rfl Tryz.ntmps12 rfl rfl ?_; simp only [argEnv, P0.d, Nat.reduceAdd]
  repeat' (first|refine wk ?_|(refine wkB ?_ ?_<;>intro hg_<;>try exact wkX)|fail)
  refine aw_loopI (fun k : Nat => k ≤ l.length) (fun k => mkS 18 [(4, .one (.r true (int k))), (3, .one (.r true (int (l.take k).sum))), (0, .one (.r false (row nil 1 (ints l))))] []) (fun k => l.length - k) 0 (Nat.zero_le _) (by (refine weak_ren [] rfl ?_ ?_ <;>exact wkW)) ?_
  intro k hk
  by_cases hlt : k < l.length
  · have hix := ints_at hlt
    have hT : (l.take (k + 1)).sum = (l.take k).sum + l[k] := by
      rw [List.take_succ_eq_append_getElem hlt, List.sum_append]; simp
    have h1 := hsm k
    have h2 := hsm (k + 1)
    have hw : IntKind.i64.wrap ((l.take k).sum + l[k]) = (l.take (k + 1)).sum := by rw [IntWalk.i64_in _ oM]; omega
    generalize l[k] = y at *
    generalize (l.take k).sum = s at *
    repeat' (first|refine wk ?_|((first|refine' w_q rfl rfl ?xa rfl ?_|refine' v_q rfl rfl ?xa rfl ?_|refine' w_yes rfl rfl (lookO_spec rfl) rfl ?xa rfl ?_|refine' v_yes rfl rfl (lookO_spec rfl) rfl ?xa rfl ?_);case xa => exact k_index tbOk rfl rfl rfl rfl oM (by exact hix))|(refine wkB ?_ ?_<;>intro hg_<;>try exact wkX)|fail)
    all_goals first
      | (exfalso; simp_all; done)
      | exact ⟨k + 1, by omega, by (refine weak_ren [] rfl ?_ ?_ <;> repeat' (first|refine wkS ?_ ?_|exact wkE|exact d_int hw)), by omega⟩
      | fail
  · rw [List.take_of_length_le oM]
    repeat' (first|refine wk ?_|(refine wkB ?_ ?_<;>intro hg_<;>try exact wkX)|fail)
    all_goals first
      | (exfalso; simp_all; done)
      | exact ret_tmp rfl (dres_int rfl)
      | fail
end Go.Proofs.YtlobefglhppbdaaGreatDoor.Abs
set_option linter.unusedSimpArgs false
set_option linter.unusedVariables false
namespace Go.Proofs.YtlobefglhppbdaaGreatDoor.Abs
open Go.RowKit
open R (val row ref)
theorem f_valuesTo (nil : Bool) (ms : List E3) (v : Int) (hl : ms.length ≤ 2000) : Fn Tryz.prog 61 [.one (row nil 3 (edges ms)), iP v] (.v (.one (row (decide (valsT v ms = [])) 1 (ints (valsT v ms))))) := by
  have hlen := edges_len ms
  refine fn_of (l := [.tmp 4]) Tryz.func61 kRf rfl Tryz.ntmps61 rfl rfl ?_; simp only [argEnv, P0.d, Nat.reduceAdd]
  repeat' (first|refine wk ?_|(refine wkB ?_ ?_<;>intro hg_<;>try exact wkX)|fail)
  obtain ⟨F, hF0, hF1⟩ : ∃ F : Nat → St, (∀ k, valsT v (ms.take k) = [] → F k = mkS 25 [(10, .one (.r true (int k))), (9, .one (.r true (int (edges ms).length))), (8, .one (.r false (row nil 3 (edges ms)))), (5, .one (.r true (row true 0 []))), (1, .one (.r false (int v)))] []) ∧ (∀ k, valsT v (ms.take k) ≠ [] → F k = mkS 25 [(10, .one (.r true (int k))), (9, .one (.r true (int (edges ms).length))), (8, .one (.r false (row nil 3 (edges ms)))), (5, .one (.own 100 0 (valsT v (ms.take k)).length 1)), (1, .one (.r false (int v)))] [(100, .sl 3 1 true (ints (valsT v (ms.take k))))]) :=
    ⟨fun k => if valsT v (ms.take k) = [] then mkS 25 [(10, .one (.r true (int k))), (9, .one (.r true (int (edges ms).length))), (8, .one (.r false (row nil 3 (edges ms)))), (5, .one (.r true (row true 0 []))), (1, .one (.r false (int v)))] [] else mkS 25 [(10, .one (.r true (int k))), (9, .one (.r true (int (edges ms).length))), (8, .one (.r false (row nil 3 (edges ms)))), (5, .one (.own 100 0 (valsT v (ms.take k)).length 1)), (1, .one (.r false (int v)))] [(100, .sl 3 1 true (ints (valsT v (ms.take k))))], fun k h => if_pos h, fun k h => if_neg h⟩
  refine aw_loopI (fun k : Nat => k ≤ ms.length) F (fun k => ms.length - k) 0 (Nat.zero_le _) (by rw [hF0 0 rfl];(refine weak_ren [] rfl ?_ ?_ <;>exact wkW)) ?_
  intro k hk
  by_cases hlt : k < ms.length
  · have hix := edges_at hlt
    have hs := valsT_snoc v ms hlt
    have hvl := valsT_len v (ms.take k)
    rw [List.length_take] at hvl
    generalize ms[k] = x at *
    obtain ⟨x1, x2, x3⟩ := x
    dsimp only at hs
    by_cases hx : x1 = v
    · rw [if_pos hx] at hs
      have hne : valsT v (ms.take (k + 1)) ≠ [] := by rw [hs]; simp
      have hfin : ∀ s' : St, Weak s' (F (k + 1)) → ∃ x' : Nat, x' ≤ ms.length ∧ Weak s' (F x') ∧ ms.length - x' < ms.length - k := fun s' h => ⟨k + 1, by omega, h, by omega⟩
      rw [hF1 _ hne, hs] at hfin
      by_cases h0 : valsT v (ms.take k) = []
      · rw [h0] at hfin
        rw [hF0 k h0]
        clear hF0 hF1 hs hne h0 hvl
        repeat' (first|refine wk ?_|((first|refine' w_q rfl rfl ?xa rfl ?_|refine' v_q rfl rfl ?xa rfl ?_|refine' w_yes rfl rfl (lookO_spec rfl) rfl ?xa rfl ?_|refine' v_yes rfl rfl (lookO_spec rfl) rfl ?xa rfl ?_);case xa => exact k_index tbOk rfl rfl rfl rfl oM (by exact hix))|((first|refine' w_e rfl ?xa ?xb ?xc ?xe ?_|refine' v_e rfl ?xa ?xb ?xc ?xe ?_);(case xa => first|exact e_build [.tmp 20] tlOk rfl rfl rfl rfl rfl rfl (allN_one rfl) (by simp)|exact e_append_nil tlOk rfl rfl rfl rfl rfl (slD_own (lookHO_spec rfl) rfl) (by simp) (by simp only [maxLen, List.length_cons, List.length_nil];omega) (by simp only [List.length_cons, List.length_nil];omega));(case xb|xc|xe=>rfl);try refine wkD ?_)|(refine wkB ?_ ?_<;>intro hg_<;>try exact wkX)|fail)
        all_goals first
          | (exfalso; simp_all; done)
          | (refine hfin _ ?_
             (refine weak_ren [(100, 22)] rfl ?_ ?_ <;>exact wkW);done)
          | fail
      · rw [hF1 k h0]
        clear hF0 hF1 hs hne h0
        generalize valsT v (ms.take k) = X at *
        have hXl := ints_len X
        repeat' (first|refine wk ?_|((first|refine' w_q rfl rfl ?xa rfl ?_|refine' v_q rfl rfl ?xa rfl ?_|refine' w_yes rfl rfl (lookO_spec rfl) rfl ?xa rfl ?_|refine' v_yes rfl rfl (lookO_spec rfl) rfl ?xa rfl ?_);case xa => exact k_index tbOk rfl rfl rfl rfl oM (by exact hix))|((first|refine' w_e rfl ?xa ?xb ?xc ?xe ?_|refine' v_e rfl ?xa ?xb ?xc ?xe ?_);(case xa => first|exact e_build [.tmp 20] tlOk rfl rfl rfl rfl rfl rfl (allN_one rfl) (by simp)|exact e_append tlOk rfl rfl rfl rfl rfl rfl (slD_own (lookHO_spec rfl) rfl) hXl.symm (by simp only [maxLen, List.length_cons, List.length_nil];omega) (by simp only [List.length_cons, List.length_nil];omega));(case xb|xc|xe=>rfl);try refine wkD ?_)|(refine wkB ?_ ?_<;>intro hg_<;>try exact wkX)|fail)
        all_goals first
          | (exfalso; simp_all; done)
          | (refine hfin _ ?_
             (refine weak_ren [(100, 22)] rfl ?_ ?_ <;> repeat' (first|refine wkS ?_ ?_|exact wkE|exact d_own (by simp [ints_len])|exact ob_sl rfl (ints_app _ _).symm));done)
          | fail
    · rw [if_neg hx, List.append_nil] at hs
      have hfin : ∀ s' : St, Weak s' (F (k + 1)) → ∃ x' : Nat, x' ≤ ms.length ∧ Weak s' (F x') ∧ ms.length - x' < ms.length - k := fun s' h => ⟨k + 1, by omega, h, by omega⟩
      by_cases h0 : valsT v (ms.take k) = []
      · rw [hF0 (k + 1) (hs.trans h0)] at hfin
        rw [hF0 k h0]
        clear hF0 hF1 hs h0 hvl
        repeat' (first|refine wk ?_|((first|refine' w_q rfl rfl ?xa rfl ?_|refine' v_q rfl rfl ?xa rfl ?_|refine' w_yes rfl rfl (lookO_spec rfl) rfl ?xa rfl ?_|refine' v_yes rfl rfl (lookO_spec rfl) rfl ?xa rfl ?_);case xa => exact k_index tbOk rfl rfl rfl rfl oM (by exact hix))|(refine wkB ?_ ?_<;>intro hg_<;>try exact wkX)|fail)
        all_goals first
          | (exfalso; simp_all; done)
          | (refine hfin _ ?_
             (refine weak_ren [] rfl ?_ ?_ <;>exact wkW);done)
          | fail
      · rw [hF1 (k + 1) (by rw [hs]; exact h0), hs] at hfin
        rw [hF1 k h0]
        clear hF0 hF1 hs h0
        generalize valsT v (ms.take k) = X at *
        repeat' (first|refine wk ?_|((first|refine' w_q rfl rfl ?xa rfl ?_|refine' v_q rfl rfl ?xa rfl ?_|refine' w_yes rfl rfl (lookO_spec rfl) rfl ?xa rfl ?_|refine' v_yes rfl rfl (lookO_spec rfl) rfl ?xa rfl ?_);case xa => exact k_index tbOk rfl rfl rfl rfl oM (by exact hix))|(refine wkB ?_ ?_<;>intro hg_<;>try exact wkX)|fail)
        all_goals first
          | (exfalso; simp_all; done)
          | (refine hfin _ ?_
             (refine weak_ren [] rfl ?_ ?_ <;>exact wkW);done)
          | fail
  · have hT : ms.take k = ms := List.take_of_length_le oM
    by_cases h0 : valsT v ms = []
    · rw [hF0 k (by rw [hT]; exact h0)]
      have hd : decide (valsT v ms = []) = true := by simp [h0]
      rw [hd, h0]
      repeat' (first|refine wk ?_|(refine wkB ?_ ?_<;>intro hg_<;>try exact wkX)|fail)
      all_goals first
        | (exfalso; simp_all; done)
        | exact ret_tmp rfl (dres_one cres_nil)
        | fail
    · rw [hF1 k (by rw [hT]; exact h0), hT]
      have hd : decide (valsT v ms = []) = false := by simp [h0]
      rw [hd]
      repeat' (first|refine wk ?_|(refine wkB ?_ ?_<;>intro hg_<;>try exact wkX)|fail)
      all_goals first
        | (exfalso; simp_all; done)
        | exact ret_tmp rfl (dres_one (cres_own0 (lookHO_spec rfl) (by rw [ints_len])))
        | fail
abbrev turnP (v : Int) (nl : Bool) (out : List E3) (x : Nat) (rd value : Int) (nv : Bool) (vals : List Int) : P0 := .agg [int v, row nl 3 (edges out), R.val (.int .u32 (x : Int)), int rd, int value, row nv 1 (ints vals)]
theorem f_sendTo (v : Int) (nl : Bool) (out : List E3) (x : Nat) (rd value : Int) (nv : Bool) (vals : List Int) (y : Nat) (z : Int) (hy : y < 4294967296) (ws : List Int) (hws : bitsR y = ws) (hl : ws.length ≤ 32) : Fn Tryz.prog 123 [turnP v nl out x rd value nv vals, mP y, iP z] (.v (.one (row (decide (ws = [])) 3 (edges (sendTo ws z v))))) := by
  have KL := f_list y hy
  rw [hws] at KL
  generalize decide (y = 0) = nb at *
  have hlen := ints_len ws
  refine fn_of (l := [.tmp 6]) Tryz.func123 kRf rfl Tryz.ntmps123 rfl rfl ?_; simp only [argEnv, P0.d, Nat.reduceAdd, turnP, List.map_cons, List.map_nil]
  repeat' (first|refine wk ?_|((first|refine' w_q rfl rfl ?xa rfl ?_|refine' v_q rfl rfl ?xa rfl ?_|refine' w_yes rfl rfl (lookO_spec rfl) rfl ?xa rfl ?_|refine' v_yes rfl rfl (lookO_spec rfl) rfl ?xa rfl ?_);case xa => exact k_call KL rfl ⟨asA_r (evO_spec rfl), trivial⟩)|(refine wkB ?_ ?_<;>intro hg_<;>try exact wkX)|fail)
  clear KL
  obtain ⟨F, hF0, hF1⟩ : ∃ F : Nat → St, (F 0 = mkS 27 [(13, .one (.r true (int (0 : Nat)))), (12, .one (.r true (int ws.length))), (11, .one (.r true (row nb 1 (ints ws)))), (7, .one (.r true (row true 0 []))), (3, .one (.ptr 3 0 0 0)), (2, .one (.r false (int z)))] [(3, .var 102 [.r false (int v), .r false (row nl 3 (edges out)), .r false (R.val (.int .u32 (x : Int))), .r false (int rd), .r false (int value), .r false (row nv 1 (ints vals))])]) ∧ (∀ k, F (k + 1) = mkS 27 [(13, .one (.r true (int ((k + 1 : Nat) : Int)))), (12, .one (.r true (int ws.length))), (11, .one (.r true (row nb 1 (ints ws)))), (7, .one (.own 100 0 (k + 1) 3)), (3, .one (.ptr 3 0 0 0)), (2, .one (.r false (int z)))] [(100, .sl 105 3 true (edges (sendTo (ws.take (k + 1)) z v))), (3, .var 102 [.r false (int v), .r false (row nl 3 (edges out)), .r false (R.val (.int .u32 (x : Int))), .r false (int rd), .r false (int value), .r false (row nv 1 (ints vals))])]) :=
    ⟨fun k => Nat.rec (mkS 27 [(13, .one (.r true (int (0 : Nat)))), (12, .one (.r true (int ws.length))), (11, .one (.r true (row nb 1 (ints ws)))), (7, .one (.r true (row true 0 []))), (3, .one (.ptr 3 0 0 0)), (2, .one (.r false (int z)))] [(3, .var 102 [.r false (int v), .r false (row nl 3 (edges out)), .r false (R.val (.int .u32 (x : Int))), .r false (int rd), .r false (int value), .r false (row nv 1 (ints vals))])]) (fun k _ => mkS 27 [(13, .one (.r true (int ((k + 1 : Nat) : Int)))), (12, .one (.r true (int ws.length))), (11, .one (.r true (row nb 1 (ints ws)))), (7, .one (.own 100 0 (k + 1) 3)), (3, .one (.ptr 3 0 0 0)), (2, .one (.r false (int z)))] [(100, .sl 105 3 true (edges (sendTo (ws.take (k + 1)) z v))), (3, .var 102 [.r false (int v), .r false (row nl 3 (edges out)), .r false (R.val (.int .u32 (x : Int))), .r false (int rd), .r false (int value), .r false (row nv 1 (ints vals))])]) k, rfl, fun _ => rfl⟩
  refine aw_loopI (fun k : Nat => k ≤ ws.length) F (fun k => ws.length - k) 0 (Nat.zero_le _) (by rw [hF0];(refine weak_ren [] rfl ?_ ?_ <;>exact wkW)) ?_
  intro k hk
  have hsn : ∀ (h : k < ws.length), sendTo (ws.take (k + 1)) z v = sendTo (ws.take k) z v ++ [(ws[k], z, v)] := fun h => by
    unfold sendTo; rw [List.take_succ_eq_append_getElem h, List.map_append]; rfl
  by_cases hlt : k < ws.length
  · have hix := ints_at hlt
    have hs := hsn hlt
    clear hsn
    have hobj : edges (sendTo (ws.take (k + 1)) z v) = edges (sendTo (ws.take k) z v) ++ [edgeP (ws[k], z, v)] := by rw [hs, edges_app]
    have hX : (edges (sendTo (ws.take k) z v)).length = k := by rw [edges_len, sendTo_len, List.length_take]; omega
    clear hs
    generalize ws[k] = w at *
    have hfin : ∀ s' : St, Weak s' (F (k + 1)) → ∃ x' : Nat, x' ≤ ws.length ∧ Weak s' (F x') ∧ ws.length - x' < ws.length - k := fun s' h => ⟨k + 1, by omega, h, by omega⟩
    rw [hF1 k, hobj] at hfin
    cases k with
    | zero =>
      have e0 : edges (sendTo (ws.take 0) z v) = [] := rfl
      rw [e0] at hfin
      rw [hF0]
      clear hF0 hF1 hobj
      repeat' (first|refine wk ?_|((first|refine' w_q rfl rfl ?xa rfl ?_|refine' v_q rfl rfl ?xa rfl ?_|refine' w_yes rfl rfl (lookO_spec rfl) rfl ?xa rfl ?_|refine' v_yes rfl rfl (lookO_spec rfl) rfl ?xa rfl ?_);case xa => exact k_index tbOk rfl rfl rfl rfl oM hix)|((first|refine' w_e rfl ?xa ?xb ?xc ?xe ?_|refine' v_e rfl ?xa ?xb ?xc ?xe ?_);(case xa => first|exact e_build [.tmp 22] tlOk rfl rfl rfl rfl rfl rfl (allN_one rfl) (by simp)|exact e_append_nil tlOk rfl rfl rfl rfl rfl (slD_plain (slD_own (lookHO_spec rfl) rfl) (by simp [plain1])) (by simp) (by simp only [maxLen, List.length_cons, List.length_nil];omega) (by simp only [List.length_cons, List.length_nil];omega));(case xb|xc|xe=>rfl);try refine wkD ?_)|(refine wkB ?_ ?_<;>intro hg_<;>try exact wkX)|fail)
      all_goals first
        | (exfalso; simp_all; done)
        | (refine hfin _ ?_
           (refine weak_ren [(100, 24)] rfl ?_ ?_ <;>exact wkW);done)
        | fail
    | succ k =>
      rw [hF1 k]
      clear hF0 hF1 hobj
      generalize edges (sendTo (ws.take (k + 1)) z v) = X at *
      repeat' (first|refine wk ?_|((first|refine' w_q rfl rfl ?xa rfl ?_|refine' v_q rfl rfl ?xa rfl ?_|refine' w_yes rfl rfl (lookO_spec rfl) rfl ?xa rfl ?_|refine' v_yes rfl rfl (lookO_spec rfl) rfl ?xa rfl ?_);case xa => exact k_index tbOk rfl rfl rfl rfl oM hix)|((first|refine' w_e rfl ?xa ?xb ?xc ?xe ?_|refine' v_e rfl ?xa ?xb ?xc ?xe ?_);(case xa => first|exact e_build [.tmp 22] tlOk rfl rfl rfl rfl rfl rfl (allN_one rfl) (by simp)|exact e_append tlOk rfl rfl rfl rfl rfl rfl (slD_plain (slD_own (lookHO_spec rfl) rfl) (by simp [plain1])) hX.symm (by simp only [maxLen, List.length_cons, List.length_nil];omega) (by simp only [List.length_cons, List.length_nil];omega));(case xb|xc|xe=>rfl);try refine wkD ?_)|(refine wkB ?_ ?_<;>intro hg_<;>try exact wkX)|fail)
      all_goals first
        | (exfalso; simp_all; done)
        | (refine hfin _ ?_
           (refine weak_ren [(100, 24)] rfl ?_ ?_ <;> repeat' (first|refine wkS ?_ ?_|exact wkE|exact d_own (by simp only [List.length_cons, List.length_nil];omega)|exact ob_sl rfl rfl));done)
        | fail
  · obtain rfl : k = ws.length := by omega
    by_cases hw : ws = []
    · have e0 : F ws.length = F 0 := by rw [hw]; rfl
      rw [e0, hF0]
      clear hF0 hF1 e0
      subst hw
      repeat' (first|refine wk ?_|(refine wkB ?_ ?_<;>intro hg_<;>try exact wkX)|fail)
      all_goals first
        | (exfalso; simp_all; done)
        | exact ret_tmp rfl (dres_one cres_nil)
        | fail
    · have hp : ws.length = (ws.length - 1) + 1 := by have := List.length_pos_iff.2 hw; omega
      have hd : decide (ws = []) = false := by simp [hw]
      rw [hd]
      have e0 : F ws.length = F ((ws.length - 1) + 1) := by rw [← hp]
      rw [e0, hF1, ← hp, List.take_length]
      clear hF0 hF1 e0
      repeat' (first|refine wk ?_|(refine wkB ?_ ?_<;>intro hg_<;>try exact wkX)|fail)
      all_goals first
        | exact ret_tmp rfl (dres_one (cres_own0 (lookHO_spec rfl) (by rw [edges_len, sendTo_len])))
        | (exfalso; clear hp; simp at *; done)
        | fail
end Go.Proofs.YtlobefglhppbdaaGreatDoor.Abs
set_option linter.unusedSimpArgs false
set_option linter.unusedVariables false
namespace Go.Proofs.YtlobefglhppbdaaGreatDoor.Abs
open Go.RowKit
open R (val row ref)
abbrev deedP (z : Int) (nm : Bool) (ms : List E3) : P0 := .agg [int z, row nm 3 (edges ms), bool false]
theorem f_act0 (v : Int) (nl : Bool) (out : List E3) (x : Nat) (value : Int) (nv : Bool) (vals : List Int) (hx : x < 4294967296) (h0 : 0 ≤ v) (hv : v ≤ 31) (ws : List Int) (hws : bitsR (aboveN x v.toNat) = ws) (hl : ws.length ≤ 32) : Fn Tryz.prog 126 [.agg [], turnP v nl out x 0 value nv vals] (.v (deedP 0 (decide (ws = [])) (sendTo ws v v))) := by
  have KA := f_above x v hx h0 hv
  have KS := f_sendTo v nl out x 0 value nv vals (aboveN x v.toNat) v (aboveN_lt _ _) ws hws hl
  generalize aboveN x v.toNat = A at *
  refine fn_of (l := [.cell 4 91]) Tryz.func126 kRf rfl Tryz.ntmps126 rfl rfl ?_; simp only [argEnv, P0.d, Nat.reduceAdd, turnP, List.map_cons, List.map_nil]
  repeat' (first|refine wk ?_|((first|refine' w_q rfl rfl ?xa rfl ?_|refine' v_q rfl rfl ?xa rfl ?_|refine' w_yes rfl rfl (lookO_spec rfl) rfl ?xa rfl ?_|refine' v_yes rfl rfl (lookO_spec rfl) rfl ?xa rfl ?_);case xa => first|exact k_call KA rfl ⟨asA_r (evO_spec rfl), asA_r (evO_spec rfl), trivial⟩|exact k_call KS rfl ⟨asA_agg (evO_spec rfl) ⟨cAr_r, cAr_r, cAr_r, cAr_r, cAr_r, cAr_r, trivial⟩, asA_r (evO_spec rfl), asA_r (evO_spec rfl), trivial⟩)|(refine wkB ?_ ?_<;>intro hg_<;>try exact wkX)|fail)
  all_goals first
    | exact ret_v (rv_cell rfl rfl tyF0 rfl rfl rfl (dres_agg (by exact ⟨cres_val, cres_new, cres_val, trivial⟩)))
    | fail
theorem k_app00 {l : List (Nat × D)} {H : Nat → Option Ob} {o : Oper} {T : TypeId} {x y : Operand} {sz sz' sz2 by_ : Nat} {E : TypeId} {m m' : Bool} (ho : o.op = .call { callee := .builtin .append, args := #[x, y], argTypes := #[T, T] }) (he : elL tl.els T = some (E, sz2, by_)) (hx : evO l x = some (.one (.r m (row true sz' [])))) (hy : evO l y = some (.one (.r m' (row true sz [])))) :
    Loc Tryz.prog H (evD (look l)) o (.one (.r true (row true 0 []))) :=
  loc_run fun base a w ι own hw hev hH => by
    have h1 := hev x (by rw [ho]; simp [Op.operands, Call.operands])
    have h2 := hev y (by rw [ho]; simp [Op.operands, Call.operands])
    rw [evO_spec hx] at h1
    rw [evO_spec hy] at h2
    obtain ⟨a1, c1, e1, g1, g2, g3, g4⟩ := row_p.1 h1
    obtain ⟨a2, c2, e2, q1, q2, q3, q4⟩ := row_p.1 h2
    obtain rfl := g2.1 rfl
    obtain rfl := q2.1 rfl
    obtain rfl := g3 rfl
    obtain rfl := q3 rfl
    obtain ⟨z, hE⟩ := elOf_spec (elL_ok tlOk.el he)
    refine ⟨.slice none 0 0, ?_, ?_⟩
    · obtain ⟨i, hi, _, _, _⟩ := hE.info
      have h := run_append_of_nil (P := Tryz.prog) w w.heap.size T o.type E i sz2 hE.sl hi (.slice none 0 0) 0 [] (Own.nil_ _ _ _ _) 0
      unfold execOp
      rw [ho]
      simp only [resolve, invoke, builtin, Sem.run_bind, Sem.run_pure, Result.andThen_ok, List.map_toArray, List.map_cons, List.map_nil, e1, e2]
      rw [List.length_nil, h]
      rfl
    · exact row_p.2 ⟨none, 0, rfl, ⟨Nat.le_refl _, Nat.zero_le _⟩, ⟨fun _ => rfl, fun _ => rfl⟩, fun _ => rfl, fun h => by simp at h⟩
theorem flat_snoc (f : Int → List E3) {l : List Int} {k : Nat} (h : k < l.length) : (l.take (k + 1)).flatMap f = (l.take k).flatMap f ++ f l[k] := by
  rw [List.take_succ_eq_append_getElem h, List.flatMap_append]
  simp
theorem edges_appL (xs ys : List E3) : edges (xs ++ ys) = edges xs ++ edges ys := by unfold edges; rw [List.map_append]
theorem f_act1N (v : Int) (nl : Bool) (out : List E3) (x : Nat) (value : Int) (nv : Bool) (vals : List Int) (hvl : vals.length ≤ 2000) (hx : x < 4294967296) (h0 : 0 ≤ v) (hv : v ≤ 31) (hws : bitsR (aboveN x v.toNat) = []) : Fn Tryz.prog 126 [.agg [], turnP v nl out x 1 value nv vals] (.v (deedP 0 true [])) := by
  have KA := f_above x v hx h0 hv
  have KS := fun z => f_sendTo v nl out x 1 value nv vals (aboveN x v.toNat) z (aboveN_lt _ _) [] hws (by simp)
  have KS : ∀ z, Fn Tryz.prog 123 [turnP v nl out x 1 value nv vals, mP (aboveN x v.toNat), iP z] (.v (.one (row true 3 []))) := KS
  generalize aboveN x v.toNat = A at *
  have hlen := ints_len vals
  refine fn_of (l := [.cell 4 91]) Tryz.func126 kRf rfl Tryz.ntmps126 rfl rfl ?_; simp only [argEnv, P0.d, Nat.reduceAdd, turnP, List.map_cons, List.map_nil]
  repeat' (first|refine wk ?_|((first|refine' w_q rfl rfl ?xa rfl ?_|refine' v_q rfl rfl ?xa rfl ?_|refine' w_yes rfl rfl (lookO_spec rfl) rfl ?xa rfl ?_|refine' v_yes rfl rfl (lookO_spec rfl) rfl ?xa rfl ?_);case xa => exact k_call KA rfl ⟨asA_r (evO_spec rfl), asA_r (evO_spec rfl), trivial⟩)|(refine wkB ?_ ?_<;>intro hg_<;>try exact wkX)|fail)
  obtain ⟨F, hF⟩ : ∃ F : Nat → St, ∀ k, F k = mkS 69 [(55, .one (.r true (int k))), (54, .one (.r true (int (ints vals).length))), (53, .one (.r false (row nv 1 (ints vals)))), (6, .one (.ptr 6 0 0 0)), (5, .one (.r true (R.val (.int .u32 (A : Int))))), (4, .one (.ptr 4 0 0 0)), (3, .one (.ptr 3 0 0 0))] [(6, .var 91 [.r true (int 0), .r true (row true 0 []), .r true (bool false)]), (4, .var 91 [.r true (int 0), .r true (row true 0 []), .r true (bool false)]), (3, .var 102 [.r false (int v), .r false (row nl 3 (edges out)), .r false (R.val (.int .u32 (x : Int))), .r false (int 1), .r false (int value), .r false (row nv 1 (ints vals))])] := ⟨_, fun _ => rfl⟩
  refine aw_loopI (fun k : Nat => k ≤ vals.length) F (fun k => vals.length - k) 0 (Nat.zero_le _) (by rw [hF];(refine weak_ren [] rfl ?_ ?_ <;>exact wkW)) ?_
  clear KA
  intro k hk
  rw [hF]
  by_cases hlt : k < vals.length
  · have hix := ints_at hlt
    generalize vals[k] = y at *
    have KSy := KS y
    repeat' (first|refine wk ?_|((first|refine' w_q rfl rfl ?xa rfl ?_|refine' v_q rfl rfl ?xa rfl ?_|refine' w_yes rfl rfl (lookO_spec rfl) rfl ?xa rfl ?_|refine' v_yes rfl rfl (lookO_spec rfl) rfl ?xa rfl ?_);case xa => first|exact k_index tbOk rfl rfl rfl rfl oM (by exact hix)|exact k_call KSy rfl ⟨asA_agg (evO_spec rfl) ⟨cAr_r, cAr_r, cAr_r, cAr_r, cAr_r, cAr_r, trivial⟩, asA_r (evO_spec rfl), asA_r (evO_spec rfl), trivial⟩|exact k_app00 rfl rfl rfl rfl)|(refine wkB ?_ ?_<;>intro hg_<;>try exact wkX)|fail)
    all_goals first
      | exact ⟨k + 1, by omega, by rw [hF];(refine weak_ren [] rfl ?_ ?_ <;>exact wkW), by omega⟩
      | fail
  · clear KS
    repeat' (first|refine wk ?_|(refine wkB ?_ ?_<;>intro hg_<;>try exact wkX)|fail)
    all_goals first
      | exact ret_v (rv_cell rfl rfl tyF0 rfl rfl rfl (dres_agg (by exact ⟨cres_val, cres_nil, cres_val, trivial⟩)))
      | fail
theorem f_act1Y (v : Int) (nl : Bool) (out : List E3) (x : Nat) (value : Int) (nv : Bool) (vals : List Int) (hvl : vals.length ≤ 2000) (hx : x < 4294967296) (h0 : 0 ≤ v) (hv : v ≤ 31) (ws : List Int) (hws : bitsR (aboveN x v.toNat) = ws) (hl : ws.length ≤ 32) (hne : ws ≠ []) : Fn Tryz.prog 126 [.agg [], turnP v nl out x 1 value nv vals] (.v (deedP 0 (decide (vals.flatMap (fun y => sendTo ws y v) = [])) (vals.flatMap fun y => sendTo ws y v))) := by
  have KA := f_above x v hx h0 hv
  have KS := fun z => f_sendTo v nl out x 1 value nv vals (aboveN x v.toNat) z (aboveN_lt _ _) ws hws hl
  have hwp := List.length_pos_iff.2 hne
  have hfl := fun k => flatS_len ws v (vals.take k)
  have hsl : ∀ y, (edges (sendTo ws y v)).length = ws.length := fun y => by rw [edges_len, sendTo_len]
  generalize aboveN x v.toNat = A at *
  have hlen := ints_len vals
  refine fn_of (l := [.cell 4 91]) Tryz.func126 kRf rfl Tryz.ntmps126 rfl rfl ?_; simp only [argEnv, P0.d, Nat.reduceAdd, turnP, List.map_cons, List.map_nil]
  repeat' (first|refine wk ?_|((first|refine' w_q rfl rfl ?xa rfl ?_|refine' v_q rfl rfl ?xa rfl ?_|refine' w_yes rfl rfl (lookO_spec rfl) rfl ?xa rfl ?_|refine' v_yes rfl rfl (lookO_spec rfl) rfl ?xa rfl ?_);case xa => exact k_call KA rfl ⟨asA_r (evO_spec rfl), asA_r (evO_spec rfl), trivial⟩)|(refine wkB ?_ ?_<;>intro hg_<;>try exact wkX)|fail)
  obtain ⟨F, hF0, hF1⟩ : ∃ F : Nat → St, (F 0 = mkS 69 [(55, .one (.r true (int (0 : Nat)))), (54, .one (.r true (int (ints vals).length))), (53, .one (.r false (row nv 1 (ints vals)))), (6, .one (.ptr 6 0 0 0)), (5, .one (.r true (R.val (.int .u32 (A : Int))))), (4, .one (.ptr 4 0 0 0)), (3, .one (.ptr 3 0 0 0))] [(6, .var 91 [.r true (int 0), .r true (row true 0 []), .r true (bool false)]), (4, .var 91 [.r true (int 0), .r true (row true 0 []), .r true (bool false)]), (3, .var 102 [.r false (int v), .r false (row nl 3 (edges out)), .r false (R.val (.int .u32 (x : Int))), .r false (int 1), .r false (int value), .r false (row nv 1 (ints vals))])]) ∧ (∀ k, F (k + 1) = mkS 69 [(55, .one (.r true (int ((k + 1 : Nat) : Int)))), (54, .one (.r true (int (ints vals).length))), (53, .one (.r false (row nv 1 (ints vals)))), (6, .one (.ptr 6 0 0 0)), (5, .one (.r true (R.val (.int .u32 (A : Int))))), (4, .one (.ptr 4 0 0 0)), (3, .one (.ptr 3 0 0 0))] [(100, .sl 105 3 true (edges ((vals.take (k + 1)).flatMap fun y => sendTo ws y v))), (6, .var 91 [.r true (int 0), .own 100 0 ((edges ((vals.take (k + 1)).flatMap fun y => sendTo ws y v)).length) 3, .r true (bool false)]), (4, .var 91 [.r true (int 0), .r true (row true 0 []), .r true (bool false)]), (3, .var 102 [.r false (int v), .r false (row nl 3 (edges out)), .r false (R.val (.int .u32 (x : Int))), .r false (int 1), .r false (int value), .r false (row nv 1 (ints vals))])]) :=
    ⟨fun k => Nat.rec (mkS 69 [(55, .one (.r true (int (0 : Nat)))), (54, .one (.r true (int (ints vals).length))), (53, .one (.r false (row nv 1 (ints vals)))), (6, .one (.ptr 6 0 0 0)), (5, .one (.r true (R.val (.int .u32 (A : Int))))), (4, .one (.ptr 4 0 0 0)), (3, .one (.ptr 3 0 0 0))] [(6, .var 91 [.r true (int 0), .r true (row true 0 []), .r true (bool false)]), (4, .var 91 [.r true (int 0), .r true (row true 0 []), .r true (bool false)]), (3, .var 102 [.r false (int v), .r false (row nl 3 (edges out)), .r false (R.val (.int .u32 (x : Int))), .r false (int 1), .r false (int value), .r false (row nv 1 (ints vals))])]) (fun k _ => mkS 69 [(55, .one (.r true (int ((k + 1 : Nat) : Int)))), (54, .one (.r true (int (ints vals).length))), (53, .one (.r false (row nv 1 (ints vals)))), (6, .one (.ptr 6 0 0 0)), (5, .one (.r true (R.val (.int .u32 (A : Int))))), (4, .one (.ptr 4 0 0 0)), (3, .one (.ptr 3 0 0 0))] [(100, .sl 105 3 true (edges ((vals.take (k + 1)).flatMap fun y => sendTo ws y v))), (6, .var 91 [.r true (int 0), .own 100 0 ((edges ((vals.take (k + 1)).flatMap fun y => sendTo ws y v)).length) 3, .r true (bool false)]), (4, .var 91 [.r true (int 0), .r true (row true 0 []), .r true (bool false)]), (3, .var 102 [.r false (int v), .r false (row nl 3 (edges out)), .r false (R.val (.int .u32 (x : Int))), .r false (int 1), .r false (int value), .r false (row nv 1 (ints vals))])]) k, rfl, fun _ => rfl⟩
  refine aw_loopI (fun k : Nat => k ≤ vals.length) F (fun k => vals.length - k) 0 (Nat.zero_le _) (by rw [hF0];(refine weak_ren [] rfl ?_ ?_ <;>exact wkW)) ?_
  clear KA
  intro k hk
  by_cases hlt : k < vals.length
  · have hix := ints_at hlt
    have hsn := flat_snoc (fun y => sendTo ws y v) hlt
    have hk1 := hfl (k + 1)
    have hk0 := hfl k
    rw [List.length_take] at hk1 hk0
    have hle1 : min (k + 1) vals.length = k + 1 := by omega
    have hle0 : min k vals.length = k := by omega
    rw [hle1] at hk1
    rw [hle0] at hk0
    have hb : k * ws.length ≤ 2000 * 32 := Nat.mul_le_mul oM hl
    clear hfl hle1 hle0
    generalize vals[k] = y at *
    have KSy := KS y
    have hsy := hsl y
    have hfin : ∀ s' : St, Weak s' (F (k + 1)) → ∃ x' : Nat, x' ≤ vals.length ∧ Weak s' (F x') ∧ vals.length - x' < vals.length - k := fun s' h => ⟨k + 1, by omega, h, by omega⟩
    rw [hF1 k, hsn, edges_appL] at hfin
    clear hsl
    generalize edges (sendTo ws y v) = Y at *
    cases k with
    | zero =>
      have e0 : edges ((vals.take 0).flatMap fun y => sendTo ws y v) = [] := rfl
      rw [e0] at hfin
      rw [hF0]
      clear hF0 hF1 KS hsn
      repeat' (first|refine wk ?_|((first|refine' w_q rfl rfl ?xa rfl ?_|refine' v_q rfl rfl ?xa rfl ?_|refine' w_yes rfl rfl (lookO_spec rfl) rfl ?xa rfl ?_|refine' v_yes rfl rfl (lookO_spec rfl) rfl ?xa rfl ?_);case xa => first|exact k_index tbOk rfl rfl rfl rfl oM (by exact hix)|exact k_call KSy rfl ⟨asA_agg (evO_spec rfl) ⟨cAr_r, cAr_r, cAr_r, cAr_r, cAr_r, cAr_r, trivial⟩, asA_r (evO_spec rfl), asA_r (evO_spec rfl), trivial⟩)|((first|refine' w_e rfl ?xa ?xb ?xc ?xe ?_|refine' v_e rfl ?xa ?xb ?xc ?xe ?_);(case xa => exact e_append_nil tlOk rfl rfl rfl rfl rfl slD_row oM (by simp only [maxLen];omega) oM);(case xb|xc|xe=>rfl);try refine wkD ?_)|(refine wkB ?_ ?_<;>intro hg_<;>try exact wkX)|fail)
      all_goals first
        | (refine hfin _ ?_
           (refine weak_ren [(100, 65)] rfl ?_ ?_ <;> repeat' (first|refine wkS ?_ ?_|exact wkE|exact d_own (by rw [List.nil_append])|exact ob_sl rfl rfl));done)
        | fail
    | succ k =>
      rw [hF1 k]
      clear hF0 hF1 KS
      have hel : (edges ((vals.take (k + 1)).flatMap fun y => sendTo ws y v)).length = (k + 1) * ws.length := by rw [edges_len]; exact hk0
      generalize edges ((vals.take (k + 1)).flatMap fun y => sendTo ws y v) = X at *
      rw [List.length_append] at hfin
      repeat' (first|refine wk ?_|((first|refine' w_q rfl rfl ?xa rfl ?_|refine' v_q rfl rfl ?xa rfl ?_|refine' w_yes rfl rfl (lookO_spec rfl) rfl ?xa rfl ?_|refine' v_yes rfl rfl (lookO_spec rfl) rfl ?xa rfl ?_);case xa => first|exact k_index tbOk rfl rfl rfl rfl oM (by exact hix)|exact k_call KSy rfl ⟨asA_agg (evO_spec rfl) ⟨cAr_r, cAr_r, cAr_r, cAr_r, cAr_r, cAr_r, trivial⟩, asA_r (evO_spec rfl), asA_r (evO_spec rfl), trivial⟩)|((first|refine' w_e rfl ?xa ?xb ?xc ?xe ?_|refine' v_e rfl ?xa ?xb ?xc ?xe ?_);(case xa => exact e_append tlOk rfl rfl rfl rfl rfl rfl slD_row rfl (by simp only [maxLen];omega) oM);(case xb|xc|xe=>rfl);try refine wkD ?_)|(refine wkB ?_ ?_<;>intro hg_<;>try exact wkX)|fail)
      all_goals first
        | (refine hfin _ ?_
           (refine weak_ren [(100, 65)] rfl ?_ ?_ <;> repeat' (first|refine wkS ?_ ?_|exact wkE|exact d_own (by rw [List.length_append])|exact ob_sl rfl rfl));done)
        | fail
  · obtain rfl : k = vals.length := by omega
    clear KS
    by_cases hw : vals = []
    · have e0 : F vals.length = F 0 := by rw [hw]; rfl
      rw [e0, hF0]
      clear hF0 hF1 e0
      subst hw
      repeat' (first|refine wk ?_|(refine wkB ?_ ?_<;>intro hg_<;>try exact wkX)|fail)
      all_goals first
        | exact ret_v (rv_cell rfl rfl tyF0 rfl rfl rfl (dres_agg (by exact ⟨cres_val, cres_nil, cres_val, trivial⟩)))
        | fail
    · have hpv := List.length_pos_iff.2 hw
      have hp : vals.length = (vals.length - 1) + 1 := by omega
      have hfv := hfl vals.length
      rw [List.take_length] at hfv
      have hd : decide (vals.flatMap (fun y => sendTo ws y v) = []) = false := by
        rw [decide_eq_false_iff_not]
        intro e
        rw [e] at hfv
        have : 0 < vals.length * ws.length := Nat.mul_pos hpv hwp
        simp at hfv; omega
      rw [hd]
      have e0 : F vals.length = F ((vals.length - 1) + 1) := by rw [← hp]
      rw [e0, hF1, ← hp, List.take_length]
      clear hF0 hF1 e0 hd hfl
      generalize vals.flatMap (fun y => sendTo ws y v) = X at *
      repeat' (first|refine wk ?_|(refine wkB ?_ ?_<;>intro hg_<;>try exact wkX)|fail)
      all_goals first
        | exact ret_v (rv_cell rfl rfl tyF0 rfl rfl rfl (dres_agg (by exact ⟨cres_val, cres_own0 (lookHO_spec rfl) rfl, cres_val, trivial⟩)))
        | fail
theorem count_snoc (Q : Int → Bool) {l : List Int} {k : Nat} (h : k < l.length) : (l.take (k + 1)).countP Q = (l.take k).countP Q + (if Q l[k] then 1 else 0) := by
  rw [List.take_succ_eq_append_getElem h, List.countP_append]
  simp [List.countP_cons]
theorem f_maskHasZ (M : Nat) (v : Int) (hM : M < 4294967296) (h0 : 0 ≤ v) (hv : v ≤ 31) : Fn Tryz.prog 128 [mP M, iP v] (.v (.one (bool (M.testBit v.toNat)))) := by
  have := f_maskHas M v.toNat hM oM
  rwa [Int.toNat_of_nonneg h0] at this
theorem f_act2 (v : Int) (nl : Bool) (out : List E3) (x : Nat) (rd value : Int) (nv : Bool) (vals : List Int) (Q : Int → Bool) (hQ : ∀ y, Q y = (decide (0 ≤ y) && (decide (y < 16) && x.testBit y.toNat))) (hvl : vals.length ≤ 2000) (hrd : 2 ≤ rd) (hx : x < 4294967296) (h0 : 0 ≤ v) (hv : v ≤ 31) : Fn Tryz.prog 126 [.agg [], turnP v nl out x rd value nv vals] (.v (deedP ((vals.countP Q : Nat) : Int) true [])) := by
  have KA := f_above x v hx h0 hv
  generalize aboveN x v.toNat = A at *
  have hlen := ints_len vals
  refine fn_of (l := [.cell 4 91]) Tryz.func126 kRf rfl Tryz.ntmps126 rfl rfl ?_; simp only [argEnv, P0.d, Nat.reduceAdd, turnP, List.map_cons, List.map_nil]
  repeat' (first|refine wk ?_|((first|refine' w_q rfl rfl ?xa rfl ?_|refine' v_q rfl rfl ?xa rfl ?_|refine' w_yes rfl rfl (lookO_spec rfl) rfl ?xa rfl ?_|refine' v_yes rfl rfl (lookO_spec rfl) rfl ?xa rfl ?_);case xa => exact k_call KA rfl ⟨asA_r (evO_spec rfl), asA_r (evO_spec rfl), trivial⟩)|(refine wkB ?_ ?_<;>intro hg_<;>try exact wkX)|fail)
  all_goals (try (exfalso; simp at hg_; omega))
  all_goals (try (exfalso; simp_all; omega))
  obtain ⟨F, hF⟩ : ∃ F : Nat → St, ∀ k, F k = mkS 69 [(21, .one (.r true (int k))), (20, .one (.r true (int (ints vals).length))), (19, .one (.r false (row nv 1 (ints vals)))), (6, .one (.ptr 6 0 0 0)), (5, .one (.r true (R.val (.int .u32 (A : Int))))), (4, .one (.ptr 4 0 0 0)), (3, .one (.ptr 3 0 0 0))] [(6, .var 91 [.r true (int ((vals.take k).countP Q : Nat)), .r true (row true 0 []), .r true (bool false)]), (4, .var 91 [.r true (int 0), .r true (row true 0 []), .r true (bool false)]), (3, .var 102 [.r false (int v), .r false (row nl 3 (edges out)), .r false (R.val (.int .u32 (x : Int))), .r false (int rd), .r false (int value), .r false (row nv 1 (ints vals))])] := ⟨_, fun _ => rfl⟩
  refine aw_loopI (fun k : Nat => k ≤ vals.length) F (fun k => vals.length - k) 0 (Nat.zero_le _) (by rw [hF];(refine weak_ren [] rfl ?_ ?_ <;>exact wkW)) ?_
  clear KA
  intro k hk
  rw [hF]
  by_cases hlt : k < vals.length
  · have hix := ints_at hlt
    have hcs := count_snoc Q hlt
    have hcl := List.countP_le_length (p := Q) (l := vals.take k)
    rw [List.length_take] at hcl
    have hfin : ∀ s' : St, Weak s' (F (k + 1)) → ∃ x' : Nat, x' ≤ vals.length ∧ Weak s' (F x') ∧ vals.length - x' < vals.length - k := fun s' h => ⟨k + 1, by omega, h, by omega⟩
    rw [hF (k + 1), hcs, hQ vals[k]] at hfin
    clear hF hcs hQ
    generalize vals[k] = y at *
    generalize (vals.take k).countP Q = c at *
    by_cases hy0 : 0 ≤ y
    · by_cases hy1 : y < 16
      · have KH := f_maskHasZ x y hx hy0 oM
        have e0 : decide (0 ≤ y) = true := by simp [hy0]
        have e1 : decide (y < 16) = true := by simp [hy1]
        rw [e0, e1, Bool.true_and, Bool.true_and] at hfin
        generalize x.testBit y.toNat = B at *
        cases B
        · have hfin : ∀ s' : St, Weak s' (mkS 69 [(21, .one (.r true (int ((k + 1 : Nat) : Int)))), (20, .one (.r true (int (ints vals).length))), (19, .one (.r false (row nv 1 (ints vals)))), (6, .one (.ptr 6 0 0 0)), (5, .one (.r true (R.val (.int .u32 (A : Int))))), (4, .one (.ptr 4 0 0 0)), (3, .one (.ptr 3 0 0 0))] [(6, .var 91 [.r true (int (c : Nat)), .r true (row true 0 []), .r true (bool false)]), (4, .var 91 [.r true (int 0), .r true (row true 0 []), .r true (bool false)]), (3, .var 102 [.r false (int v), .r false (row nl 3 (edges out)), .r false (R.val (.int .u32 (x : Int))), .r false (int rd), .r false (int value), .r false (row nv 1 (ints vals))])]) → ∃ x' : Nat, x' ≤ vals.length ∧ Weak s' (F x') ∧ vals.length - x' < vals.length - k := hfin
          repeat' (first|refine wk ?_|((first|refine' w_q rfl rfl ?xa rfl ?_|refine' v_q rfl rfl ?xa rfl ?_|refine' w_yes rfl rfl (lookO_spec rfl) rfl ?xa rfl ?_|refine' v_yes rfl rfl (lookO_spec rfl) rfl ?xa rfl ?_);case xa => first|exact k_index tbOk rfl rfl rfl rfl oM (by exact hix)|exact k_call KH rfl ⟨asA_r (evO_spec rfl), asA_r (evO_spec rfl), trivial⟩)|(refine wkB ?_ ?_<;>intro hg_<;>try exact wkX)|fail)
          all_goals first
            | (refine hfin _ ?_
               (refine weak_ren [] rfl ?_ ?_ <;>exact wkW);done)
            | (exfalso; simp_all; done)
            | fail
        · have hfin : ∀ s' : St, Weak s' (mkS 69 [(21, .one (.r true (int ((k + 1 : Nat) : Int)))), (20, .one (.r true (int (ints vals).length))), (19, .one (.r false (row nv 1 (ints vals)))), (6, .one (.ptr 6 0 0 0)), (5, .one (.r true (R.val (.int .u32 (A : Int))))), (4, .one (.ptr 4 0 0 0)), (3, .one (.ptr 3 0 0 0))] [(6, .var 91 [.r true (int (c + 1 : Nat)), .r true (row true 0 []), .r true (bool false)]), (4, .var 91 [.r true (int 0), .r true (row true 0 []), .r true (bool false)]), (3, .var 102 [.r false (int v), .r false (row nl 3 (edges out)), .r false (R.val (.int .u32 (x : Int))), .r false (int rd), .r false (int value), .r false (row nv 1 (ints vals))])]) → ∃ x' : Nat, x' ≤ vals.length ∧ Weak s' (F x') ∧ vals.length - x' < vals.length - k := hfin
          have hw : IntKind.i64.wrap ((c : Int) + 1) = ((c + 1 : Nat) : Int) := by rw [IntWalk.i64_in _ oM]; omega
          repeat' (first|refine wk ?_|((first|refine' w_q rfl rfl ?xa rfl ?_|refine' v_q rfl rfl ?xa rfl ?_|refine' w_yes rfl rfl (lookO_spec rfl) rfl ?xa rfl ?_|refine' v_yes rfl rfl (lookO_spec rfl) rfl ?xa rfl ?_);case xa => first|exact k_index tbOk rfl rfl rfl rfl oM (by exact hix)|exact k_call KH rfl ⟨asA_r (evO_spec rfl), asA_r (evO_spec rfl), trivial⟩)|(refine wkB ?_ ?_<;>intro hg_<;>try exact wkX)|fail)
          all_goals first
            | (refine hfin _ ?_
               rw [hw]
               (refine weak_ren [] rfl ?_ ?_ <;>exact wkW);done)
            | (exfalso; simp_all; done)
            | fail
      · have e1 : decide (y < 16) = false := by simp [hy1]
        rw [e1, Bool.false_and, Bool.and_false] at hfin
        have hfin : ∀ s' : St, Weak s' (mkS 69 [(21, .one (.r true (int ((k + 1 : Nat) : Int)))), (20, .one (.r true (int (ints vals).length))), (19, .one (.r false (row nv 1 (ints vals)))), (6, .one (.ptr 6 0 0 0)), (5, .one (.r true (R.val (.int .u32 (A : Int))))), (4, .one (.ptr 4 0 0 0)), (3, .one (.ptr 3 0 0 0))] [(6, .var 91 [.r true (int (c : Nat)), .r true (row true 0 []), .r true (bool false)]), (4, .var 91 [.r true (int 0), .r true (row true 0 []), .r true (bool false)]), (3, .var 102 [.r false (int v), .r false (row nl 3 (edges out)), .r false (R.val (.int .u32 (x : Int))), .r false (int rd), .r false (int value), .r false (row nv 1 (ints vals))])]) → ∃ x' : Nat, x' ≤ vals.length ∧ Weak s' (F x') ∧ vals.length - x' < vals.length - k := hfin
        repeat' (first|refine wk ?_|((first|refine' w_q rfl rfl ?xa rfl ?_|refine' v_q rfl rfl ?xa rfl ?_|refine' w_yes rfl rfl (lookO_spec rfl) rfl ?xa rfl ?_|refine' v_yes rfl rfl (lookO_spec rfl) rfl ?xa rfl ?_);case xa => exact k_index tbOk rfl rfl rfl rfl oM (by exact hix))|(refine wkB ?_ ?_<;>intro hg_<;>try exact wkX)|fail)
        all_goals first
          | (refine hfin _ ?_
             (refine weak_ren [] rfl ?_ ?_ <;>exact wkW);done)
          | (exfalso; simp_all; done)
          | fail
    · have e0 : decide (0 ≤ y) = false := by simp [hy0]
      rw [e0, Bool.false_and] at hfin
      have hfin : ∀ s' : St, Weak s' (mkS 69 [(21, .one (.r true (int ((k + 1 : Nat) : Int)))), (20, .one (.r true (int (ints vals).length))), (19, .one (.r false (row nv 1 (ints vals)))), (6, .one (.ptr 6 0 0 0)), (5, .one (.r true (R.val (.int .u32 (A : Int))))), (4, .one (.ptr 4 0 0 0)), (3, .one (.ptr 3 0 0 0))] [(6, .var 91 [.r true (int (c : Nat)), .r true (row true 0 []), .r true (bool false)]), (4, .var 91 [.r true (int 0), .r true (row true 0 []), .r true (bool false)]), (3, .var 102 [.r false (int v), .r false (row nl 3 (edges out)), .r false (R.val (.int .u32 (x : Int))), .r false (int rd), .r false (int value), .r false (row nv 1 (ints vals))])]) → ∃ x' : Nat, x' ≤ vals.length ∧ Weak s' (F x') ∧ vals.length - x' < vals.length - k := hfin
      repeat' (first|refine wk ?_|((first|refine' w_q rfl rfl ?xa rfl ?_|refine' v_q rfl rfl ?xa rfl ?_|refine' w_yes rfl rfl (lookO_spec rfl) rfl ?xa rfl ?_|refine' v_yes rfl rfl (lookO_spec rfl) rfl ?xa rfl ?_);case xa => exact k_index tbOk rfl rfl rfl rfl oM (by exact hix))|(refine wkB ?_ ?_<;>intro hg_<;>try exact wkX)|fail)
      all_goals first
        | (refine hfin _ ?_
           (refine weak_ren [] rfl ?_ ?_ <;>exact wkW);done)
        | (exfalso; simp_all; done)
        | fail
  · rw [List.take_of_length_le oM]
    clear hF hQ
    generalize vals.countP Q = c at *
    repeat' (first|refine wk ?_|(refine wkB ?_ ?_<;>intro hg_<;>try exact wkX)|fail)
    all_goals first
      | exact ret_v (rv_cell rfl rfl tyF0 rfl rfl rfl (dres_agg (by exact ⟨cres_val, cres_nil, cres_val, trivial⟩)))
      | fail
end Go.Proofs.YtlobefglhppbdaaGreatDoor.Abs
set_option linter.unusedSimpArgs false
set_option linter.unusedVariables false
namespace Go.Proofs.YtlobefglhppbdaaGreatDoor.Abs
open Go.RowKit
open R (val row ref)
abbrev tpV : Value := .iface 118 (.agg #[])
section
variable {P : Program} {l : List (Nat × D)} {h : List (Nat × Ob)} {o : Oper} {f : FuncId} {r : Operand} {xs : List Operand} {tys : Array TypeId} {name : String} {T : TypeId}
theorem k_ifE {H : Nat → Option Ob} {x : Operand} {u : TypeDesc} (hu : P.underlying T = some u) (hni : ∀ ms, u ≠ .interface ms) (ho : o.op = .makeInterface T x) (hx : evO l x = some (.agg [])) : Loc P H (evD (look l)) o (.one (.r true (R.val (.iface T (.agg #[]))))) :=
  loc_run fun base a w ι own hw he hH => by
    have h1 := he x (by rw [ho]; simp [Op.operands])
    rw [evO_spec hx] at h1
    obtain ⟨vs, e1, e2, _⟩ := h1
    obtain rfl : vs = [] := List.eq_nil_of_length_eq_zero e2
    have e1 : a.eval x = .agg #[] := e1
    refine ⟨.iface T (.agg #[]), ?_, rfl, rfl⟩
    unfold execOp
    rw [ho]
    simp only [e1]
    unfold Instr.makeInterface
    cases u <;> first|exact absurd rfl (hni _)|simp [run_underlying hu]
theorem k_nilI {H : Nat → Option Ob} {x : Operand} {m : Bool} {v : Value} (ho : o.op = .nilCheck x) (hx : evO l x = some (.one (.r m (R.val (.iface T v))))) : Loc P H (evD (look l)) o (.one (.r m (R.val (.iface T v)))) :=
  loc_run fun base a w ι own hw he hH => by
    have h1 := he x (by rw [ho]; simp [Op.operands])
    rw [evO_spec hx] at h1
    have e1 : a.eval x = .iface T v := ((val_p (c := Cx.young ⟨w, own⟩ base m)).1 h1).1
    refine ⟨a.eval x, ?_, h1⟩
    unfold execOp
    rw [ho]
    simp only [e1, Sem.run_pure]
theorem k_invE {res : Res} {ys : List P0} {m : Bool} (hf : Fn P f (.agg [] :: ys) res) (ho : o.op = .call { callee := .invoke r name, args := xs.toArray, argTypes := tys }) (hx : evO l r = some (.one (.r m (R.val (.iface T (.agg #[]))))))
    (hm : ∀ (w : World), (method (P.types.size + Made.depth) T (.agg #[]) name).run P w = .ok (f, .agg #[]) w) (ha : AsArgs (lookH h) (evD (look l)) xs ys) : Loc P (lookH h) (evD (look l)) o res.d :=
  k_callG hf fun base a w ι own hH hev => by
    have h1 := hev r (by rw [ho]; simp [Op.operands, Call.operands])
    rw [evO_spec hx] at h1
    have e1 : a.eval r = .iface T (.agg #[]) := ((val_p (c := Cx.young ⟨w, own⟩ base m)).1 h1).1
    exact ⟨_, run_inv ho e1 (hm w) hf.1, ⟨[], rfl, rfl, fun j r hj => by simp at hj⟩, args_of hH xs ys (fun x hx => hev x (by rw [ho]; simp [Op.operands, Call.operands, hx])) ha⟩
end
theorem u_tri : ∃ u, Tryz.prog.underlying 118 = some u ∧ ∀ ms, u ≠ .interface ms := ⟨_, Tryz.underlying118, fun ms h => by cases h⟩
theorem f_actorOf : Fn Tryz.prog 59 [prgP 5 0 0] (.v (.one (R.val tpV))) := by
  obtain ⟨u, hu, hni⟩ := u_tri
  refine fn_of (l := [.tmp 2]) Tryz.func59 kRf rfl Tryz.ntmps59 rfl rfl ?_; simp only [argEnv, P0.d, Nat.reduceAdd, prgP]
  repeat' (first|refine wk ?_|((first|refine' w_q rfl rfl ?xa rfl ?_|refine' v_q rfl rfl ?xa rfl ?_|refine' w_yes rfl rfl (lookO_spec rfl) rfl ?xa rfl ?_|refine' v_yes rfl rfl (lookO_spec rfl) rfl ?xa rfl ?_);case xa => exact k_ifE hu hni rfl rfl)|(refine wkB ?_ ?_<;>intro hg_<;>try exact wkX)|fail)
  all_goals first
    | exact ret_tmp rfl (dres_one cres_new)
    | (exfalso; simp at hg_; done)
    | fail
abbrev rulesP (M : Nat) (es : List E3) (rd : Int) : P0 := .agg [R.val tpV, row false 1 (lstP M es), row false 1 ((nearM M es).map mP), int rd]
theorem f_rulesOf (M : Nat) (nil : Bool) (es : List E3) (rd : Int) (hg : gOk (M : Int) es = true) : Fn Tryz.prog 52 [graphP (M : Int) nil es, prgP 5 0 0, iP rd] (.v (rulesP M es rd)) := by
  have hl40 := gOk_len hg
  have hmC := gOk_mC hg
  have hI := gOk_edges hg
  have KA := f_actorOf
  have KL := f_lists M nil es oM oM (fun e he => (hI e he).1)
  have KN := f_nearMasks M nil es oM oM (in_M hg rfl)
  unfold rulesP
  generalize lstP M es = LS at *
  generalize (nearM M es).map mP = NM at *
  refine fn_of (l := [.cell 6 88]) Tryz.func52 kRf rfl Tryz.ntmps52 rfl rfl ?_; simp only [argEnv, P0.d, Nat.reduceAdd, graphP, prgP, List.map_cons, List.map_nil]
  repeat' (first|refine wk ?_|((first|refine' w_q rfl rfl ?xa rfl ?_|refine' v_q rfl rfl ?xa rfl ?_|refine' w_yes rfl rfl (lookO_spec rfl) rfl ?xa rfl ?_|refine' v_yes rfl rfl (lookO_spec rfl) rfl ?xa rfl ?_);case xa => first|exact k_call KA rfl ⟨asA_agg (evO_spec rfl) ⟨cAr_r, cAr_r, cAr_r, trivial⟩, trivial⟩|exact k_call KL rfl ⟨asA_agg (evO_spec rfl) ⟨cAr_r, cAr_r, trivial⟩, trivial⟩)|((first|refine' w_e rfl ?xa ?xb ?xc ?xe ?_|refine' v_e rfl ?xa ?xb ?xc ?xe ?_);(case xa => exact e_callO KN rfl rfl ⟨asA_agg (evO_spec rfl) ⟨cAr_r, cAr_r, trivial⟩, trivial⟩);(case xb|xc|xe=>rfl);try refine wkD ?_)|(refine wkB ?_ ?_<;>intro hg_<;>try exact wkX)|fail)
  all_goals first
    | exact ret_v (rv_cell rfl rfl tyF0 rfl rfl rfl (dres_agg (by exact ⟨cres_new, cres_new, cres_own0 (lookHO_spec rfl) rfl, cres_val, trivial⟩)))
    | fail
theorem act_m (w : World) : (method (Tryz.prog.types.size + Made.depth) 118 (.agg #[]) "loop.example/graphcluster/impl.act").run Tryz.prog w = .ok (126, .agg #[]) w := by kernel_rfl
theorem f_roundSkip (M : Nat) (es : List E3) (rd v value : Int) (nil : Bool) (ms : List E3) (hl : ms.length ≤ 2000) (hv : valsT v ms = []) : Fn Tryz.prog 53 [rulesP M es rd, iP v, iP value, .one (bool false), .one (row nil 3 (edges ms))] (.tup [deedP value true [], .one (bool false)]) := by
  have KV := f_valuesTo nil ms v hl
  rw [hv] at KV
  have KV : Fn Tryz.prog 61 [.one (row nil 3 (edges ms)), iP v] (.v (.one (row true 1 []))) := KV
  unfold rulesP
  generalize lstP M es = LS at *
  generalize (nearM M es).map mP = NM at *
  refine fn_of (l := [.cell 10 91, .tmp 11]) Tryz.func53 kRf rfl Tryz.ntmps53 rfl rfl ?_; simp only [argEnv, P0.d, Nat.reduceAdd, rulesP, List.map_cons, List.map_nil]
  repeat' (first|refine wk ?_|((first|refine' w_q rfl rfl ?xa rfl ?_|refine' v_q rfl rfl ?xa rfl ?_|refine' w_yes rfl rfl (lookO_spec rfl) rfl ?xa rfl ?_|refine' v_yes rfl rfl (lookO_spec rfl) rfl ?xa rfl ?_);case xa => exact k_call KV rfl ⟨asA_r (evO_spec rfl), asA_r (evO_spec rfl), trivial⟩)|(refine wkB ?_ ?_<;>intro hg_<;>try exact wkX)|fail)
  all_goals first
    | exact ret_2 (rv_cell rfl rfl tyF0 rfl rfl rfl (dres_agg (by exact ⟨cres_val, cres_nil, cres_val, trivial⟩))) (rv_tmp rfl (dres_bool rfl))
    | (exfalso; simp_all; done)
    | fail
theorem f_roundAct (M : Nat) (es : List E3) (rd v value : Int) (goes nil : Bool) (ms : List E3) (z : Int) (nm : Bool) (X : List E3) (h0 : 0 ≤ v) (h1 : v < (M : Int)) (hl : ms.length ≤ 2000) (hnl : (nearM M es).length = M) (hM : M ≤ 16) (hgo : goes = true ∨ valsT v ms ≠ [])
    (K : Fn Tryz.prog 126 [.agg [], turnP v (decide (outE es v = [])) (outE es v) ((nearM M es).getD v.toNat 0) rd value (decide (valsT v ms = [])) (valsT v ms)] (.v (deedP z nm X))) :
    Fn Tryz.prog 53 [rulesP M es rd, iP v, iP value, .one (bool goes), .one (row nil 3 (edges ms))] (.tup [deedP z nm X, .one (bool true)]) := by
  have KV := f_valuesTo nil ms v hl
  have hLl := lstP_len M es
  have hLa := lstP_at (m := M) (es := es) h0 h1
  have hvl := ints_len (valsT v ms)
  have hvp : valsT v ms ≠ [] → 0 < (valsT v ms).length := fun h => List.length_pos_iff.2 h
  generalize decide (valsT v ms = []) = nv at *
  generalize valsT v ms = vals at *
  generalize decide (outE es v = []) = no at *
  generalize outE es v = OE at *
  unfold rulesP
  generalize lstP M es = LS at *
  have hNl : ((nearM M es).map mP).length = M := by rw [List.length_map]; exact hnl
  have hNa := mP_get (ms := nearM M es) (i := v.toNat) oM
  generalize (nearM M es).getD v.toNat 0 = x at *
  generalize (nearM M es).map mP = NM at *
  refine fn_of (l := [.cell 10 91, .tmp 11]) Tryz.func53 kRf rfl Tryz.ntmps53 rfl rfl ?_; simp only [argEnv, P0.d, Nat.reduceAdd, rulesP, turnP, List.map_cons, List.map_nil]
  repeat' (first|refine wk ?_|((first|refine' w_q rfl rfl ?xa rfl ?_|refine' v_q rfl rfl ?xa rfl ?_|refine' w_yes rfl rfl (lookO_spec rfl) rfl ?xa rfl ?_|refine' v_yes rfl rfl (lookO_spec rfl) rfl ?xa rfl ?_);case xa => first|exact k_call KV rfl ⟨asA_r (evO_spec rfl), asA_r (evO_spec rfl), trivial⟩|exact k_index tbOk rfl rfl rfl rfl oM (by first|exact hLa|exact hNa)|exact k_nilI rfl rfl|exact k_invE K rfl rfl act_m ⟨asA_agg (evO_spec rfl) ⟨cAr_r, cAr_r, cAr_r, cAr_r, cAr_r, cAr_r, trivial⟩, trivial⟩)|(refine wkB ?_ ?_<;>intro hg_<;>try exact wkX)|fail)
  all_goals first
    | exact ret_2 (rv_cell rfl rfl tyF0 rfl rfl rfl (dres_agg (by exact ⟨cres_val, cres_new, cres_val, trivial⟩))) (rv_tmp rfl (dres_bool rfl))
    | (exfalso; rcases hgo with h | h <;> simp_all; done)
    | fail
end Go.Proofs.YtlobefglhppbdaaGreatDoor.Abs
