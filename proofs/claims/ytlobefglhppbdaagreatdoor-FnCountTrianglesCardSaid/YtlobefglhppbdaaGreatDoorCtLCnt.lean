/- A round by the program, by states: StepState for the program for triangles. No statement of the seat is proved here. -/
import Derived.Lib.Hide
import Derived.Test.YtlobefglhppbdaaGreatDoorCtTy
import Derived.Test.YtlobefglhppbdaaGreatDoorCtGTr5
import Derived.Test.YtlobefglhppbdaaGreatDoorCtAHopJ
import Derived.Test.YtlobefglhppbdaaGreatDoorCtARul
import Derived.Test.YtlobefglhppbdaaGreatDoorCtGTr6
import Derived.Test.YtlobefglhppbdaaGreatDoorCtASta
import Derived.Test.YtlobefglhppbdaaGreatDoorCtASt0
import Derived.Test.YtlobefglhppbdaaGreatDoorCtADrT
import Derived.Test.YtlobefglhppbdaaGreatDoorCtALawG
import Derived.Test.YtlobefglhppbdaaGreatDoorCtADropL
set_option linter.unusedSimpArgs false
set_option linter.unusedVariables false
set_option maxRecDepth 100000
set_option maxHeartbeats 16000000
namespace Go.Proofs.YtlobefglhppbdaaGreatDoor.Abs
open Go.RowKit
open R (val row ref)
theorem near_q {m : Int} {es : List E3} (hg : gOk m es = true) {M : Nat} (hm : m = (M : Int)) (v : Nat) (y : Int) : ((nearL m es v).any fun z => decide (z = y)) = (decide (0 ≤ y) && (decide (y < 16) && ((nearM M es).getD v 0).testBit y.toNat)) := by
  rw [near_any hg hm, Bool.eq_iff_iff]
  have hmC := gOk_mC hg
  constructor
  · intro h
    have h1 := adj_lt hg hm h
    rw [near_tb hg hm, Int.toNat_of_nonneg h1.1, h]
    simp; omega
  · intro h
    simp only [Bool.and_eq_true, decide_eq_true_eq] at h
    obtain ⟨h0, _, h2⟩ := h
    rw [near_tb hg hm, Int.toNat_of_nonneg h0] at h2
    exact h2
theorem f_roundT (M : Nat) (es : List E3) (st : Sta) (nm : Bool) (hg : gOk (M : Int) es = true) (h7 : M ≤ 7) (hr : 0 ≤ st.r) (hl : st.ms.length ≤ 2000) (k : Nat) (hk : k < M) : ∃ ok : Bool,
    Fn Tryz.prog 53 [rulesP M es st.r, iP (k : Int), iP (dV st.vs (k : Int)), .one (bool (st.gs.getD k false)), .one (row nm 3 (edges st.ms))] (.tup [deedP (zV (M : Int) es st (k : Int)) (decide (xV (M : Int) es st (k : Int) = [])) (xV (M : Int) es st (k : Int)), .one (bool ok)]) := by
  by_cases hs : skipV st (k : Int)
  · have hz : zV (M : Int) es st (k : Int) = dV st.vs (k : Int) := by unfold zV; rw [if_pos hs]
    have hx : xV (M : Int) es st (k : Int) = [] := by unfold xV; rw [if_pos hs]
    rw [hz, hx]
    unfold skipV at hs
    rw [Int.toNat_natCast] at hs
    rw [hs.1]
    exact ⟨false, f_roundSkip M es st.r k _ nm st.ms hl hs.2⟩
  · have hz : zV (M : Int) es st (k : Int) = (stepV (M : Int) es 5 0 0 st.r (k : Int) (dV st.vs (k : Int)) (valsT (k : Int) st.ms)).1 := by unfold zV; rw [if_neg hs]
    have hx : xV (M : Int) es st (k : Int) = (stepV (M : Int) es 5 0 0 st.r (k : Int) (dV st.vs (k : Int)) (valsT (k : Int) st.ms)).2.1 := by unfold xV; rw [if_neg hs]
    have hgo : st.gs.getD k false = true ∨ valsT (k : Int) st.ms ≠ [] := by
      unfold skipV at hs
      rw [Int.toNat_natCast] at hs
      cases h : st.gs.getD k false with
      | true => exact .inl rfl
      | false => exact .inr fun e => hs ⟨h, e⟩
    have hvl := Nat.le_trans (valsT_len (k : Int) st.ms) hl
    have hmC := gOk_mC hg
    refine ⟨true, f_roundAct M es st.r k _ _ nm st.ms _ _ _ oM oM hl (near_len hg rfl) oM hgo ?_⟩
    rw [Int.toNat_natCast]
    have hsm := near_sm hg rfl (M := M) k
    have hab := bits_above hg rfl (M := M) k
    have hgl := grL_M hg rfl (M := M) (k : Int)
    rw [hz, hx]
    by_cases r0 : st.r = 0
    · rw [r0, stepV0]
      have h := f_act0 (k : Int) (decide (outE es (k : Int) = [])) (outE es (k : Int)) ((nearM M es).getD k 0) (dV st.vs (k : Int)) (decide (valsT (k : Int) st.ms = [])) (valsT (k : Int) st.ms) hsm oM oM (grL (M : Int) es (k : Int)) (by rw [Int.toNat_natCast]; exact hab) oM
      have e : decide (sendTo (grL (M : Int) es (k : Int)) (k : Int) (k : Int) = []) = decide (grL (M : Int) es (k : Int) = []) := by
        congr 1
        unfold sendTo
        rw [List.map_eq_nil_iff]
      dsimp only
      rw [e]
      exact h
    · by_cases r1 : st.r = 1
      · rw [r1, stepV1]
        dsimp only
        by_cases hw : grL (M : Int) es (k : Int) = []
        · have e : ((valsT (k : Int) st.ms).flatMap fun x => sendTo (grL (M : Int) es (k : Int)) x (k : Int)) = [] := by
            rw [hw, List.flatMap_eq_nil_iff]; intro x _; rfl
          rw [e]
          exact f_act1N (k : Int) _ _ _ _ _ _ hvl hsm oM oM (by rw [Int.toNat_natCast, hab, hw])
        · exact f_act1Y (k : Int) _ _ _ _ _ _ hvl hsm oM oM (grL (M : Int) es (k : Int)) (by rw [Int.toNat_natCast]; exact hab) oM hw
      · have hQ := fun y => near_q hg rfl (M := M) k y
        have h := f_act2 (k : Int) (decide (outE es (k : Int) = [])) (outE es (k : Int)) ((nearM M es).getD k 0) st.r (dV st.vs (k : Int)) (decide (valsT (k : Int) st.ms = [])) (valsT (k : Int) st.ms) _ hQ hvl oM hsm oM oM
        have e : stepV (M : Int) es 5 0 0 st.r (k : Int) (dV st.vs (k : Int)) (valsT (k : Int) st.ms) = ((((valsT (k : Int) st.ms).countP fun x => (nearL (M : Int) es (k : Int)).any fun z => decide (z = x) : Nat) : Int), [], false) := by
          unfold stepV
          rw [if_neg oM, if_neg oM, if_neg oM, if_neg oM, if_neg r0, if_neg r1]
        rw [e]
        exact h
theorem rep_set (M k : Nat) : (bools (List.replicate M false)).set k (.one (bool false)) = bools (List.replicate M false) := by
  unfold bools
  refine List.ext_getElem (by simp) fun i h1 h2 => ?_
  rw [List.getElem_set]
  split
  · simp
  · rfl
theorem zeroB (n : Nat) : List.replicate n (P0.one (R.val (Value.bool false))) = bools (List.replicate n false) := by unfold bools; rw [List.map_replicate]
theorem zeroI (n : Nat) : List.replicate n (P0.one (R.val (Value.int .i64 0))) = ints (List.replicate n 0) := by unfold ints; rw [List.map_replicate]
theorem f_implStep (M : Nat) (nil : Bool) (es : List E3) (st nx : Sta) (nv ng nm : Bool) (h7 : M ≤ 7) (hst : stepS (M : Int) es 5 0 0 st = some nx) :
    Fn Tryz.prog 47 [graphP (M : Int) nil es, prgP 5 0 0, stateP st.r nv st.vs ng st.gs nm st.ms] (.tup [stateP nx.r false nx.vs false nx.gs false nx.ms, .one (bool true)]) := by
  have hst' := hst
  unfold stepS at hst'
  split at hst'
  case isFalse => cases hst'
  rename_i hA
  obtain ⟨hg, hp, hok⟩ := hA
  split at hst'
  case isFalse => cases hst'
  rename_i hB
  obtain ⟨hout, hnk⟩ := hB
  injection hst' with hst'
  have hb : 0 ≤ st.r ∧ st.r ≤ 100 ∧ (st.vs.length : Int) = (M : Int) ∧ (st.gs.length : Int) = (M : Int) ∧ st.ms.length ≤ 2000 := by
    have h := hok
    unfold stOk at h
    simp only [Bool.and_eq_true, decide_eq_true_eq, inR] at h
    omega
  obtain ⟨hr0, hr1, hvl, hgl, hml⟩ := hb
  obtain ⟨hn1, hn2⟩ := nextT (m := (M : Int)) rfl es st oM oM
  rw [hn2] at hout
  rw [hn1] at hst' hnk
  have hso : sortL ((allV (M : Int)).flatMap (xV (M : Int) es st)) = sortM ((allV (M : Int)).flatMap (xV (M : Int) es st)) := by unfold sortL; rw [if_pos hout]
  rw [hso] at hst' hnk
  rw [← hst']
  clear hst hst' hn1 hn2 hso
  have KR := fun k hk => f_roundT M es st nm hg h7 hr0 hml k hk
  have hto : ∀ x ∈ (allV (M : Int)).flatMap (xV (M : Int) es st), 0 ≤ x.1 ∧ x.1 ≤ 100 := fun x hx => by
    rw [List.mem_flatMap] at hx
    obtain ⟨v, _, hv⟩ := hx
    have := xV_to hg rfl st v x hv
    omega
  have hXlen : ∀ k, ((((allV (M : Int)).take k).flatMap (xV (M : Int) es st))).length ≤ 2000 := fun k => by
    refine Nat.le_trans ?_ hout
    have h := congrArg List.length (congrArg (fun l => List.flatMap (xV (M : Int) es st) l) (List.take_append_drop k (allV (M : Int))))
    rw [List.flatMap_append, List.length_append] at h
    omega
  have hM := allV_M (M : Int) rfl
  have hsn : ∀ k (h : k < M), ((allV (M : Int)).take (k + 1)).flatMap (xV (M : Int) es st) = ((allV (M : Int)).take k).flatMap (xV (M : Int) es st) ++ xV (M : Int) es st (k : Int) := fun k h => by
    have hl : k < (allV (M : Int)).length := by omega
    rw [List.take_succ_eq_append_getElem hl, allV_at (M : Int) rfl hl, List.flatMap_append]
    simp
  obtain ⟨SX, hSX⟩ : ∃ SX : Nat → List E3, ∀ k, SX k = ((allV (M : Int)).take k).flatMap (xV (M : Int) es st) := ⟨_, fun _ => rfl⟩
  have hSXM : SX M = (allV (M : Int)).flatMap (xV (M : Int) es st) := by rw [hSX, List.take_of_length_le oM]
  have hSX0 : SX 0 = [] := by rw [hSX]; rfl
  have hSl : ∀ k, (SX k).length ≤ 2000 := fun k => by rw [hSX]; exact hXlen k
  have hSn : ∀ k, k < M → SX (k + 1) = SX k ++ xV (M : Int) es st (k : Int) := fun k h => by rw [hSX, hSX]; exact hsn k h
  rw [← hSXM] at hto hnk ⊢
  obtain ⟨Z, hZ⟩ : ∃ Z : List Int, Z = (allV (M : Int)).map (zV (M : Int) es st) := ⟨_, rfl⟩
  have hZl : Z.length = M := by rw [hZ, List.length_map, hM]
  have hZk : ∀ k (h : k < Z.length), Z[k] = zV (M : Int) es st (k : Int) := fun k h => by
    have hl : k < (allV (M : Int)).length := by omega
    subst hZ
    rw [List.getElem_map, allV_at (M : Int) rfl hl]
  rw [← hZ] at hnk ⊢
  have KO := fun nb => f_inOrder nb (SX M) (hSl M) hto
  have KV2 := f_implStateValid (M : Int) (st.r + 1) false false false Z (List.replicate M false) (sortM (SX M)) (by simp only [maxLen]; omega) (by rw [List.length_replicate]; simp only [maxLen]; omega) (by rw [sortM_len]; have := hSl M; simp only [maxLen]; omega)
  rw [hnk] at KV2
  have KV1 := f_implStateValid (M : Int) st.r nv ng nm st.vs st.gs st.ms (by simp only [maxLen]; omega) (by simp only [maxLen]; omega) (by simp only [maxLen]; omega)
  rw [hok] at KV1
  have KG := f_implGraphValid (M : Int) nil es (by have := gOk_len hg; simp only [maxLen]; omega)
  rw [hg] at KG
  have KP := f_progValid 5 0 0
  rw [hp] at KP
  have KU := f_rulesOf M nil es st.r hg
  have hvat := fun k (h : k < M) => ints_atD (xs := st.vs) (i := (k : Int)) oM oM
  have hgat := fun k (h : k < M) => bools_at (gs := st.gs) (k := k) oM
  have hgd := fun k (h : k < M) => show st.gs[k]'oM = st.gs.getD k false by rw [List.getD_eq_getElem?_getD, List.getElem?_eq_getElem oM]; rfl
  have hsl : ∀ k, 0 < (xV (M : Int) es st k).length ∨ xV (M : Int) es st k = [] := fun k => by
    cases xV (M : Int) es st k with
    | nil => exact .inr rfl
    | cons a l => exact .inl (by simp)
  clear hnk hok hp hout hsn hXlen hSX hSXM hZ hto
  generalize zV (M : Int) es st = ZF at *
  generalize xV (M : Int) es st = XF at *
  unfold rulesP at KU KR
  generalize lstP M es = LS at *
  generalize (nearM M es).map mP = NM at *
  obtain ⟨r, vs, gs, ms⟩ := st
  dsimp only at *
  have hvs := ints_len vs
  have hgs := bools_len gs
  have hrw : IntKind.i64.wrap (r + 1) = r + 1 := IntWalk.i64_in _ oM
  refine fn_of (l := [.cell 6 76, .tmp 7]) Tryz.func47 kRf rfl Tryz.ntmps47 rfl rfl ?_; simp only [argEnv, P0.d, Nat.reduceAdd, graphP, prgP, stateP, List.map_cons, List.map_nil]
  repeat' (first|refine wk ?_|((first|refine' w_q rfl rfl ?xa rfl ?_|refine' v_q rfl rfl ?xa rfl ?_|refine' w_yes rfl rfl (lookO_spec rfl) rfl ?xa rfl ?_|refine' v_yes rfl rfl (lookO_spec rfl) rfl ?xa rfl ?_);case xa => first|exact k_call KG rfl ⟨asA_agg (evO_spec rfl) ⟨cAr_r, cAr_r, trivial⟩, trivial⟩|exact k_call KP rfl ⟨asA_agg (evO_spec rfl) ⟨cAr_r, cAr_r, cAr_r, trivial⟩, trivial⟩|exact k_call KV1 rfl ⟨asA_agg (evO_spec rfl) ⟨cAr_r, cAr_r, cAr_r, cAr_r, trivial⟩, asA_r (evO_spec rfl), trivial⟩|exact k_call KU rfl ⟨asA_agg (evO_spec rfl) ⟨cAr_r, cAr_r, trivial⟩, asA_agg (evO_spec rfl) ⟨cAr_r, cAr_r, cAr_r, trivial⟩, asA_r (evO_spec rfl), trivial⟩)|((first|refine' w_e rfl ?xa ?xb ?xc ?xe ?_|refine' v_e rfl ?xa ?xb ?xc ?xe ?_);(case xa => first|exact at_dst 40 rfl (e_make tlOk rfl rfl rfl rfl rfl rfl (c := M) rfl rfl oM (by simp only [maxLen];omega))|exact at_dst 43 rfl (e_makeB (c := M) rfl rfl rfl rfl rfl rfl rfl oM (by simp only [maxLen];omega)));(case xb|xc|xe=>rfl);try refine wkD ?_)|(refine wkB ?_ ?_<;>intro hg_<;>try exact wkX)|fail)
  have hvl : (vs.length : Int) = (M : Int) := hvl
  have hgl : (gs.length : Int) = (M : Int) := hgl
  rw [hrw]
  clear KU KG KP KV1
  obtain ⟨F, hF0, hF1⟩ : ∃ F : Nat → St, (∀ k, SX k = [] → F k = mkS 95 [(47, .one (.r true (int k))), (46, .one (.r false (int M))), (10, .one (.r true (row true 0 []))), (9, .one (.ptr 9 0 0 0)), (8, .one (.ptr 8 0 0 0)), (6, .one (.ptr 6 0 0 0)), (5, .one (.ptr 5 0 0 0)), (3, .one (.ptr 3 0 0 0))] [(100, .sl 3 1 true (ints (fillI Z k))), (101, .sl 4 1 true (bools (List.replicate M false))), (9, .var 76 [.r true (int (r + 1)), .own 100 0 M 1, .own 101 0 M 1, Zc]), (8, .var 88 [.r true (R.val tpV), .r true (row false 1 LS), .r true (row false 1 NM), .r true (int r)]), (6, .var 76 [.r true (int 0), Zc, Zc, Zc]), (5, .var 76 [.r false (int r), .r false (row nv 1 (ints vs)), .r false (row ng 1 (bools gs)), .r false (row nm 3 (edges ms))]), (3, .var 25 [.r false (int M), .r false (row nil 3 (edges es))])]) ∧ (∀ k, SX k ≠ [] → F k = mkS 95 [(47, .one (.r true (int k))), (46, .one (.r false (int M))), (10, .one (.own 102 0 (SX k).length 3)), (9, .one (.ptr 9 0 0 0)), (8, .one (.ptr 8 0 0 0)), (6, .one (.ptr 6 0 0 0)), (5, .one (.ptr 5 0 0 0)), (3, .one (.ptr 3 0 0 0))] [(102, .sl 105 3 true (edges (SX k))), (100, .sl 3 1 true (ints (fillI Z k))), (101, .sl 4 1 true (bools (List.replicate M false))), (9, .var 76 [.r true (int (r + 1)), .own 100 0 M 1, .own 101 0 M 1, Zc]), (8, .var 88 [.r true (R.val tpV), .r true (row false 1 LS), .r true (row false 1 NM), .r true (int r)]), (6, .var 76 [.r true (int 0), Zc, Zc, Zc]), (5, .var 76 [.r false (int r), .r false (row nv 1 (ints vs)), .r false (row ng 1 (bools gs)), .r false (row nm 3 (edges ms))]), (3, .var 25 [.r false (int M), .r false (row nil 3 (edges es))])]) :=
    ⟨fun k => if SX k = [] then mkS 95 [(47, .one (.r true (int k))), (46, .one (.r false (int M))), (10, .one (.r true (row true 0 []))), (9, .one (.ptr 9 0 0 0)), (8, .one (.ptr 8 0 0 0)), (6, .one (.ptr 6 0 0 0)), (5, .one (.ptr 5 0 0 0)), (3, .one (.ptr 3 0 0 0))] [(100, .sl 3 1 true (ints (fillI Z k))), (101, .sl 4 1 true (bools (List.replicate M false))), (9, .var 76 [.r true (int (r + 1)), .own 100 0 M 1, .own 101 0 M 1, Zc]), (8, .var 88 [.r true (R.val tpV), .r true (row false 1 LS), .r true (row false 1 NM), .r true (int r)]), (6, .var 76 [.r true (int 0), Zc, Zc, Zc]), (5, .var 76 [.r false (int r), .r false (row nv 1 (ints vs)), .r false (row ng 1 (bools gs)), .r false (row nm 3 (edges ms))]), (3, .var 25 [.r false (int M), .r false (row nil 3 (edges es))])] else mkS 95 [(47, .one (.r true (int k))), (46, .one (.r false (int M))), (10, .one (.own 102 0 (SX k).length 3)), (9, .one (.ptr 9 0 0 0)), (8, .one (.ptr 8 0 0 0)), (6, .one (.ptr 6 0 0 0)), (5, .one (.ptr 5 0 0 0)), (3, .one (.ptr 3 0 0 0))] [(102, .sl 105 3 true (edges (SX k))), (100, .sl 3 1 true (ints (fillI Z k))), (101, .sl 4 1 true (bools (List.replicate M false))), (9, .var 76 [.r true (int (r + 1)), .own 100 0 M 1, .own 101 0 M 1, Zc]), (8, .var 88 [.r true (R.val tpV), .r true (row false 1 LS), .r true (row false 1 NM), .r true (int r)]), (6, .var 76 [.r true (int 0), Zc, Zc, Zc]), (5, .var 76 [.r false (int r), .r false (row nv 1 (ints vs)), .r false (row ng 1 (bools gs)), .r false (row nm 3 (edges ms))]), (3, .var 25 [.r false (int M), .r false (row nil 3 (edges es))])], fun k h => if_pos h, fun k h => if_neg h⟩
  refine aw_loopI (fun k : Nat => k ≤ M) F (fun k => M - k) 0 (Nat.zero_le _) (by rw [hF0 0 hSX0];(refine weak_ren [(100, 40), (101, 43)] rfl ?_ ?_ <;> repeat' (first|refine wkS ?_ ?_|exact wkE|exact ob_sl rfl (by rw [fillI_zero, hZl];exact zeroI M)|exact ob_sl rfl (zeroB M)))) ?_
  intro k hk
  have hfl := fillI_len Z (k := k) oM
  have hil : (ints (fillI Z k)).length = M := by rw [ints_len, hfl, hZl]
  have hbl : (bools (List.replicate M false)).length = M := by rw [bools_len, List.length_replicate]
  by_cases hlt : k < M
  · obtain ⟨ok, K⟩ := KR k hlt
    have hva := hvat k hlt
    have hga := hgat k hlt
    rw [hgd k hlt] at hga
    have hz := hZk k oM
    have hS := ob_fill (L := Z) (k := k) (z := ZF (k : Int)) oM hz.symm
    have hRS := rep_set M k
    have hx : 0 + ((k : Nat) : Int).toNat = k := by omega
    rw [Nat.zero_add] at hS
    have hSk := hSn k hlt
    have hSk0 := hSl k
    have hSk1 := hSl (k + 1)
    have hfin : ∀ s' : St, Weak s' (F (k + 1)) → ∃ x' : Nat, x' ≤ M ∧ Weak s' (F x') ∧ M - x' < M - k := fun s' h => ⟨k + 1, by omega, h, by omega⟩
    have hslk := hsl (k : Int)
    clear KR hvat hgat hgd hZk hSn hSl hsl KO KV2
    generalize gs.getD k false = gk at *
    generalize dV vs (k : Int) = vk at *
    generalize ZF (k : Int) = zk at *
    generalize XF (k : Int) = X at *
    rcases hslk with hXp | hXn
    · have hXd : decide (X = []) = false := by rw [decide_eq_false_iff_not]; intro e; rw [e] at hXp; simp at hXp
      rw [hXd] at K
      have hne : SX (k + 1) ≠ [] := by rw [hSk]; intro e; have := congrArg List.length e; simp at this; rw [this.2] at hXp; simp at hXp
      rw [hF1 _ hne, hSk, edges_appL] at hfin
      rw [hSk, List.length_append] at hSk1
      have hXl := edges_len X
      by_cases h0 : SX k = []
      · rw [h0] at hfin
        rw [hF0 k h0]
        clear hF0 hF1 hSk hne h0
        repeat' (first|refine wk ?_|((first|refine' w_q rfl rfl ?xa rfl ?_|refine' v_q rfl rfl ?xa rfl ?_|refine' w_yes rfl rfl (lookO_spec rfl) rfl ?xa rfl ?_|refine' v_yes rfl rfl (lookO_spec rfl) rfl ?xa rfl ?_);case xa => first|exact k_index tbOk rfl rfl rfl rfl oM (by first|exact hva|exact hga)|exact k_call K rfl ⟨asA_agg (evO_spec rfl) ⟨cAr_r, cAr_r, cAr_r, cAr_r, trivial⟩, asA_r (evO_spec rfl), asA_r (evO_spec rfl), asA_r (evO_spec rfl), asA_r (evO_spec rfl), trivial⟩|exact k_indexO tbOk rfl rfl rfl rfl oM oM)|((first|refine' w_e rfl ?xa ?xb ?xc ?xe ?_|refine' v_e rfl ?xa ?xb ?xc ?xe ?_);(case xa => first|exact e_storeS tbOk rfl rfl rfl rfl rfl rfl rfl rfl oM|exact e_append_nil tlOk rfl rfl rfl rfl rfl slD_row oM (by simp only [maxLen];omega) oM);(case xb|xc|xe=>rfl);try refine wkD ?_)|(refine wkB ?_ ?_<;>intro hg_<;>try exact wkX)|fail)
        all_goals first
          | (refine hfin _ ?_
             (refine weak_ren [(102, 83)] rfl ?_ ?_ <;> repeat' (first|refine wkS ?_ ?_|exact wkE|exact d_own (by rw [hXl, List.nil_append])|exact ob_sl rfl (by rw [hx];exact hS)|exact ob_sl rfl (by rw [hx];exact hRS)|exact ob_sl rfl rfl));done)
          | fail
      · rw [hF1 k h0]
        have hYl := edges_len (SX k)
        rw [List.length_append] at hfin
        clear hF0 hF1 hSk hne h0
        generalize SX k = Y at *
        rw [← hYl]
        rw [← hYl] at hfin
        repeat' (first|refine wk ?_|((first|refine' w_q rfl rfl ?xa rfl ?_|refine' v_q rfl rfl ?xa rfl ?_|refine' w_yes rfl rfl (lookO_spec rfl) rfl ?xa rfl ?_|refine' v_yes rfl rfl (lookO_spec rfl) rfl ?xa rfl ?_);case xa => first|exact k_index tbOk rfl rfl rfl rfl oM (by first|exact hva|exact hga)|exact k_call K rfl ⟨asA_agg (evO_spec rfl) ⟨cAr_r, cAr_r, cAr_r, cAr_r, trivial⟩, asA_r (evO_spec rfl), asA_r (evO_spec rfl), asA_r (evO_spec rfl), asA_r (evO_spec rfl), trivial⟩|exact k_indexO tbOk rfl rfl rfl rfl oM oM)|((first|refine' w_e rfl ?xa ?xb ?xc ?xe ?_|refine' v_e rfl ?xa ?xb ?xc ?xe ?_);(case xa => first|exact e_storeS tbOk rfl rfl rfl rfl rfl rfl rfl rfl oM|exact e_append tlOk rfl rfl rfl rfl rfl rfl slD_row rfl (by simp only [maxLen];omega) oM);(case xb|xc|xe=>rfl);try refine wkD ?_)|(refine wkB ?_ ?_<;>intro hg_<;>try exact wkX)|fail)
        all_goals first
          | (refine hfin _ ?_
             (refine weak_ren [(102, 83)] rfl ?_ ?_ <;> repeat' (first|refine wkS ?_ ?_|exact wkE|exact d_own (by rw [hXl])|exact ob_sl rfl (by rw [hx];exact hS)|exact ob_sl rfl (by rw [hx];exact hRS)|exact ob_sl rfl rfl));done)
          | fail
    · subst hXn
      have K : Fn Tryz.prog 53 [.agg [R.val tpV, row false 1 LS, row false 1 NM, int r], iP (k : Int), iP vk, .one (bool gk), .one (row nm 3 (edges ms))] (.tup [deedP zk true [], .one (bool ok)]) := K
      rw [List.append_nil] at hSk
      by_cases h0 : SX k = []
      · rw [hF0 (k + 1) (hSk.trans h0)] at hfin
        rw [hF0 k h0]
        clear hF0 hF1 hSk h0
        repeat' (first|refine wk ?_|((first|refine' w_q rfl rfl ?xa rfl ?_|refine' v_q rfl rfl ?xa rfl ?_|refine' w_yes rfl rfl (lookO_spec rfl) rfl ?xa rfl ?_|refine' v_yes rfl rfl (lookO_spec rfl) rfl ?xa rfl ?_);case xa => first|exact k_index tbOk rfl rfl rfl rfl oM (by first|exact hva|exact hga)|exact k_call K rfl ⟨asA_agg (evO_spec rfl) ⟨cAr_r, cAr_r, cAr_r, cAr_r, trivial⟩, asA_r (evO_spec rfl), asA_r (evO_spec rfl), asA_r (evO_spec rfl), asA_r (evO_spec rfl), trivial⟩|exact k_indexO tbOk rfl rfl rfl rfl oM oM|exact k_app00 rfl rfl rfl rfl)|((first|refine' w_e rfl ?xa ?xb ?xc ?xe ?_|refine' v_e rfl ?xa ?xb ?xc ?xe ?_);(case xa => exact e_storeS tbOk rfl rfl rfl rfl rfl rfl rfl rfl oM);(case xb|xc|xe=>rfl);try refine wkD ?_)|(refine wkB ?_ ?_<;>intro hg_<;>try exact wkX)|fail)
        all_goals first
          | (refine hfin _ ?_
             (refine weak_ren [] rfl ?_ ?_ <;> repeat' (first|refine wkS ?_ ?_|exact wkE|exact ob_sl rfl (by rw [hx];exact hS)|exact ob_sl rfl (by rw [hx];exact hRS)));done)
          | fail
      · rw [hF1 (k + 1) (by rw [hSk]; exact h0), hSk] at hfin
        rw [hF1 k h0]
        have hYl := edges_len (SX k)
        clear hF0 hF1 hSk h0
        generalize SX k = Y at *
        rw [← hYl]
        rw [← hYl] at hfin
        repeat' (first|refine wk ?_|((first|refine' w_q rfl rfl ?xa rfl ?_|refine' v_q rfl rfl ?xa rfl ?_|refine' w_yes rfl rfl (lookO_spec rfl) rfl ?xa rfl ?_|refine' v_yes rfl rfl (lookO_spec rfl) rfl ?xa rfl ?_);case xa => first|exact k_index tbOk rfl rfl rfl rfl oM (by first|exact hva|exact hga)|exact k_call K rfl ⟨asA_agg (evO_spec rfl) ⟨cAr_r, cAr_r, cAr_r, cAr_r, trivial⟩, asA_r (evO_spec rfl), asA_r (evO_spec rfl), asA_r (evO_spec rfl), asA_r (evO_spec rfl), trivial⟩|exact k_indexO tbOk rfl rfl rfl rfl oM oM)|((first|refine' w_e rfl ?xa ?xb ?xc ?xe ?_|refine' v_e rfl ?xa ?xb ?xc ?xe ?_);(case xa => first|exact e_storeS tbOk rfl rfl rfl rfl rfl rfl rfl rfl oM|exact e_append tlOk rfl rfl rfl rfl rfl rfl slD_row rfl (by simp only [edges, List.length_map, List.map_nil, List.length_nil, maxLen];omega) (by simp only [edges, List.length_map, List.map_nil, List.length_nil];omega));(case xb|xc|xe=>rfl);try refine wkD ?_)|(refine wkB ?_ ?_<;>intro hg_<;>try exact wkX)|fail)
        all_goals first
          | (refine hfin _ ?_
             (refine weak_ren [(102, 83)] rfl ?_ ?_ <;> repeat' (first|refine wkS ?_ ?_|exact wkE|exact d_own (by rfl)|exact ob_sl rfl (by rw [hx];exact hS)|exact ob_sl rfl (by rw [hx];exact hRS)|exact ob_sl rfl (List.append_nil _)));done)
          | fail
  · obtain rfl : k = M := by omega
    have hf : fillI Z k = Z := by rw [← hZl]; exact fillI_all Z
    have hSk := hSl k
    have hZil := ints_len Z
    clear hSn hsl hvat hgat hgd hZk KR hSl
    by_cases h0 : SX k = []
    · rw [hF0 k h0, hf]
      have K := KO true
      rw [h0] at K
      rw [h0] at KV2 ⊢
      have hsm : sortM [] = [] := rfl
      clear hF0 hF1 KO h0
      rw [hsm] at K KV2 ⊢
      repeat' (first|refine wk ?_|((first|refine' w_q rfl rfl ?xa rfl ?_|refine' v_q rfl rfl ?xa rfl ?_|refine' w_yes rfl rfl (lookO_spec rfl) rfl ?xa rfl ?_|refine' v_yes rfl rfl (lookO_spec rfl) rfl ?xa rfl ?_);case xa => first|exact k_call K rfl ⟨asA_nil (evO_spec rfl), trivial⟩|exact k_call KV2 rfl ⟨asA_agg (evO_spec rfl) ⟨cAr_r, cAr_own0 (lookHO_spec rfl) oM, cAr_own0 (lookHO_spec rfl) hbl.symm, cAr_r, trivial⟩, asA_r (evO_spec rfl), trivial⟩)|(refine wkB ?_ ?_<;>intro hg_<;>try exact wkX)|fail)
      all_goals first
        | exact ret_2 (rv_cell rfl rfl tyF0 rfl rfl rfl (dres_agg (by exact ⟨cres_val, cres_own0 (lookHO_spec rfl) oM, cres_own0 (lookHO_spec rfl) hbl.symm, cres_new, trivial⟩))) (rv_tmp rfl (dres_bool rfl))
        | fail
    · rw [hF1 k h0, hf]
      have K := KO false
      have hYl := edges_len (SX k)
      clear hF0 hF1 KO h0
      generalize SX k = Y at *
      repeat' (first|refine wk ?_|((first|refine' w_q rfl rfl ?xa rfl ?_|refine' v_q rfl rfl ?xa rfl ?_|refine' w_yes rfl rfl (lookO_spec rfl) rfl ?xa rfl ?_|refine' v_yes rfl rfl (lookO_spec rfl) rfl ?xa rfl ?_);case xa => first|exact k_call K rfl ⟨asA_own0H (evO_spec rfl) (lookHO_spec rfl) hYl.symm, trivial⟩|exact k_call KV2 rfl ⟨asA_agg (evO_spec rfl) ⟨cAr_r, cAr_own0 (lookHO_spec rfl) oM, cAr_own0 (lookHO_spec rfl) hbl.symm, cAr_r, trivial⟩, asA_r (evO_spec rfl), trivial⟩)|(refine wkB ?_ ?_<;>intro hg_<;>try exact wkX)|fail)
      all_goals first
        | exact ret_2 (rv_cell rfl rfl tyF0 rfl rfl rfl (dres_agg (by exact ⟨cres_val, cres_own0 (lookHO_spec rfl) oM, cres_own0 (lookHO_spec rfl) hbl.symm, cres_new, trivial⟩))) (rv_tmp rfl (dres_bool rfl))
        | fail
end Go.Proofs.YtlobefglhppbdaaGreatDoor.Abs
set_option linter.unusedSimpArgs false
set_option linter.unusedVariables false
namespace Go.Proofs.YtlobefglhppbdaaGreatDoor.Abs
open Go.RowKit
open R (val row ref)
theorem f_indexB (ng : Bool) (gs : List Bool) (hl : gs.length ≤ 1048576) : ∃ i : Int, (decide (0 ≤ i) = gs.any id ∧ -1 ≤ i ∧ i ≤ 1048576) ∧ Fn Tryz.prog 55 [.one (row ng 1 (bools gs)), .one (bool true)] (.v (iP i)) := by
  have hlen := bools_len gs
  by_cases hA : gs.any id = true
  · have hex : ∃ k, k < gs.length ∧ gs.getD k false = true ∧ ∀ j, j < k → gs.getD j false = false := by
      clear hl hlen
      induction gs with
      | nil => cases hA
      | cons g gs ih =>
        cases g with
        | true => exact ⟨0, by simp, rfl, fun j hj => by omega⟩
        | false =>
          obtain ⟨k, h1, h2, h3⟩ := ih (by simpa using hA)
          refine ⟨k + 1, by simp; omega, by simpa using h2, fun j hj => ?_⟩
          cases j with
          | zero => rfl
          | succ j => simpa using h3 j oM
    obtain ⟨n, hn, hnt, hnf⟩ := hex
    refine ⟨(n : Int), ⟨by rw [hA]; simp, by omega, by omega⟩, ?_⟩
    refine fn_of (l := [.tmp 4]) Tryz.func55 kRf rfl Tryz.ntmps55 rfl rfl ?_; simp only [argEnv, P0.d, Nat.reduceAdd]
    repeat' (first|refine wk ?_|(refine wkB ?_ ?_<;>intro hg_<;>try exact wkX)|fail)
    refine aw_loopI (fun k : Nat => k ≤ n) (fun k => mkS 19 [(8, .one (.r true (int k))), (7, .one (.r true (int (bools gs).length))), (1, .one (.r false (bool true))), (0, .one (.r false (row ng 1 (bools gs))))] []) (fun k => n - k) 0 (Nat.zero_le _) (by (refine weak_ren [] rfl ?_ ?_ <;>exact wkW)) ?_
    intro k hk
    have hix := bools_at (gs := gs) (k := k) oM
    have hgd : gs[k]'oM = gs.getD k false := by rw [List.getD_eq_getElem?_getD, List.getElem?_eq_getElem oM]; rfl
    rw [hgd] at hix
    by_cases hkn : k = n
    · subst hkn
      rw [hnt] at hix
      repeat' (first|refine wk ?_|((first|refine' w_q rfl rfl ?xa rfl ?_|refine' v_q rfl rfl ?xa rfl ?_|refine' w_yes rfl rfl (lookO_spec rfl) rfl ?xa rfl ?_|refine' v_yes rfl rfl (lookO_spec rfl) rfl ?xa rfl ?_);case xa => first|exact k_index tbOk rfl rfl rfl rfl oM (by exact hix)|exact k_eqB Tryz.underlying4 rfl rfl rfl)|(refine wkB ?_ ?_<;>intro hg_<;>try exact wkX)|fail)
      all_goals first
        | exact ret_tmp rfl (dres_int rfl)
        | (exfalso; simp at hg_; done)
        | (exfalso; simp at hg_; omega)
        | fail
    · rw [hnf k oM] at hix
      repeat' (first|refine wk ?_|((first|refine' w_q rfl rfl ?xa rfl ?_|refine' v_q rfl rfl ?xa rfl ?_|refine' w_yes rfl rfl (lookO_spec rfl) rfl ?xa rfl ?_|refine' v_yes rfl rfl (lookO_spec rfl) rfl ?xa rfl ?_);case xa => first|exact k_index tbOk rfl rfl rfl rfl oM (by exact hix)|exact k_eqB Tryz.underlying4 rfl rfl rfl)|(refine wkB ?_ ?_<;>intro hg_<;>try exact wkX)|fail)
      all_goals first
        | exact ⟨k + 1, by omega, by (refine weak_ren [] rfl ?_ ?_ <;>exact wkW), by omega⟩
        | (exfalso; simp at hg_; done)
        | (exfalso; simp at hg_; omega)
        | fail
  · have hA : gs.any id = false := by simpa using hA
    have hall : ∀ k, k < gs.length → gs.getD k false = false := fun k hk => by
      rw [List.any_eq_false] at hA
      rw [List.getD_eq_getElem?_getD, List.getElem?_eq_getElem hk]
      have := hA gs[k] (List.getElem_mem hk)
      simpa using this
    refine ⟨-1, ⟨by rw [hA]; rfl, by omega, by omega⟩, ?_⟩
    refine fn_of (l := [.tmp 4]) Tryz.func55 kRf rfl Tryz.ntmps55 rfl rfl ?_; simp only [argEnv, P0.d, Nat.reduceAdd]
    repeat' (first|refine wk ?_|(refine wkB ?_ ?_<;>intro hg_<;>try exact wkX)|fail)
    refine aw_loopI (fun k : Nat => k ≤ gs.length) (fun k => mkS 19 [(8, .one (.r true (int k))), (7, .one (.r true (int (bools gs).length))), (1, .one (.r false (bool true))), (0, .one (.r false (row ng 1 (bools gs))))] []) (fun k => gs.length - k) 0 (Nat.zero_le _) (by (refine weak_ren [] rfl ?_ ?_ <;>exact wkW)) ?_
    intro k hk
    by_cases hlt : k < gs.length
    · have hix := bools_at hlt
      have hgd : gs[k] = gs.getD k false := by rw [List.getD_eq_getElem?_getD, List.getElem?_eq_getElem oM]; rfl
      rw [hgd, hall k hlt] at hix
      repeat' (first|refine wk ?_|((first|refine' w_q rfl rfl ?xa rfl ?_|refine' v_q rfl rfl ?xa rfl ?_|refine' w_yes rfl rfl (lookO_spec rfl) rfl ?xa rfl ?_|refine' v_yes rfl rfl (lookO_spec rfl) rfl ?xa rfl ?_);case xa => first|exact k_index tbOk rfl rfl rfl rfl oM (by exact hix)|exact k_eqB Tryz.underlying4 rfl rfl rfl)|(refine wkB ?_ ?_<;>intro hg_<;>try exact wkX)|fail)
      all_goals first
        | exact ⟨k + 1, by omega, by (refine weak_ren [] rfl ?_ ?_ <;>exact wkW), by omega⟩
        | (exfalso; simp at hg_; done)
        | (exfalso; simp at hg_; omega)
        | fail
    · repeat' (first|refine wk ?_|(refine wkB ?_ ?_<;>intro hg_<;>try exact wkX)|fail)
      all_goals first
        | exact ret_tmp rfl (dres_int rfl)
        | (exfalso; simp at hg_; done)
        | (exfalso; simp at hg_; omega)
        | fail
theorem f_containsB (ng : Bool) (gs : List Bool) (hl : gs.length ≤ 1048576) : Fn Tryz.prog 50 [.one (row ng 1 (bools gs)), .one (bool true)] (.v (.one (bool (gs.any id)))) := by
  obtain ⟨i, ⟨h1, h2, h3⟩, K⟩ := f_indexB ng gs hl
  refine fn_of (l := [.tmp 4]) Tryz.func50 kRf rfl Tryz.ntmps50 rfl rfl ?_; simp only [argEnv, P0.d, Nat.reduceAdd]
  repeat' (first|refine wk ?_|((first|refine' w_q rfl rfl ?xa rfl ?_|refine' v_q rfl rfl ?xa rfl ?_|refine' w_yes rfl rfl (lookO_spec rfl) rfl ?xa rfl ?_|refine' v_yes rfl rfl (lookO_spec rfl) rfl ?xa rfl ?_);case xa => exact k_call K rfl ⟨asA_r (evO_spec rfl), asA_r (evO_spec rfl), trivial⟩)|(refine wkB ?_ ?_<;>intro hg_<;>try exact wkX)|fail)
  all_goals first
    | exact ret_tmp rfl (dres_bool h1.symm)
    | exact ret_tmp rfl (dres_bool h1)
    | exact ret_tmp rfl (dres_bool (by rw [← h1];(first|(simp_all;done)|(rw [Bool.eq_iff_iff];simp_all;done)|(rw [Bool.eq_iff_iff];simp_all;omega)|(rw [Bool.eq_iff_iff];simp;omega))))
    | fail
theorem f_implDone (r : Int) (nv ng nm : Bool) (vs : List Int) (gs : List Bool) (ms : List E3) (hv : vs.length ≤ 1048576) (hgl : gs.length ≤ 1048576) (hm : ms.length ≤ 1048576) : Fn Tryz.prog 46 [stateP r nv vs ng gs nm ms] (.v (.one (bool (doneS ⟨r, vs, gs, ms⟩)))) := by
  have KV := f_ownValid r nv ng nm vs gs ms (by simp only [maxLen]; omega) (by simp only [maxLen]; omega) (by simp only [maxLen]; omega)
  have KC := f_containsB ng gs hgl
  have hml := edges_len ms
  have e : doneS ⟨r, vs, gs, ms⟩ = (!gs.any id && (stOk vs.length r vs gs.length ms && ms.isEmpty)) := rfl
  have em : ms.isEmpty = decide (ms.length = 0) := by cases ms <;> simp
  rw [e, em]
  clear e em
  generalize gs.any id = G at *
  generalize stOk vs.length r vs gs.length ms = O at *
  refine fn_of (l := [.tmp 2]) Tryz.func46 kRf rfl Tryz.ntmps46 rfl rfl ?_; simp only [argEnv, P0.d, Nat.reduceAdd, stateP, List.map_cons, List.map_nil]
  repeat' (first|refine wk ?_|((first|refine' w_q rfl rfl ?xa rfl ?_|refine' v_q rfl rfl ?xa rfl ?_|refine' w_yes rfl rfl (lookO_spec rfl) rfl ?xa rfl ?_|refine' v_yes rfl rfl (lookO_spec rfl) rfl ?xa rfl ?_);case xa => first|exact k_call KV rfl ⟨asA_agg (evO_spec rfl) ⟨cAr_r, cAr_r, cAr_r, cAr_r, trivial⟩, trivial⟩|exact k_call KC rfl ⟨asA_r (evO_spec rfl), asA_r (evO_spec rfl), trivial⟩)|(refine wkB ?_ ?_<;>intro hg_<;>try exact wkX)|fail)
  all_goals first
    | exact ret_tmp rfl (dres_bool (by cases G <;> cases O <;> simp_all))
    | fail
theorem runF_steps {m : Int} {es : List E3} : ∀ (f : Nat) (st : Sta) (L : List Sta), runF m es 5 0 0 f st = some L → ∀ j (h : j < L.length), doneS ((st :: L)[j]'(by simp; omega)) = false ∧ stepS m es 5 0 0 ((st :: L)[j]'(by simp; omega)) = some L[j]
  | 0, _, _, h, _, _ => by cases h
  | f + 1, st, L, h, j, hj => by
    unfold runF at h
    split at h
    · injection h with h
      subst h
      simp at hj
    · rename_i hd
      split at h
      · cases h
      · rename_i x hx
        cases hr : runF m es 5 0 0 f x with
        | none => rw [hr] at h; cases h
        | some L' =>
          rw [hr] at h
          injection h with h
          subst h
          cases j with
          | zero => exact ⟨by simpa using hd, hx⟩
          | succ j =>
            simp only [List.length_cons] at hj
            exact runF_steps f x L' hr j oM
def sentP (L : List Sta) : List P0 := L.map fun s => .one (row false 3 (edges s.ms))
theorem f_sentRounds (M : Nat) (nil : Bool) (es : List E3) (L : List Sta) (h7 : M ≤ 7) (hL : L ≠ []) (hLl : L.length ≤ 200) (hrun : runS (M : Int) es 5 0 0 (startS M) = some L) (hms : ∀ s ∈ L, s.ms.length ≤ 2000) :
    Fn Tryz.prog 40 [graphP (M : Int) nil es, prgP 5 0 0] (.tup [.one (row false 1 (sentP L)), .one (bool true)]) := by
  have hst := runF_steps 102 (startS M) L hrun
  have hla := runF_last 102 (startS M) L hrun
  have KI := f_implStart M oM
  obtain ⟨SS, hSS⟩ : ∃ SS : Nat → Sta, ∀ j, SS j = (startS M :: L).getD j (startS M) := ⟨_, fun _ => rfl⟩
  have hS0 : SS 0 = startS M := by rw [hSS]; rfl
  have hSn : ∀ j (h : j < L.length), SS (j + 1) = L[j] := fun j h => by
    rw [hSS, List.getD_eq_getElem?_getD, List.getElem?_cons_succ, List.getElem?_eq_getElem h]; rfl
  have hSj : ∀ j (h : j < L.length), (startS M :: L)[j]'(by simp; omega) = SS j := fun j h => by
    rw [hSS, List.getD_eq_getElem?_getD, List.getElem?_eq_getElem (by simp; omega)]; rfl
  have hstep : ∀ j, j < L.length → doneS (SS j) = false ∧ stepS (M : Int) es 5 0 0 (SS j) = some (SS (j + 1)) := fun j h => by
    have := hst j h
    rw [hSj j h] at this
    rw [hSn j h]; exact this
  have hend : doneS (SS L.length) = true := by
    rw [List.getLast_eq_getElem] at hla
    have e : SS L.length = (startS M :: L)[(startS M :: L).length - 1]'(by simp) := by
      rw [hSS, List.getD_eq_getElem?_getD]
      have : (startS M :: L).length - 1 = L.length := by simp
      rw [List.getElem?_eq_getElem (by simp)]
      simp
    rw [e]; exact hla
  have hbd : ∀ j, j ≤ L.length → (SS j).vs.length ≤ 1000 ∧ (SS j).gs.length ≤ 1000 ∧ (SS j).ms.length ≤ 2000 := fun j hj => by
    cases j with
    | zero => rw [hS0]; simp [startS]; omega
    | succ j =>
      have h1 := stepS_ok (hstep j oM).2
      unfold stOk at h1
      simp only [Bool.and_eq_true, decide_eq_true_eq, inR] at h1
      omega
  obtain ⟨RL, hRL⟩ : ∃ RL : Nat → List P0, ∀ j, RL j = sentP (L.take j) := ⟨_, fun _ => rfl⟩
  have hRl : ∀ j, j ≤ L.length → (RL j).length = j := fun j hj => by rw [hRL]; unfold sentP; rw [List.length_map, List.length_take]; omega
  have hRn : ∀ j, j < L.length → RL (j + 1) = RL j ++ [.one (row false 3 (edges (SS (j + 1)).ms))] := fun j h => by
    rw [hRL, hRL, hSn j h]
    unfold sentP
    rw [List.take_succ_eq_append_getElem h, List.map_append]; rfl
  have hRe : RL L.length = sentP L := by rw [hRL, List.take_length]
  have hR0 : RL 0 = [] := by rw [hRL]; rfl
  have KS := fun j (h : j < L.length) (b : Bool) => f_implStep M nil es (SS j) (SS (j + 1)) false false b h7 (hstep j h).2
  have KD := fun j (h : j ≤ L.length) (b : Bool) => f_implDone (SS j).r false false b (SS j).vs (SS j).gs (SS j).ms (by have := (hbd j h).1; omega) (by have := (hbd j h).2.1; omega) (by have := (hbd j h).2.2; omega)
  have hdn : ∀ j, j < L.length → doneS (SS j) = false := fun j h => (hstep j h).1
  have hlp := List.length_pos_iff.2 hL
  rw [show (stateP 0 false (List.replicate M 0) false (List.replicate M true) true []) = stateP (SS 0).r false (SS 0).vs false (SS 0).gs true (SS 0).ms by rw [hS0]; rfl] at KI
  rw [← hRe]
  clear hst hla hSS hS0 hSn hSj hstep hbd hRL hRe hms hrun
  refine fn_of (l := [.tmp 4, .tmp 5]) Tryz.func40 kRf rfl Tryz.ntmps40 rfl rfl ?_; simp only [argEnv, P0.d, Nat.reduceAdd, graphP, prgP, List.map_cons, List.map_nil]
  repeat' (first|refine wk ?_|((first|refine' w_q rfl rfl ?xa rfl ?_|refine' v_q rfl rfl ?xa rfl ?_|refine' w_yes rfl rfl (lookO_spec rfl) rfl ?xa rfl ?_|refine' v_yes rfl rfl (lookO_spec rfl) rfl ?xa rfl ?_);case xa => exact k_call KI rfl ⟨asA_r (evO_spec rfl), trivial⟩)|(refine wkB ?_ ?_<;>intro hg_<;>try exact wkX)|fail)
  obtain ⟨F, hF0, hF1⟩ : ∃ F : Nat → St, (F 0 = mkS 33 [(7, .one (.ptr 200 0 0 0)), (6, .one (.r true (row true 0 []))), (3, .one (.ptr 3 0 0 0)), (2, .one (.ptr 2 0 0 0))] [(200, .var 76 [.r true (int (SS 0).r), .r true (row false 1 (ints (SS 0).vs)), .r true (row false 1 (bools (SS 0).gs)), .r true (row true 3 (edges (SS 0).ms))]), (3, .var 34 [.r false (int 5), .r false (int 0), .r false (int 0)]), (2, .var 25 [.r false (int M), .r false (row nil 3 (edges es))])]) ∧ (∀ k, F (k + 1) = mkS 33 [(7, .one (.ptr 200 0 0 0)), (6, .one (.own 100 0 (k + 1) 1)), (3, .one (.ptr 3 0 0 0)), (2, .one (.ptr 2 0 0 0))] [(100, .sl 54 1 true (RL (k + 1))), (200, .var 76 [.r true (int (SS (k + 1)).r), .r true (row false 1 (ints (SS (k + 1)).vs)), .r true (row false 1 (bools (SS (k + 1)).gs)), .r true (row false 3 (edges (SS (k + 1)).ms))]), (3, .var 34 [.r false (int 5), .r false (int 0), .r false (int 0)]), (2, .var 25 [.r false (int M), .r false (row nil 3 (edges es))])]) :=
    ⟨fun k => Nat.rec (mkS 33 [(7, .one (.ptr 200 0 0 0)), (6, .one (.r true (row true 0 []))), (3, .one (.ptr 3 0 0 0)), (2, .one (.ptr 2 0 0 0))] [(200, .var 76 [.r true (int (SS 0).r), .r true (row false 1 (ints (SS 0).vs)), .r true (row false 1 (bools (SS 0).gs)), .r true (row true 3 (edges (SS 0).ms))]), (3, .var 34 [.r false (int 5), .r false (int 0), .r false (int 0)]), (2, .var 25 [.r false (int M), .r false (row nil 3 (edges es))])]) (fun k _ => mkS 33 [(7, .one (.ptr 200 0 0 0)), (6, .one (.own 100 0 (k + 1) 1)), (3, .one (.ptr 3 0 0 0)), (2, .one (.ptr 2 0 0 0))] [(100, .sl 54 1 true (RL (k + 1))), (200, .var 76 [.r true (int (SS (k + 1)).r), .r true (row false 1 (ints (SS (k + 1)).vs)), .r true (row false 1 (bools (SS (k + 1)).gs)), .r true (row false 3 (edges (SS (k + 1)).ms))]), (3, .var 34 [.r false (int 5), .r false (int 0), .r false (int 0)]), (2, .var 25 [.r false (int M), .r false (row nil 3 (edges es))])]) k, rfl, fun _ => rfl⟩
  refine aw_loopI (fun k : Nat => k ≤ L.length) F (fun k => L.length - k) 0 (Nat.zero_le _) (by rw [hF0];(refine weak_ren [(200, 7)] rfl ?_ ?_ <;>exact wkW)) ?_
  intro k hk
  by_cases hlt : k < L.length
  · have KSk := fun b => KS k hlt b
    have hRk := hRn k hlt
    have hRl0 := hRl k hk
    have hdk := hdn k hlt
    have KDk := fun b => KD k hk b
    have hfin : ∀ s' : St, Weak s' (F (k + 1)) → ∃ x' : Nat, x' ≤ L.length ∧ Weak s' (F x') ∧ L.length - x' < L.length - k := fun s' h => ⟨k + 1, by omega, h, by omega⟩
    have hdk' : doneS ⟨(SS k).r, (SS k).vs, (SS k).gs, (SS k).ms⟩ = false := hdk
    rw [hdk'] at KDk
    rw [hF1 k, hRk] at hfin
    clear KS KD hRn hRl hdn hend hRk hdk hdk' KI
    cases k with
    | zero =>
      have KSk := KSk true
      have KDk := KDk true
      rw [hF0]
      rw [hR0] at hfin
      clear hF0 hF1 hR0
      generalize SS 0 = s0 at *
      generalize SS (0 + 1) = s1 at *
      repeat' (first|refine wk ?_|((first|refine' w_q rfl rfl ?xa rfl ?_|refine' v_q rfl rfl ?xa rfl ?_|refine' w_yes rfl rfl (lookO_spec rfl) rfl ?xa rfl ?_|refine' v_yes rfl rfl (lookO_spec rfl) rfl ?xa rfl ?_);case xa => first|exact k_call KDk rfl ⟨asA_agg (evO_spec rfl) ⟨cAr_r, cAr_r, cAr_r, cAr_r, trivial⟩, trivial⟩|exact k_call KSk rfl ⟨asA_agg (evO_spec rfl) ⟨cAr_r, cAr_r, trivial⟩, asA_agg (evO_spec rfl) ⟨cAr_r, cAr_r, cAr_r, trivial⟩, asA_agg (evO_spec rfl) ⟨cAr_r, cAr_r, cAr_r, cAr_r, trivial⟩, trivial⟩)|((first|refine' w_e rfl ?xa ?xb ?xc ?xe ?_|refine' v_e rfl ?xa ?xb ?xc ?xe ?_);(case xa => first|exact e_build [.tmp 27] tlOk rfl rfl rfl rfl rfl rfl (allN_one rfl) (by simp)|exact e_append_nil tlOk rfl rfl rfl rfl rfl (slD_own (lookHO_spec rfl) rfl) (by simp) (by simp only [maxLen, List.length_cons, List.length_nil];omega) (by simp only [List.length_cons, List.length_nil];omega));(case xb|xc|xe=>rfl);try refine wkD ?_)|(refine wkB ?_ ?_<;>intro hg_<;>try exact wkX)|fail)
      all_goals first
        | (refine hfin _ ?_
           (refine weak_ren [(200, 7), (100, 29)] rfl ?_ ?_ <;>exact wkW);done)
        | (exfalso; simp at hg_; done)
        | fail
    | succ k =>
      have KSk := KSk false
      have KDk := KDk false
      rw [hF1 k]
      clear hF0 hF1 hR0
      generalize RL (k + 1) = X at *
      generalize SS (k + 1) = s0 at *
      generalize SS (k + 1 + 1) = s1 at *
      repeat' (first|refine wk ?_|((first|refine' w_q rfl rfl ?xa rfl ?_|refine' v_q rfl rfl ?xa rfl ?_|refine' w_yes rfl rfl (lookO_spec rfl) rfl ?xa rfl ?_|refine' v_yes rfl rfl (lookO_spec rfl) rfl ?xa rfl ?_);case xa => first|exact k_call KDk rfl ⟨asA_agg (evO_spec rfl) ⟨cAr_r, cAr_r, cAr_r, cAr_r, trivial⟩, trivial⟩|exact k_call KSk rfl ⟨asA_agg (evO_spec rfl) ⟨cAr_r, cAr_r, trivial⟩, asA_agg (evO_spec rfl) ⟨cAr_r, cAr_r, cAr_r, trivial⟩, asA_agg (evO_spec rfl) ⟨cAr_r, cAr_r, cAr_r, cAr_r, trivial⟩, trivial⟩)|((first|refine' w_e rfl ?xa ?xb ?xc ?xe ?_|refine' v_e rfl ?xa ?xb ?xc ?xe ?_);(case xa => first|exact e_build [.tmp 27] tlOk rfl rfl rfl rfl rfl rfl (allN_one rfl) (by simp)|exact e_append tlOk rfl rfl rfl rfl rfl rfl (slD_own (lookHO_spec rfl) rfl) hRl0.symm (by simp only [maxLen, List.length_cons, List.length_nil];omega) (by simp only [List.length_cons, List.length_nil];omega));(case xb|xc|xe=>rfl);try refine wkD ?_)|(refine wkB ?_ ?_<;>intro hg_<;>try exact wkX)|fail)
      all_goals first
        | (refine hfin _ ?_
           (refine weak_ren [(200, 7), (100, 29)] rfl ?_ ?_ <;> repeat' (first|refine wkS ?_ ?_|exact wkE|exact d_own (by rw [hRl0];rfl)|exact ob_sl rfl rfl));done)
        | (exfalso; simp at hg_; done)
        | fail
  · obtain rfl : k = L.length := by omega
    have KDk := KD L.length (Nat.le_refl _) false
    have hend' : doneS ⟨(SS L.length).r, (SS L.length).vs, (SS L.length).gs, (SS L.length).ms⟩ = true := hend
    rw [hend'] at KDk
    have hRl0 := hRl L.length (Nat.le_refl _)
    clear KS KD hRn hRl hdn hend hend' KI
    obtain ⟨n, hn⟩ : ∃ n, L.length = n + 1 := ⟨L.length - 1, by omega⟩
    rw [hn] at KDk hRl0 ⊢
    rw [hF1 n]
    clear hF0 hF1 hR0
    generalize RL (n + 1) = X at *
    generalize SS (n + 1) = s0 at *
    repeat' (first|refine wk ?_|((first|refine' w_q rfl rfl ?xa rfl ?_|refine' v_q rfl rfl ?xa rfl ?_|refine' w_yes rfl rfl (lookO_spec rfl) rfl ?xa rfl ?_|refine' v_yes rfl rfl (lookO_spec rfl) rfl ?xa rfl ?_);case xa => exact k_call KDk rfl ⟨asA_agg (evO_spec rfl) ⟨cAr_r, cAr_r, cAr_r, cAr_r, trivial⟩, trivial⟩)|(refine wkB ?_ ?_<;>intro hg_<;>try exact wkX)|fail)
    all_goals first
      | exact ret_2 (rv_tmp rfl (dres_one (cres_own0 (lookHO_spec rfl) hRl0.symm))) (rv_tmp rfl (dres_bool rfl))
      | (exfalso; simp at hg_; done)
      | fail
end Go.Proofs.YtlobefglhppbdaaGreatDoor.Abs
set_option linter.unusedSimpArgs false
set_option linter.unusedVariables false
namespace Go.Proofs.YtlobefglhppbdaaGreatDoor.Abs
open Go.RowKit
open R (val row ref)
theorem eff_mk0 {P : Program} {H : Nat → Option Ob} {ev : Operand → D} {o : Oper} {t sz by_ c : Nat} {E : TypeId} {m1 m2 : Bool} {j : Int} (T : TypeId) (x y : Operand) (ho : o.op = .makeSlice T x y) (hT : elOf P T = some (E, sz, by_))
    (hx : ev x = .one (.r m1 (int 0))) (hy : ev y = .one (.r m2 (int j))) (hj : j = c) (hb : by_ * c ≤ 281474976710656) (h63 : c ≤ maxLen) :
    Eff P H ev o (.one (.own t 0 0 sz)) [] [t] [(t, some (.sl E sz true []))] := by
  intro base a w ι own hown hbase hev hH _ K Q hK
  subst hj
  have hx1 := hev x (by rw [ho]; simp [Op.operands])
  rw [hx] at hx1
  have hy1 := hev y (by rw [ho]; simp [Op.operands])
  rw [hy] at hy1
  have hx2 : a.eval x = .int .i64 0 := ((val_p (c := Cx.young ⟨w, own⟩ base m1)).1 hx1).1
  have hy2 : a.eval y = .int .i64 (c : Int) := ((val_p (c := Cx.young ⟨w, own⟩ base m2)).1 hy1).1
  obtain ⟨z, hE⟩ := elOf_spec hT
  obtain ⟨inf, hi, hzz, hsz, hby⟩ := hE.info
  have hbi : (inf.bytes : Int) * (c : Int) ≤ 281474976710656 := by
    have : ((by_ * c : Nat) : Int) ≤ 281474976710656 := by omega
    rw [hby]; rwa [Int.natCast_mul] at this
  have hr := run_make (P := P) w T E inf z hE.sl hi hzz .i64 .i64 0 c oM oM hbi (by simp only [maxLen] at h63; omega)
  simp only [Int.toNat_natCast] at hr
  have hrun : (execOp a.eval o).run P w = .ok (.value (.slice (some ⟨w.heap.size, 0, none⟩) 0 c)) (w.alloc (.cells (madeCells z.cells (c * inf.size)) E)) := by
    unfold execOp
    rw [ho]
    simp only [hx2, hy2, Sem.run_bind, hr, Result.andThen_ok, Sem.run_pure]
    rfl
  unfold Oper.wp
  rw [hrun, Oper.upon_value]
  refine hK _ _ _ _ (Chg.fresh (g := (w.heap.size, 0)) hown (below_alloc _ _) (Nat.le_refl _) (by rw [size_new]; omega) ?_ ?_)
  · exact ⟨_, heap_new _ _, by simp, fun i e he => by simp at he⟩
  · exact ⟨0, c, _, E, by rw [upd_same], .inl (by rw [upd_same, Nat.zero_mul]), Nat.zero_le _, h63, by rw [upd_same]; exact heap_new _ _, by rw [upd_same, size_madeCells, hsz, Nat.zero_add, Nat.zero_add]; exact Nat.le_refl _⟩
theorem e_mk0 {P : Program} {tl : TL} {l : List (Nat × D)} {H : Nat → Option Ob} {o : Oper} {t c sz by_ : Nat} {E T : TypeId} {x y : Operand} {m1 m2 : Bool} {j : Int} (hT : TLOk P tl) (ho : o.op = .makeSlice T x y) (hd : o.dst = some t) (he : elL tl.els T = some (E, sz, by_)) (hx : evO l x = some (.one (.r m1 (int 0)))) (hy : evO l y = some (.one (.r m2 (int j)))) (hj : j = c) (hb : by_ * c ≤ 281474976710656) (h63 : c ≤ maxLen) :
    Eff P H (evD (look l)) o (.one (.own t 0 0 sz)) [] [t] [(t, some (.sl E sz true []))] := eff_mk0 T x y ho (elL_ok hT.el he) (evO_spec hx) (evO_spec hy) hj hb h63
theorem f_sentLen (nm : Bool) (ms : List E3) : Fn Tryz.prog 27 [.one (row nm 3 (edges ms))] (.v (iP (ms.length : Int))) := by
  have hl := edges_len ms
  refine fn_of (l := [.tmp 2]) Tryz.func27 kRf rfl Tryz.ntmps27 rfl rfl ?_; simp only [argEnv, P0.d, Nat.reduceAdd]
  repeat' (first|refine wk ?_|(refine wkB ?_ ?_<;>intro hg_<;>try exact wkX)|fail)
  all_goals first
    | exact ret_tmp rfl (dres_int (by rw [hl]))
    | fail
def lensL (L : List Sta) : List Int := L.map fun s => (s.ms.length : Int)
theorem sentP_at {L : List Sta} {k : Nat} (h : k < L.length) : (sentP L)[(k : Int).toNat]? = some (.one (row false 3 (edges L[k].ms))) := by
  unfold sentP
  rw [Int.toNat_natCast, List.getElem?_map, List.getElem?_eq_getElem h]; rfl
theorem lensL_take {L : List Sta} {k : Nat} (h : k < L.length) : lensL (L.take (k + 1)) = lensL (L.take k) ++ [(L[k].ms.length : Int)] := by
  unfold lensL
  rw [List.take_succ_eq_append_getElem h, List.map_append]; rfl
theorem f_countRounds (M : Nat) (nil : Bool) (es : List E3) (L : List Sta) (h7 : M ≤ 7) (hg : gOk (M : Int) es = true) (hL : L ≠ []) (hLl : L.length ≤ 200) (hrun : runS (M : Int) es 5 0 0 (startS M) = some L) (hms : ∀ s ∈ L, s.ms.length ≤ 2000) :
    Fn Tryz.prog 26 [graphP (M : Int) nil es, prgP 5 0 0, .one (R.val (Value.func (.func 27) #[] #[]))] (.v (.one (row false 1 (ints (lensL L))))) := by
  have KG := f_implGraphValid (M : Int) nil es (by have := gOk_len hg; simp only [maxLen]; omega)
  rw [hg] at KG
  have KP := f_progValid 5 0 0
  rw [show progOk 5 0 0 = true by decide] at KP
  have KS := f_sentRounds M nil es L h7 hL hLl hrun hms
  have hsl : (sentP L).length = L.length := by unfold sentP; rw [List.length_map]
  have hat := fun k (h : k < L.length) => sentP_at h
  have hlt := fun k (h : k < L.length) => lensL_take h
  have hll : ∀ k, k ≤ L.length → (ints (lensL (L.take k))).length = k := fun k hk => by rw [ints_len]; unfold lensL; rw [List.length_map, List.length_take]; omega
  generalize sentP L = SP at *
  clear hrun hms
  refine fn_of (l := [.tmp 6]) Tryz.func26 kRf rfl Tryz.ntmps26 rfl rfl ?_; simp only [argEnv, P0.d, Nat.reduceAdd, graphP, prgP, List.map_cons, List.map_nil]
  repeat' (first|refine wk ?_|((first|refine' w_q rfl rfl ?xa rfl ?_|refine' v_q rfl rfl ?xa rfl ?_|refine' w_yes rfl rfl (lookO_spec rfl) rfl ?xa rfl ?_|refine' v_yes rfl rfl (lookO_spec rfl) rfl ?xa rfl ?_);case xa => first|exact k_call KG rfl ⟨asA_agg (evO_spec rfl) ⟨cAr_r, cAr_r, trivial⟩, trivial⟩|exact k_call KP rfl ⟨asA_agg (evO_spec rfl) ⟨cAr_r, cAr_r, cAr_r, trivial⟩, trivial⟩|exact k_call KS rfl ⟨asA_agg (evO_spec rfl) ⟨cAr_r, cAr_r, trivial⟩, asA_agg (evO_spec rfl) ⟨cAr_r, cAr_r, cAr_r, trivial⟩, trivial⟩)|((first|refine' w_e rfl ?xa ?xb ?xc ?xe ?_|refine' v_e rfl ?xa ?xb ?xc ?xe ?_);(case xa => exact e_mk0 tlOk rfl rfl rfl rfl rfl (c := L.length) (by rw [hsl]) oM (by simp only [maxLen];omega));(case xb|xc|xe=>rfl);try refine wkD ?_)|(refine wkB ?_ ?_<;>intro hg_<;>try exact wkX)|fail)
  obtain ⟨F, hF⟩ : ∃ F : Nat → St, ∀ k, F k = mkS 45 [(33, .one (.r true (int k))), (32, .one (.r true (int L.length))), (31, .one (.r true (row false 1 SP))), (9, .one (.own 100 0 k 1)), (2, .one (.r false (R.val (Value.func (.func 27) #[] #[]))))] [(100, .sl 3 1 true (ints (lensL (L.take k))))] := ⟨_, fun _ => rfl⟩
  refine aw_loopI (fun k : Nat => k ≤ L.length) F (fun k => L.length - k) 0 (Nat.zero_le _) (by rw [hF];(refine weak_ren [(100, 30)] rfl ?_ ?_ <;> repeat' (first|refine wkS ?_ ?_|exact wkE|exact d_int (by rw [hsl])))) ?_
  clear KG KP KS
  intro k hk
  rw [hF]
  have hkl := hll k hk
  by_cases hlk : k < L.length
  · have hix := hat k hlk
    have hn := hlt k hlk
    have hfin : ∀ s' : St, Weak s' (F (k + 1)) → ∃ x' : Nat, x' ≤ L.length ∧ Weak s' (F x') ∧ L.length - x' < L.length - k := fun s' h => ⟨k + 1, by omega, h, by omega⟩
    rw [hF (k + 1), hn, ints_app] at hfin
    clear hat hlt hll hn
    generalize L[k].ms = ms at *
    have KF := f_sentLen false ms
    generalize ints (lensL (L.take k)) = X at *
    repeat' (first|refine wk ?_|((first|refine' w_q rfl rfl ?xa rfl ?_|refine' v_q rfl rfl ?xa rfl ?_|refine' w_yes rfl rfl (lookO_spec rfl) rfl ?xa rfl ?_|refine' v_yes rfl rfl (lookO_spec rfl) rfl ?xa rfl ?_);case xa => first|exact k_index tbOk rfl rfl rfl rfl oM (by exact hix)|exact k_callV KF rfl rfl ⟨asA_r (evO_spec rfl), trivial⟩)|((first|refine' w_e rfl ?xa ?xb ?xc ?xe ?_|refine' v_e rfl ?xa ?xb ?xc ?xe ?_);(case xa => first|exact e_build [.tmp 40] tlOk rfl rfl rfl rfl rfl rfl (allN_one rfl) (by simp)|exact e_append tlOk rfl rfl rfl rfl rfl rfl (slD_own (lookHO_spec rfl) rfl) hkl.symm (by simp only [maxLen, List.length_cons, List.length_nil];omega) (by simp only [List.length_cons, List.length_nil];omega));(case xb|xc|xe=>rfl);try refine wkD ?_)|(refine wkB ?_ ?_<;>intro hg_<;>try exact wkX)|fail)
    all_goals first
      | (refine hfin _ ?_
         (refine weak_ren [(100, 42)] rfl ?_ ?_ <;> repeat' (first|refine wkS ?_ ?_|exact wkE|exact d_own (by rw [hkl];rfl)|exact ob_sl rfl rfl));done)
      | (exfalso; simp at hg_; done)
      | fail
  · obtain rfl : k = L.length := by omega
    rw [List.take_length] at *
    repeat' (first|refine wk ?_|(refine wkB ?_ ?_<;>intro hg_<;>try exact wkX)|fail)
    all_goals first
      | exact ret_tmp rfl (dres_one (cres_own0 (lookHO_spec rfl) hkl.symm))
      | (exfalso; simp at hg_; done)
      | fail
theorem f_sentIn (M : Nat) (nil : Bool) (es : List E3) (L : List Sta) (h7 : M ≤ 7) (hg : gOk (M : Int) es = true) (hL : L ≠ []) (hLl : L.length ≤ 200) (hrun : runS (M : Int) es 5 0 0 (startS M) = some L) (hms : ∀ s ∈ L, s.ms.length ≤ 2000) :
    Fn Tryz.prog 10 [graphP (M : Int) nil es, prgP 5 0 0] (.v (.one (row false 1 (ints (lensL L))))) := by
  have KC := f_countRounds M nil es L h7 hg hL hLl hrun hms
  generalize ints (lensL L) = X at *
  clear hrun hms
  refine fn_of (l := [.tmp 4]) Tryz.func10 kRf rfl Tryz.ntmps10 rfl rfl ?_; simp only [argEnv, P0.d, Nat.reduceAdd, graphP, prgP, List.map_cons, List.map_nil]
  repeat' (first|refine wk ?_|((first|refine' w_q rfl rfl ?xa rfl ?_|refine' v_q rfl rfl ?xa rfl ?_|refine' w_yes rfl rfl (lookO_spec rfl) rfl ?xa rfl ?_|refine' v_yes rfl rfl (lookO_spec rfl) rfl ?xa rfl ?_);case xa => exact k_call KC rfl ⟨asA_agg (evO_spec rfl) ⟨cAr_r, cAr_r, trivial⟩, asA_agg (evO_spec rfl) ⟨cAr_r, cAr_r, cAr_r, trivial⟩, asA_r (evO_spec rfl), trivial⟩)|(refine wkB ?_ ?_<;>intro hg_<;>try exact wkX)|fail)
  all_goals first
    | exact ret_tmp rfl (dres_one cres_new)
    | fail
end Go.Proofs.YtlobefglhppbdaaGreatDoor.Abs
set_option linter.unusedSimpArgs false
set_option linter.unusedVariables false
namespace Go.Proofs.YtlobefglhppbdaaGreatDoor.Abs
open Go.RowKit
open R (val row ref)
theorem adj_irr {m : Int} {es : List E3} (hg : gOk m es = true) (v : Int) : adj es v v = false := by
  have hI := gOk_edges hg
  cases h : adj es v v with
  | false => rfl
  | true =>
    unfold adj at h
    rw [List.any_eq_true] at h
    obtain ⟨e, he, h⟩ := h
    have := hI e he
    unfold adjE at h
    simp only [Bool.or_eq_true, Bool.and_eq_true, decide_eq_true_eq] at h
    omega
theorem near_len2 {m : Int} {es : List E3} (hg : gOk m es = true) (v : Int) : (nearL m es v).length = (leL m es v).length + (grL m es v).length := by
  rw [nearL_eq hg, leL_eq hg, grL_eq hg]
  exact near_split (allV m) v (adj_irr hg v)
def pathN (m : Int) (es : List E3) (k : Nat) : Nat := (((allV m).take k).map fun v => (leL m es v).length * (grL m es v).length).sum
theorem pathN_succ {m : Int} {M : Nat} (hm : m = (M : Int)) (es : List E3) {k : Nat} (h : k < M) : pathN m es (k + 1) = pathN m es k + (leL m es (k : Int)).length * (grL m es (k : Int)).length := by
  have hl : k < (allV m).length := by rw [allV_M m hm]; exact h
  unfold pathN
  rw [List.take_succ_eq_append_getElem hl, allV_at m hm hl, List.map_append, List.sum_append]
  simp
theorem pathN_le {m : Int} {es : List E3} (hg : gOk m es = true) {M : Nat} (hm : m = (M : Int)) (h7 : M ≤ 7) (k : Nat) : pathN m es k ≤ 343 := by
  unfold pathN
  refine Nat.le_trans (sum_le _ (fun _ => 49) _ fun v _ => ?_) ?_
  · exact Nat.mul_le_mul (Nat.le_trans (leL_M hg hm v) h7) (Nat.le_trans (grL_M hg hm v) h7)
  · rw [sum_const, List.length_take, allV_M m hm]
    have : min k M ≤ 7 := by omega
    omega
theorem cast_sum (f : Int → Nat) : ∀ l : List Int, ((l.map fun v => ((f v : Nat) : Int)).sum) = (((l.map f).sum : Nat) : Int)
  | [] => rfl
  | x :: l => by rw [List.map_cons, List.map_cons, List.sum_cons, List.sum_cons, cast_sum f l]; push_cast; rfl
theorem f_drawTri (nb : Bool) (code : List Int) (hB : Byte code) (hl : code.length ≤ 1048576) :
    ∃ (m : Int) (es : List E3), (1 ≤ m ∧ m ≤ 7 ∧ es.length ≤ 41) ∧ Fn Tryz.prog 4 [.one (row nb 1 (bys code))] (.v (graphP m false es)) := by
  have K0 := f_open nb code hl
  have hB2 := byte_take2 hB 2000
  have hl2 : (code.take 2000).length ≤ 2000 := by rw [List.length_take]; omega
  obtain ⟨m, es, p', ⟨e1, e2, e3, e4, e5⟩, KA0⟩ := l20Dense_ex (code.take 2000) 0 hB2 hl2 oM oM
  have KA := KA0 false true nb
  refine ⟨m, es, ⟨e1, e2, e3⟩, ?_⟩
  clear KA0 hB2 hl2 hB
  generalize code.take 2000 = bs at *
  unfold rdH at *
  refine fn_of (l := [.cell 2 25]) Tryz.func4 kRf rfl Tryz.ntmps4 rfl rfl ?_; simp only [argEnv, P0.d, Nat.reduceAdd, graphP, List.map_cons, List.map_nil]
  repeat' (first|refine wk ?_|((first|refine' w_e rfl ?xa ?xb ?xc ?xe ?_|refine' v_e rfl ?xa ?xb ?xc ?xe ?_);(case xa => first|exact e_callS [(2000001, 600)] K0 rfl ⟨asE, trivial⟩ trivial rfl|exact e_callS [(1000000000, 600)] KA rfl ⟨asD_ren (evO_spec rfl), trivial⟩ sbH rfl);(case xb|xc|xe=>rfl);try refine wkD ?_)|(refine wkB ?_ ?_<;>intro hg_<;>try exact wkX)|fail)
  all_goals first
    | exact ret_v (rv_cell rfl rfl tyF0 rfl rfl rfl (dres_agg (by exact ⟨cres_val, cres_new, trivial⟩)))
    | fail
theorem f_lawCntNo (nb : Bool) (code : List Int) (hl : code.length ≤ 1048576) (m : Int) (es : List E3) (hes : es.length ≤ 41) (hg : gOk m es = false)
    (KD : Fn Tryz.prog 4 [.one (row nb 1 (bys code))] (.v (graphP m false es))) : Fn Tryz.prog 3 [.one (row nb 1 (bys code))] (.v (.one (bool true))) := by
  have KI := f_implTriNo m false es oM hg
  have KS := f_specTriNo m false es oM hg
  have KG := f_specGraphValid m false es (by simp only [maxLen]; omega)
  rw [hg] at KG
  have KE := f_sameInts2 true false [] (by simp)
  have hcl := bys_len code
  refine fn_of (l := [.tmp 2]) Tryz.func3 kRf rfl Tryz.ntmps3 rfl rfl ?_; simp only [argEnv, P0.d, Nat.reduceAdd, graphP, List.map_cons, List.map_nil]
  repeat' (first|refine wk ?_|((first|refine' w_q rfl rfl ?xa rfl ?_|refine' v_q rfl rfl ?xa rfl ?_|refine' w_yes rfl rfl (lookO_spec rfl) rfl ?xa rfl ?_|refine' v_yes rfl rfl (lookO_spec rfl) rfl ?xa rfl ?_);case xa => first|exact k_call KD rfl ⟨asA_r (evO_spec rfl), trivial⟩|exact k_call KI rfl ⟨asA_agg (evO_spec rfl) ⟨cAr_r, cAr_r, trivial⟩, trivial⟩|exact k_call KS rfl ⟨asA_agg (evO_spec rfl) ⟨cAr_r, cAr_r, trivial⟩, trivial⟩|exact k_call KE rfl ⟨asA_r (evO_spec rfl), asA_r (evO_spec rfl), trivial⟩|exact k_call KG rfl ⟨asA_agg (evO_spec rfl) ⟨cAr_r, cAr_r, trivial⟩, trivial⟩|exact k_call f_alive2 rfl trivial)|(refine wkB ?_ ?_<;>intro hg_<;>try exact wkX)|fail)
  all_goals first
    | exact ret_tmp rfl (dres_bool rfl)
    | (exfalso; omega)
    | (exfalso; simp_all; done)
    | fail
theorem le_count (m : Int) (es : List E3) (v : Int) : (nearL m es v).countP (fun z => decide (z < v)) = (leL m es v).length := by
  unfold leL
  rw [List.countP_eq_length_filter]
theorem f_lawCntYes (nb : Bool) (code : List Int) (hl : code.length ≤ 1048576) (M : Nat) (es : List E3) (h0 : 0 < M) (h7 : M ≤ 7) (hg : gOk (M : Int) es = true)
    (KD : Fn Tryz.prog 4 [.one (row nb 1 (bys code))] (.v (graphP (M : Int) false es))) : Fn Tryz.prog 3 [.one (row nb 1 (bys code))] (.v (.one (bool true))) := by
  have hm : (M : Int) = (M : Int) := rfl
  have hl40 := gOk_len hg
  have KI := f_implTri (M : Int) false es hg hm h7
  have KS := f_specTri (M : Int) false es hg hm h7
  have KG := f_specGraphValid (M : Int) false es (by simp only [maxLen]; omega)
  rw [hg] at KG
  have hTl := trL_len hm es
  have KE := f_sameInts2 false false (trL (M : Int) es) oM
  have KT1 := f_total false (trL (M : Int) es) oM (fun z hz => by
    unfold trL at hz
    rw [List.mem_map] at hz
    obtain ⟨v, _, rfl⟩ := hz
    have := triV_le hg hm h7 v
    omega)
  have hsum1 : (trL (M : Int) es).sum = ((((allV (M : Int)).map fun v => triV (M : Int) es v).sum : Nat) : Int) := cast_sum _ _
  have htl := tri_le hg
  rw [hsum1] at KT1
  have KDg := f_degrees (M : Int) false es hg hm h7
  have hdl := degL_len hm es
  have KT2 := f_total false (degL (M : Int) es) oM (fun z hz => by
    unfold degL at hz
    rw [List.mem_map] at hz
    obtain ⟨v, _, rfl⟩ := hz
    have := nearL_M hg hm (es := es) v
    omega)
  have hsum2 : (degL (M : Int) es).sum = ((((allV (M : Int)).map fun v => (nearL (M : Int) es v).length).sum : Nat) : Int) := cast_sum _ _
  have hE2 : ((allV (M : Int)).map fun v => (nearL (M : Int) es v).length).sum = 2 * ((allV (M : Int)).map fun v => (grL (M : Int) es v).length).sum := by
    rw [sum_eq _ (fun v => (leL (M : Int) es v).length + (grL (M : Int) es v).length) _ (fun v _ => near_len2 hg v), sum_add, ← edges_sum hg]
    omega
  have hEb : ((allV (M : Int)).map fun v => (grL (M : Int) es v).length).sum ≤ 49 := by
    refine Nat.le_trans (sum_le _ (fun _ => 7) _ fun v _ => Nat.le_trans (grL_M hg hm v) h7) ?_
    rw [sum_const, allV_M (M : Int) hm]; omega
  rw [hsum2, hE2] at KT2
  obtain ⟨L, hrun, hms, rest, hLE, hrest⟩ := tri_run hg hm h0 h7
  have hL : L ≠ [] := fun e => by rw [e] at hLE; cases hLE
  have hPe : pathN (M : Int) es M = ((allV (M : Int)).map fun v => (leL (M : Int) es v).length * (grL (M : Int) es v).length).sum := by
    unfold pathN; rw [List.take_of_length_le (by rw [allV_M (M : Int) hm]; exact Nat.le_refl _)]
  rw [← hPe] at hrest htl
  have hXS : lensL L = ((L.map fun s => s.ms.length).map fun n : Nat => (n : Int)) := by unfold lensL; rw [List.map_map]; rfl
  have hLl : L.length ≤ 200 := by
    have h1 := runF_r 102 (startS M) L hrun
    have h2 := runF_last 102 (startS M) L hrun
    have h3 : ((startS M :: L).getLast (by simp)).r ≤ 100 := by
      unfold doneS Sta.ok stOk at h2
      simp only [Bool.and_eq_true, decide_eq_true_eq, inR] at h2
      omega
    have h4 : (startS M).r = 0 := rfl
    omega
  have KN5 := f_sentIn M false es L h7 hg hL hLl hrun hms
  rw [hLE, List.map_cons] at hXS
  have hR : ∃ RS : List Int, rest.map (fun n : Nat => (n : Int)) = RS ∧ ((RS = [] ∧ pathN (M : Int) es M = 0) ∨ ∃ R2, RS = ((pathN (M : Int) es M : Nat) : Int) :: R2) := by
    rcases hrest with ⟨h1, h2⟩ | ⟨r2, h1⟩
    · exact ⟨_, rfl, .inl ⟨by rw [h1]; rfl, h2⟩⟩
    · exact ⟨_, rfl, .inr ⟨_, by rw [h1, List.map_cons]⟩⟩
  obtain ⟨RS, hRS, hRc⟩ := hR
  rw [hRS] at hXS
  have hRl : RS.length ≤ 200 := by
    rw [← hRS, List.length_map]
    have := congrArg List.length hLE
    simp at this; omega
  have hps := fun k (h : k < M) => pathN_succ hm es h
  have hpl := fun k => pathN_le hg hm h7 (es := es) k
  have hnl2 := fun v : Int => near_len2 hg v
  have hlc := fun v : Int => le_count (M : Int) es v
  have hleM := fun v : Int => leL_M hg hm (es := es) v
  have hgrM := fun v : Int => grL_M hg hm (es := es) v
  have KNo := fun k (h : k < M) => f_implNearOf (M : Int) false es (k : Int) hg (by unfold hasV; simp; omega)
  have hbn := fun k => bits_near hg hm (M := M) k
  have hnM := fun v : Int => nearL_M hg hm (es := es) v
  clear hE2 hsum1 hsum2 hrest hLE hRS hrun hms hL hLl hPe hg
  rw [hXS] at KN5
  generalize ((allV (M : Int)).map fun v => (grL (M : Int) es v).length).sum = E at *
  generalize ((allV (M : Int)).map fun v => triV (M : Int) es v).sum = TS at *
  generalize trL (M : Int) es = TL at *
  generalize degL (M : Int) es = DL at *
  generalize lensL L = X0 at *
  clear hXS
  have hcl := bys_len code
  obtain ⟨XS, hXS⟩ : ∃ XS : List Int, XS = (E : Int) :: RS := ⟨_, rfl⟩
  rw [← hXS] at KN5
  have hXl : (ints XS).length = RS.length + 1 := by rw [ints_len, hXS]; rfl
  have hX0 : (ints XS)[(0 : Int).toNat]? = some (iP (E : Int)) := by rw [hXS]; rfl
  have hmul : IntKind.i64.wrap (2 * (E : Int)) = ((2 * E : Nat) : Int) := by rw [IntWalk.i64_in _ oM]; omega
  refine fn_of (l := [.tmp 2]) Tryz.func3 kRf rfl Tryz.ntmps3 rfl rfl ?_; simp only [argEnv, P0.d, Nat.reduceAdd, graphP, List.map_cons, List.map_nil]
  repeat' (first|refine wk ?_|((first|refine' w_q rfl rfl ?xa rfl ?_|refine' v_q rfl rfl ?xa rfl ?_|refine' w_yes rfl rfl (lookO_spec rfl) rfl ?xa rfl ?_|refine' v_yes rfl rfl (lookO_spec rfl) rfl ?xa rfl ?_);case xa => first|exact k_call KD rfl ⟨asA_r (evO_spec rfl), trivial⟩|exact k_call KI rfl ⟨asA_agg (evO_spec rfl) ⟨cAr_r, cAr_r, trivial⟩, trivial⟩|exact k_call KS rfl ⟨asA_agg (evO_spec rfl) ⟨cAr_r, cAr_r, trivial⟩, trivial⟩|exact k_call KE rfl ⟨asA_r (evO_spec rfl), asA_r (evO_spec rfl), trivial⟩|exact k_call KG rfl ⟨asA_agg (evO_spec rfl) ⟨cAr_r, cAr_r, trivial⟩, trivial⟩|exact k_call KN5 rfl ⟨asA_agg (evO_spec rfl) ⟨cAr_r, cAr_r, trivial⟩, asA_agg (evO_spec rfl) ⟨cAr_r, cAr_r, cAr_r, trivial⟩, trivial⟩)|(refine wkB ?_ ?_<;>intro hg_<;>try exact wkX)|fail)
  all_goals (try (exfalso; omega))
  clear KD KI KS KE KG KN5
  obtain ⟨F, hF⟩ : ∃ F : Nat → St, ∀ k, F k = mkS 106 [(7, .one (.r true (int k))), (6, .one (.r true (int (pathN (M : Int) es k : Nat)))), (5, .one (.r true (row false 1 (ints XS)))), (4, .one (.r true (row false 1 (ints TL)))), (3, .one (.ptr 3 0 0 0))] [(3, .var 25 [.r true (int M), .r true (row false 3 (edges es))])] := ⟨_, fun _ => rfl⟩
  refine aw_loopI (fun k : Nat => k ≤ M) F (fun k => M - k) 0 (Nat.zero_le _) (by rw [hF];(refine weak_ren [] rfl ?_ ?_ <;>exact wkW)) ?_
  intro k hk
  rw [hF]
  by_cases hlt : k < M
  · have KNk := KNo k hlt
    rw [Int.toNat_natCast, Int.toNat_natCast, hbn k] at KNk
    have hpk := hps k hlt
    have hpk0 := hpl k
    have hpk1 := hpl (k + 1)
    have hnk := hnl2 (k : Int)
    have hck := hlc (k : Int)
    have hle := hleM (k : Int)
    have hgr := hgrM (k : Int)
    have hNM := hnM (k : Int)
    have hmm : (leL (M : Int) es (k : Int)).length * (grL (M : Int) es (k : Int)).length ≤ 49 := Nat.mul_le_mul (Nat.le_trans hle h7) (Nat.le_trans hgr h7)
    have hfin : ∀ s' : St, Weak s' (F (k + 1)) → ∃ x' : Nat, x' ≤ M ∧ Weak s' (F x') ∧ M - x' < M - k := fun s' h => ⟨k + 1, by omega, h, by omega⟩
    clear KNo hbn hps hpl hnl2 hlc hleM hgrM hnM KT1 KT2 KDg
    generalize decide ((nearM M es).getD k 0 = 0) = nn at *
    generalize (leL (M : Int) es (k : Int)).length = a at *
    generalize (grL (M : Int) es (k : Int)).length = b at *
    generalize hpq : pathN (M : Int) es k = pk at *
    generalize nearL (M : Int) es (k : Int) = N at *
    have hNl := ints_len N
    repeat' (first|refine wk ?_|((first|refine' w_q rfl rfl ?xa rfl ?_|refine' v_q rfl rfl ?xa rfl ?_|refine' w_yes rfl rfl (lookO_spec rfl) rfl ?xa rfl ?_|refine' v_yes rfl rfl (lookO_spec rfl) rfl ?xa rfl ?_);case xa => exact k_call KNk rfl ⟨asA_agg (evO_spec rfl) ⟨cAr_r, cAr_r, trivial⟩, asA_r (evO_spec rfl), trivial⟩)|(refine wkB ?_ ?_<;>intro hg_<;>try exact wkX)|fail)
    obtain ⟨G, hG⟩ : ∃ G : Nat → St, ∀ j, G j = mkS 106 [(10, .one (.r true (int j))), (9, .one (.r true (int ((N.take j).countP (fun z => decide (z < (k : Int))) : Nat)))), (8, .one (.r true (row nn 1 (ints N)))), (7, .one (.r true (int k))), (6, .one (.r true (int (pk : Nat)))), (5, .one (.r true (row false 1 (ints XS)))), (4, .one (.r true (row false 1 (ints TL)))), (3, .one (.ptr 3 0 0 0))] [(3, .var 25 [.r true (int M), .r true (row false 3 (edges es))])] := ⟨_, fun _ => rfl⟩
    refine aw_loopI (fun j : Nat => j ≤ N.length) G (fun j => N.length - j) 0 (Nat.zero_le _) (by rw [hG];(refine weak_ren [] rfl ?_ ?_ <;>exact wkW)) ?_
    clear KNk
    intro j hj
    rw [hG]
    by_cases hlj : j < N.length
    · have hix := ints_at hlj
      have hcs := count_snoc (fun z => decide (z < (k : Int))) hlj
      have hcl2 := List.countP_le_length (p := fun z => decide (z < (k : Int))) (l := N.take j)
      rw [List.length_take] at hcl2
      have hfj : ∀ s' : St, Weak s' (G (j + 1)) → ∃ x' : Nat, x' ≤ N.length ∧ Weak s' (G x') ∧ N.length - x' < N.length - j := fun s' h => ⟨j + 1, by omega, h, by omega⟩
      rw [hG (j + 1), hcs] at hfj
      clear hcs hG hF hfin hck
      generalize (N.take j).countP (fun z => decide (z < (k : Int))) = c at *
      generalize N[j] = y at *
      by_cases hy : y < (k : Int)
      · have hd : decide (y < (k : Int)) = true := by simp [hy]
        have hw : IntKind.i64.wrap ((c : Int) + 1) = ((c + 1 : Nat) : Int) := by rw [IntWalk.i64_in _ oM]; omega
        rw [hd] at hfj
        repeat' (first|refine wk ?_|((first|refine' w_q rfl rfl ?xa rfl ?_|refine' v_q rfl rfl ?xa rfl ?_|refine' w_yes rfl rfl (lookO_spec rfl) rfl ?xa rfl ?_|refine' v_yes rfl rfl (lookO_spec rfl) rfl ?xa rfl ?_);case xa => exact k_index tbOk rfl rfl rfl rfl oM (by exact hix))|(refine wkB ?_ ?_<;>intro hg_<;>try exact wkX)|fail)
        all_goals first
          | (refine hfj _ ?_
             (refine weak_ren [] rfl ?_ ?_ <;> repeat' (first|refine wkS ?_ ?_|exact wkE|exact d_int hw));done)
          | (exfalso; omega)
          | fail
      · have hd : decide (y < (k : Int)) = false := by simp [hy]
        rw [hd] at hfj
        repeat' (first|refine wk ?_|((first|refine' w_q rfl rfl ?xa rfl ?_|refine' v_q rfl rfl ?xa rfl ?_|refine' w_yes rfl rfl (lookO_spec rfl) rfl ?xa rfl ?_|refine' v_yes rfl rfl (lookO_spec rfl) rfl ?xa rfl ?_);case xa => exact k_index tbOk rfl rfl rfl rfl oM (by exact hix))|(refine wkB ?_ ?_<;>intro hg_<;>try exact wkX)|fail)
        all_goals first
          | (refine hfj _ ?_
             (refine weak_ren [] rfl ?_ ?_ <;>exact wkW);done)
          | (exfalso; omega)
          | fail
    · rw [List.take_of_length_le oM, hck]
      rw [hF (k + 1), hpk] at hfin
      have hw1 : IntKind.i64.wrap ((N.length : Int) - (a : Int)) = (b : Int) := by rw [IntWalk.i64_in _ oM]; omega
      have hw2 : IntKind.i64.wrap ((a : Int) * (b : Int)) = ((a * b : Nat) : Int) := by rw [IntWalk.i64_in _ (by rw [← Int.natCast_mul]; omega)]; push_cast; rfl
      have hw3 : IntKind.i64.wrap ((pk : Int) + ((a * b : Nat) : Int)) = ((pk + a * b : Nat) : Int) := by rw [IntWalk.i64_in _ oM]; omega
      clear hG hF hck
      repeat' (first|refine wk ?_|(refine wkB ?_ ?_<;>intro hg_<;>try exact wkX)|fail)
      all_goals first
        | (refine hfin _ ?_
           (refine weak_ren [] rfl ?_ ?_ <;> repeat' (first|refine wkS ?_ ?_|exact wkE|exact d_int (by rw [hNl, hw1, hw2, hw3])));done)
        | (exfalso; omega)
        | fail
  · obtain rfl : k = M := by omega
    clear hps hpl hnl2 hlc hleM hgrM KNo hbn hnM hF
    generalize pathN (k : Int) es k = P at *
    have hXi := ints_len XS
    rcases hRc with ⟨h1, h2⟩ | ⟨R2, h1⟩
    · subst h1
      rw [List.length_nil] at hXl
      repeat' (first|refine wk ?_|((first|refine' w_q rfl rfl ?xa rfl ?_|refine' v_q rfl rfl ?xa rfl ?_|refine' w_yes rfl rfl (lookO_spec rfl) rfl ?xa rfl ?_|refine' v_yes rfl rfl (lookO_spec rfl) rfl ?xa rfl ?_);case xa => first|exact k_index tbOk rfl rfl rfl rfl oM (by exact hX0)|exact k_call KDg rfl ⟨asA_agg (evO_spec rfl) ⟨cAr_r, cAr_r, trivial⟩, trivial⟩|exact k_call KT2 rfl ⟨asA_r (evO_spec rfl), trivial⟩|exact k_call KT1 rfl ⟨asA_r (evO_spec rfl), trivial⟩)|(refine wkB ?_ ?_<;>intro hg_<;>try exact wkX)|fail)
      all_goals first
        | (exfalso; omega)
        | exact ret_tmp rfl (dres_bool (by simp; omega))
        | exact ret_tmp rfl (dres_bool (by simp_all; done))
        | exact ret_tmp rfl (dres_bool (by simp_all <;> omega))
        | fail
    · have hX1 : (ints XS)[(1 : Int).toNat]? = some (iP (P : Int)) := by rw [hXS, h1]; rfl
      have hXl : (ints XS).length = R2.length + 2 := by rw [hXl, h1, List.length_cons]
      repeat' (first|refine wk ?_|((first|refine' w_q rfl rfl ?xa rfl ?_|refine' v_q rfl rfl ?xa rfl ?_|refine' w_yes rfl rfl (lookO_spec rfl) rfl ?xa rfl ?_|refine' v_yes rfl rfl (lookO_spec rfl) rfl ?xa rfl ?_);case xa => first|exact k_index tbOk rfl rfl rfl rfl oM (by first|exact hX0|exact hX1)|exact k_call KDg rfl ⟨asA_agg (evO_spec rfl) ⟨cAr_r, cAr_r, trivial⟩, trivial⟩|exact k_call KT2 rfl ⟨asA_r (evO_spec rfl), trivial⟩|exact k_call KT1 rfl ⟨asA_r (evO_spec rfl), trivial⟩)|(refine wkB ?_ ?_<;>intro hg_<;>try exact wkX)|fail)
      all_goals first
        | (exfalso; omega)
        | exact ret_tmp rfl (dres_bool (by simp; omega))
        | exact ret_tmp rfl (dres_bool (by simp_all; done))
        | exact ret_tmp rfl (dres_bool (by simp_all <;> omega))
        | fail
theorem f_lawCnt (nb : Bool) (code : List Int) (hB : Byte code) (hl : code.length ≤ 1048576) : Fn Tryz.prog 3 [.one (row nb 1 (bys code))] (.v (.one (bool true))) := by
  obtain ⟨m, es, ⟨e1, e2, e3⟩, KD⟩ := f_drawTri nb code hB hl
  cases hg : gOk m es with
  | false => exact f_lawCntNo nb code hl m es e3 hg KD
  | true =>
    obtain ⟨M, rfl⟩ : ∃ M : Nat, m = (M : Int) := ⟨m.toNat, by omega⟩
    exact f_lawCntYes nb code hl M es oM oM hg KD
theorem law_cnt (nb : Bool) (code : List Int) (hB : Byte code) : Fn Tryz.prog 3 [.one (row nb 1 (bys code))] (.v (.one (bool true))) := by
  have hlb := bys_len code
  by_cases hl : code.length ≤ 1048576
  · exact f_lawCnt nb code hB hl
  · refine fn_of (l := [.tmp 2]) Tryz.func3 kRf rfl Tryz.ntmps3 rfl rfl ?_; simp only [argEnv, P0.d, Nat.reduceAdd]
    repeat' (first|refine wk ?_|(refine wkB ?_ ?_<;>intro hg_<;>try exact wkX)|fail)
    all_goals first
      | exact ret_tmp rfl (dres_bool rfl)
      | (exfalso; omega)
      | fail
end Go.Proofs.YtlobefglhppbdaaGreatDoor.Abs
