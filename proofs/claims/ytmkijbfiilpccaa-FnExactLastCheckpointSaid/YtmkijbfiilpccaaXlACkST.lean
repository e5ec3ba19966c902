/- Checkpoints by states: the reference's writers. No statement of the seat is proved here. -/
import Derived.Lib.Hide
import Derived.Test.YtmkijbfiilpccaaXlTy
import Derived.Test.YtmkijbfiilpccaaXlGStaCk
import Derived.Test.YtmkijbfiilpccaaXlASpCD
import Derived.Test.YtmkijbfiilpccaaXlASta
set_option linter.unusedSimpArgs false
set_option linter.unusedVariables false
set_option maxRecDepth 100000
set_option maxHeartbeats 8000000
namespace Go.Proofs.Ytmkijbfiilpccaa.Abs
open Go.RowKit
open R (val row ref)
theorem bools_plain (gs : List Bool) : ∀ e ∈ bools gs,plain1 e = true:=fun e he=>by
 unfold bools at he; rw [List.mem_map] at he; obtain ⟨b,_,rfl⟩:=he; rfl
theorem f_ownState (r : Int) (nv ng nm : Bool) (vs : List Int) (gs : List Bool) (ms : List E3) (hv : vs.length ≤ 1048576) (hg : gs.length ≤ 1048576) (hl : ms.length ≤ 1048576) : Fn Try.prog 45 [stateP r nv vs ng gs nm ms] (.v (stateP r false vs false gs false ms)):=by
 have hlenV:=Zp vs
 have hlenG:=Zab gs
 have hlenM:=Zv ms
 refine Zy (l:=[.cell 2 28]) Try.func45 kRf rfl Try.ntmps45 rfl rfl ?_; simp only [argEnv,P0.d,Nat.reduceAdd,stateP,List.map_cons,List.map_nil]
 repeat' (first|refine wk ?_|((first|refine' w_e rfl ?xa ?xb ?xc ?xe ?_|refine' v_e rfl ?xa ?xb ?xc ?xe ?_);(case xa=>first|exact Z0 [] tlOk rfl rfl rfl rfl rfl rfl (by simp [AllN]) (by simp)|exact Zah tlOk rfl rfl rfl rfl rfl rfl (Zaa slD_row (by first|exact Zbt _|exact bools_plain _|exact edges_plain _)) rfl (by simp only [maxLen,List.length_nil];omega) (by simp only [List.length_nil];omega));(case xb|xc|xe=>rfl);try refine wkD ?_)|(refine wkB ?_ ?_<;>intro hg_<;>try exact wkX)|fail)
 all_goals first
  | exact ret_v (Zat rfl rfl tyF0 rfl rfl rfl (Zar (by refine ⟨Zaq,?_,?_,?_,trivial⟩<;>exact Zz (Zf rfl) (by simp only [List.length_nil,Nat.zero_add,List.nil_append]))))
theorem f_l18Start (s : Sta) (nv ng nm : Bool) : FnO Try.prog 46 [stateP s.r nv s.vs ng s.gs nm s.ms] 3 1 (ints (rcH s)):=by
 obtain ⟨r,vs,gs,ms⟩:=s
 dsimp only
 have hlenV:=Zp vs
 have hlenM:=Zv ms
 have KA:=Zbj r
 have KB:=Zbj vs.length
 have KC:=Zbj ms.length
 have ha:=Zau r
 have hb:=Zau vs.length
 have hc:=Zau ms.length
 have e : ints (rcH ⟨r,vs,gs,ms⟩) = ints [1] ++ ints (enc r) ++ ints (enc vs.length) ++ ints (enc ms.length):=by
  unfold rcH ints; simp
 rw [e]
 clear e
 generalize enc r = ea at *
 generalize enc vs.length = eb at *
 generalize enc ms.length = ec at *
 rw [← hlenV] at KB
 rw [← hlenM] at KC
 have la:=Zp ea
 have lb:=Zp eb
 have lc:=Zp ec
 refine fn_ofO Try.func46 kRf rfl Try.ntmps46 rfl rfl ?_; simp only [argEnv,P0.d,Nat.reduceAdd,List.map_cons,List.map_nil,stateP]
 repeat' (first|refine wk ?_|((first|refine' w_e rfl ?xa ?xb ?xc ?xe ?_|refine' v_e rfl ?xa ?xb ?xc ?xe ?_);(case xa=>first|exact Zbe KA rfl rfl ⟨Zd (Za rfl),trivial⟩|exact Zbe KB rfl rfl ⟨Zd (Za rfl),trivial⟩|exact Zbe KC rfl rfl ⟨Zd (Za rfl),trivial⟩|exact Z0 [.const (.int .i64 1)] tlOk rfl rfl rfl rfl rfl rfl (allN_ints [1]) (by simp)|exact Zah tlOk rfl rfl rfl rfl rfl rfl (Zaa (Z8 (Zf rfl) rfl) (Zbt _)) (by first|rfl|(simp only [List.length_append];done)) (by simp only [maxLen,List.length_append,List.length_cons,List.length_nil];omega) (by (try simp only [List.length_append,List.length_cons,List.length_nil]);omega));(case xb|xc|xe=>rfl);try refine wkD ?_)|(refine wkB ?_ ?_<;>intro hg_<;>try exact wkX)|fail)
 all_goals first
  | exact ret_own rfl rfl (by simp only [List.length_append]; rfl)
theorem rcV_app (v : Int) (g : Bool) : ints (rcV v g) = ints [2] ++ ints (enc (v + 1)) ++ ints [b01 g]:=by unfold rcV ints; simp
theorem rcM_app (m : E3) : ints (rcM m) = ints [3] ++ ints (edgeB m.1 m.2.1 m.2.2):=by unfold rcM ints; simp
def bodV (s : Sta) (k : Nat) : List (List Int):=rcH s :: List.zipWith rcV (s.vs.take k) (s.gs.take k)
def bodM (s : Sta) (k : Nat) : List (List Int):=bodV s s.vs.length ++ (s.ms.take k).map rcM
theorem bodV_succ {s : Sta} (h : s.gs.length = s.vs.length) {k : Nat} (hk : k < s.vs.length) : bodV s (k + 1) = bodV s k ++ [rcV s.vs[k] (s.gs[k]'oM)]:=by
 unfold bodV
 rw [List.take_succ_eq_append_getElem hk,List.take_succ_eq_append_getElem (by omega : k < s.gs.length),List.zipWith_append (by simp; omega)]
 rfl
theorem bodM_succ {s : Sta} {k : Nat} (hk : k < s.ms.length) : bodM s (k + 1) = bodM s k ++ [rcM s.ms[k]]:=by
 unfold bodM
 rw [List.take_succ_eq_append_getElem hk,List.map_append,List.append_assoc]
 rfl
theorem bodM_end {s : Sta} (h : s.gs.length = s.vs.length) : bodM s s.ms.length ++ [[4]] = ckB s:=by
 unfold bodM bodV ckB
 rw [List.take_of_length_le (Nat.le_refl _),List.take_of_length_le oM,List.take_of_length_le (Nat.le_refl _)]
 simp
theorem bodV_len {s : Sta} (h : s.gs.length = s.vs.length) {k : Nat} (hk : k ≤ s.vs.length) : (bodV s k).length = k + 1:=by
 unfold bodV; simp; omega
theorem bodM_len {s : Sta} (h : s.gs.length = s.vs.length) {k : Nat} (hk : k ≤ s.ms.length) : (bodM s k).length = s.vs.length + 1 + k:=by
 unfold bodM; rw [List.length_append,bodV_len h (Nat.le_refl _)]; simp; omega
theorem Zbz (s : Sta) (nv ng nm : Bool) (hv : s.vs.length ≤ 1048576) (hg : s.gs.length ≤ 1048576) (hl : s.ms.length ≤ 1048576) : Fn Try.prog 18 [stateP s.r nv s.vs ng s.gs nm s.ms] (.v (.one (row false 1 (rowsI (if s.ok then ckB s else []))))) := by
  have K1 := f_ownState s.r nv ng nm s.vs s.gs s.ms hv hg hl
  have K2 := f_specStateValid s.vs.length s.r false false false s.vs s.gs s.ms (by simp only [maxLen]; omega) (by simp only [maxLen]; omega) (by simp only [maxLen]; omega)
  rw [show stOk s.vs.length s.r s.vs s.gs.length s.ms = s.ok from rfl] at K2
  have hlenV := Zp s.vs
  rw [← hlenV] at K2
  obtain ⟨B, hB⟩ : ∃ B, B = (if s.ok then ckB s else []) := ⟨_, rfl⟩
  rw [← hB]
  cases hok : s.ok
  · rw [hok, if_neg (by decide)] at hB
    subst hB
    rw [hok] at K2
    refine Zy (l := [.tmp 2]) Try.func18 kRf rfl Try.ntmps18 rfl rfl ?_; simp only [argEnv, P0.d, Nat.reduceAdd, stateP, List.map_cons, List.map_nil]
    repeat' (first|refine wk ?_|((first|refine' w_q rfl rfl ?xa rfl ?_|refine' v_q rfl rfl ?xa rfl ?_|refine' Zh rfl rfl (Zb rfl) rfl ?xa rfl ?_|refine' Zi rfl rfl (Zb rfl) rfl ?xa rfl ?_);case xa => first|exact Ze K1 rfl ⟨Zw (Za rfl) ⟨Zk, Zk, Zk, Zk, trivial⟩, trivial⟩|exact Ze K2 rfl ⟨Zw (Za rfl) ⟨Zk, Zk, Zk, Zk, trivial⟩, Zd (Za rfl), trivial⟩)|((first|refine' w_e rfl ?xa ?xb ?xc ?xe ?_|refine' v_e rfl ?xa ?xb ?xc ?xe ?_);(case xa => exact Z0 [] tlOk rfl rfl rfl rfl rfl rfl (by simp [AllN]) (by simp));(case xb|xc|xe=>rfl);try refine wkD ?_)|(refine wkB ?_ ?_<;>intro hg_<;>try exact wkX)|fail)
    all_goals first
      | exact Zt rfl (Za7 (Zz (Zf rfl) rfl))
  · have hF := Sta.okF hok
    rw [hok, if_pos rfl] at hB
    rw [hok] at K2
    have KH := f_l18Start s false false false
    refine Zy (l := [.tmp 2]) Try.func18 kRf rfl Try.ntmps18 rfl rfl ?_; simp only [argEnv, P0.d, Nat.reduceAdd, stateP, List.map_cons, List.map_nil]
    repeat' (first|refine wk ?_|((first|refine' w_q rfl rfl ?xa rfl ?_|refine' v_q rfl rfl ?xa rfl ?_|refine' Zh rfl rfl (Zb rfl) rfl ?xa rfl ?_|refine' Zi rfl rfl (Zb rfl) rfl ?xa rfl ?_);case xa => first|exact Ze K1 rfl ⟨Zw (Za rfl) ⟨Zk, Zk, Zk, Zk, trivial⟩, trivial⟩|exact Ze K2 rfl ⟨Zw (Za rfl) ⟨Zk, Zk, Zk, Zk, trivial⟩, Zd (Za rfl), trivial⟩)|((first|refine' w_e rfl ?xa ?xb ?xc ?xe ?_|refine' v_e rfl ?xa ?xb ?xc ?xe ?_);(case xa => first|exact Zbe KH rfl rfl ⟨Zw (Za rfl) ⟨Zk, Zk, Zk, Zk, trivial⟩, trivial⟩|exact Z0 [] tlOk rfl rfl rfl rfl rfl rfl (by simp [AllN]) (by simp)|exact e_buildF 20 tlOk rfl rfl rfl rfl rfl rfl rfl rfl|exact Zah tlOk rfl rfl rfl rfl rfl rfl (Z8 (Zf rfl) rfl) rfl (by simp [maxLen]) (by simp));(case xb|xc|xe=>rfl);try refine wkD ?_)|(refine wkB ?_ ?_<;>intro hg_<;>try exact wkX)|fail)
    clear K1 K2 KH
    have hgl := hF.gl
    have hml := hF.many
    have hmm := hF.ml
    have hlenG := Zab s.gs
    have hlenM := Zv s.ms
    obtain ⟨F, hFs⟩ : ∃ F : Nat → St, ∀ k, F k = mkS 79 [(4, .one (.r true (int (k : Int)))), (3, .one (.own 100 0 (k + 1) 1)), (1, .one (.ptr 1 0 0 0))] [(100, .sl 24 1 true (rowsI (bodV s k))), (1, .var 28 [.r true (int s.r), .r true (row false 1 (ints s.vs)), .r true (row false 1 (bools s.gs)), .r true (row false 3 (edges s.ms))])] := ⟨_, fun _ => rfl⟩
    refine Z7 (fun k : Nat => k ≤ s.vs.length) F (fun k => s.vs.length - k) 0 (Nat.zero_le _) (by rw [hFs];(refine Zg [(100, 22)] rfl ?_ ?_ <;>exact wkW)) ?_
    intro k hk
    have hfin : ∀ s' : St, Weak s' (F (k + 1)) → k < s.vs.length → ∃ x' : Nat, x' ≤ s.vs.length ∧ Weak s' (F x') ∧ s.vs.length - x' < s.vs.length - k := fun s' h hk => ⟨k + 1, by omega, h, by omega⟩
    rw [hFs] at hfin ⊢
    clear hFs
    have hbl := bodV_len hF.gl hk
    have hrl : k + 1 = (rowsI (bodV s k)).length := by rw [Zag, hbl]
    by_cases hlt : k < s.vs.length
    · have hlg : k < s.gs.length := by omega
      have hsucc := bodV_succ hF.gl hlt
      have hvk := hF.vin s.vs[k] (List.getElem_mem hlt)
      have KE := Zbj (s.vs[k] + 1)
      have hw : IntKind.i64.wrap (s.vs[k] + 1) = s.vs[k] + 1 := IntWalk.i64_in _ oM
      rw [← hw] at KE
      have hel := Zau (s.vs[k] + 1)
      have hxv := ints_at hlt
      have hxg := bools_at hlg
      have hobj : rowsI (bodV s (k + 1)) = rowsI (bodV s k) ++ [.one (row false 1 (ints [2] ++ ints (enc (s.vs[k] + 1)) ++ ints [b01 s.gs[k]]))] := by
        rw [hsucc, rowsI_app, ← rcV_app]
      rw [hobj] at hfin
      rw [hw] at KE
      generalize enc (s.vs[k] + 1) = en at *
      rw [← hw] at KE
      clear hobj hsucc hvk hw
      have hlen := Zp en
      generalize rowsI (bodV s k) = RR at *
      generalize s.gs[k] = g at *
      generalize s.vs[k] = v at *
      cases g
      all_goals
        repeat' (first|refine wk ?_|((first|refine' w_q rfl rfl ?xa rfl ?_|refine' v_q rfl rfl ?xa rfl ?_|refine' Zh rfl rfl (Zb rfl) rfl ?xa rfl ?_|refine' Zi rfl rfl (Zb rfl) rfl ?xa rfl ?_);case xa => exact Zn tbOk rfl rfl rfl rfl oM (by first|exact hxv|exact hxg))|((first|refine' w_e rfl ?xa ?xb ?xc ?xe ?_|refine' v_e rfl ?xa ?xb ?xc ?xe ?_);(case xa => first|exact Zbe KE rfl rfl ⟨Zd (Za rfl), trivial⟩|exact Zj 36 rfl (Z0 [.const (.int .i64 2)] tlOk rfl rfl rfl rfl rfl rfl (allN_ints [2]) (by simp))|exact Z0 [.tmp 45] tlOk rfl rfl rfl rfl rfl rfl (Zad rfl) (by simp)|exact e_buildF 47 tlOk rfl rfl rfl rfl rfl rfl rfl (by simp only [List.length_append])|exact Zj 44 rfl (Zah tlOk rfl rfl rfl rfl rfl rfl (Zaa (Z8 (Zf rfl) rfl) (Zbt _)) rfl (by simp only [maxLen, List.length_cons, List.length_nil];omega) (by simp only [List.length_cons, List.length_nil];omega))|exact Zj 47 rfl (Zah tlOk rfl rfl rfl rfl rfl rfl (Zaa (Z8 (Zf rfl) rfl) (by simp [plain1, iP])) (by simp only [List.length_append]) (by simp only [maxLen, List.length_append, List.length_cons, List.length_nil];omega) (by simp only [List.length_append, List.length_cons, List.length_nil];omega))|exact Zj 49 rfl (Zah tlOk rfl rfl rfl rfl rfl rfl (Z8 (Zf rfl) rfl) hrl (by simp only [maxLen, List.length_append, List.length_cons, List.length_nil];omega) (by simp only [List.length_append, List.length_cons, List.length_nil];omega)));(case xb|xc|xe=>rfl);try refine wkD ?_)|(refine wkB ?_ ?_<;>intro hg_<;>try exact wkX)|fail)
        all_goals first
          | (refine hfin _ ?_ hlt
             (refine Zg [(100, 49)] rfl ?_ ?_ <;> repeat' (first|refine wkS ?_ ?_|exact wkE|exact Zaf rfl rfl|exact d_own (by simp only [List.length_cons, List.length_nil];omega))))
    · obtain rfl : k = s.vs.length := by omega
      clear hfin
      repeat' (first|refine wk ?_|(refine wkB ?_ ?_<;>intro hg_<;>try exact wkX)|fail)
      obtain ⟨G, hGs⟩ : ∃ G : Nat → St, ∀ k, G k = mkS 79 [(6, .one (.r true (int (k : Int)))), (3, .one (.own 100 0 (s.vs.length + 1 + k) 1)), (1, .one (.ptr 1 0 0 0))] [(100, .sl 24 1 true (rowsI (bodM s k))), (1, .var 28 [.r true (int s.r), .r true (row false 1 (ints s.vs)), .r true (row false 1 (bools s.gs)), .r true (row false 3 (edges s.ms))])] := ⟨_, fun _ => rfl⟩
      refine Z7 (fun k : Nat => k ≤ s.ms.length) G (fun k => s.ms.length - k) 0 (Nat.zero_le _) (by rw [hGs];(refine Zg [] rfl ?_ ?_ <;> repeat' (first|refine wkS ?_ ?_|exact wkE|exact Zaf rfl (by simp [bodM])))) ?_
      intro k hk
      have hfin : ∀ s' : St, Weak s' (G (k + 1)) → k < s.ms.length → ∃ x' : Nat, x' ≤ s.ms.length ∧ Weak s' (G x') ∧ s.ms.length - x' < s.ms.length - k := fun s' h hk => ⟨k + 1, by omega, h, by omega⟩
      rw [hGs] at hfin ⊢
      clear hGs hrl hbl
      have hbl := bodM_len hF.gl hk
      have hrl : s.vs.length + 1 + k = (rowsI (bodM s k)).length := by rw [Zag, hbl]
      by_cases hlt : k < s.ms.length
      · have hsucc := bodM_succ hlt
        have KE := f_specEdgeBody s.ms[k]
        have hel := edgeB_len s.ms[k].1 s.ms[k].2.1 s.ms[k].2.2
        have hxm := edges_at hlt
        have hobj : rowsI (bodM s (k + 1)) = rowsI (bodM s k) ++ [.one (row false 1 (ints [3] ++ ints (edgeB s.ms[k].1 s.ms[k].2.1 s.ms[k].2.2)))] := by
          rw [hsucc, rowsI_app, ← rcM_app]
        rw [hobj] at hfin
        clear hobj hsucc
        generalize edgeB s.ms[k].1 s.ms[k].2.1 s.ms[k].2.2 = en at *
        have hlen := Zp en
        generalize rowsI (bodM s k) = RR at *
        generalize s.ms[k] = m at *
        obtain ⟨m1, m2, m3⟩ := m
        repeat' (first|refine wk ?_|((first|refine' w_q rfl rfl ?xa rfl ?_|refine' v_q rfl rfl ?xa rfl ?_|refine' Zh rfl rfl (Zb rfl) rfl ?xa rfl ?_|refine' Zi rfl rfl (Zb rfl) rfl ?xa rfl ?_);case xa => exact Zn tbOk rfl rfl rfl rfl oM hxm)|((first|refine' w_e rfl ?xa ?xb ?xc ?xe ?_|refine' v_e rfl ?xa ?xb ?xc ?xe ?_);(case xa => first|exact Zbe KE rfl rfl ⟨Zw (Za rfl) ⟨Zk, Zk, Zk, trivial⟩, trivial⟩|exact Zj 63 rfl (Z0 [.const (.int .i64 3)] tlOk rfl rfl rfl rfl rfl rfl (allN_ints [3]) (by simp))|exact e_buildF 72 tlOk rfl rfl rfl rfl rfl rfl rfl (by simp only [List.length_append])|exact Zj 72 rfl (Zah tlOk rfl rfl rfl rfl rfl rfl (Zaa (Z8 (Zf rfl) rfl) (Zbt _)) rfl (by simp only [maxLen, List.length_cons, List.length_nil];omega) (by simp only [List.length_cons, List.length_nil];omega))|exact Zj 74 rfl (Zah tlOk rfl rfl rfl rfl rfl rfl (Z8 (Zf rfl) rfl) hrl (by simp only [maxLen, List.length_append, List.length_cons, List.length_nil];omega) (by simp only [List.length_append, List.length_cons, List.length_nil];omega)));(case xb|xc|xe=>rfl);try refine wkD ?_)|(refine wkB ?_ ?_<;>intro hg_<;>try exact wkX)|fail)
        all_goals first
          | (refine hfin _ ?_ hlt
             (refine Zg [(100, 74)] rfl ?_ ?_ <;> repeat' (first|refine wkS ?_ ?_|exact wkE|exact Zaf rfl rfl|exact d_own (by simp only [List.length_cons, List.length_nil];omega))))
      · obtain rfl : k = s.ms.length := by omega
        clear hfin
        have hbe := bodM_end hF.gl
        have hobj : rowsI (ckB s) = rowsI (bodM s s.ms.length) ++ [.one (row false 1 (ints [4]))] := by rw [← hbe, rowsI_app]
        rw [hB, hobj]
        clear hobj hbe hB
        generalize rowsI (bodM s s.ms.length) = RR at *
        repeat' (first|refine wk ?_|((first|refine' w_e rfl ?xa ?xb ?xc ?xe ?_|refine' v_e rfl ?xa ?xb ?xc ?xe ?_);(case xa => first|exact Zj 76 rfl (Z0 [.const (.int .i64 4)] tlOk rfl rfl rfl rfl rfl rfl (allN_ints [4]) (by simp))|exact e_buildF 76 tlOk rfl rfl rfl rfl rfl rfl rfl rfl|exact Zj 78 rfl (Zah tlOk rfl rfl rfl rfl rfl rfl (Z8 (Zf rfl) rfl) hrl (by simp only [maxLen, List.length_append, List.length_cons, List.length_nil];omega) (by simp only [List.length_append, List.length_cons, List.length_nil];omega)));(case xb|xc|xe=>rfl);try refine wkD ?_)|(refine wkB ?_ ?_<;>intro hg_<;>try exact wkX)|fail)
        all_goals first
          | exact Zt rfl (Za7 (Zz (Zf rfl) (by simp)))
theorem f_ownRowsI (nil : Bool) (L : List (List Int)) (hl : L.length ≤ 1048576) (hL : ∀ b ∈ L, b.length ≤ 1048576) : Fn Try.prog 26 [.one (row nil 1 (rowsI L))] (.v (.one (row false 1 (rowsI L)))) := by
  have hlenL := Zag L
  refine Zy (l := [.tmp 2]) Try.func26 kRf rfl Try.ntmps26 rfl rfl ?_; simp only [argEnv, P0.d, Nat.reduceAdd]
  repeat' (first|refine wk ?_|((first|refine' w_e rfl ?xa ?xb ?xc ?xe ?_|refine' v_e rfl ?xa ?xb ?xc ?xe ?_);(case xa => exact Z0 [] tlOk rfl rfl rfl rfl rfl rfl (by simp [AllN]) (by simp));(case xb|xc|xe=>rfl);try refine wkD ?_)|(refine wkB ?_ ?_<;>intro hg_<;>try exact wkX)|fail)
  obtain ⟨F, hFs⟩ : ∃ F : Nat → St, ∀ k, F k = mkS 22 [(4, .one (.r true (int (k : Int)))), (3, .one (.own 100 0 k 1)), (0, .one (.r false (row nil 1 (rowsI L))))] [(100, .sl 24 1 true (rowsI (L.take k)))] := ⟨_, fun _ => rfl⟩
  refine Z7 (fun k : Nat => k ≤ L.length) F (fun k => L.length - k) 0 (Nat.zero_le _) (by rw [hFs];(refine Zg [(100, 5)] rfl ?_ ?_ <;>exact wkW)) ?_
  intro k hk
  have hfin : ∀ s' : St, Weak s' (F (k + 1)) → k < L.length → ∃ x' : Nat, x' ≤ L.length ∧ Weak s' (F x') ∧ L.length - x' < L.length - k := fun s' h hk => ⟨k + 1, by omega, h, by omega⟩
  rw [hFs] at hfin ⊢
  clear hFs
  have hrl : k = (rowsI (L.take k)).length := by rw [Zag]; simp; omega
  by_cases hlt : k < L.length
  · have hx := Za3 hlt
    have hobj : rowsI (L.take (k + 1)) = rowsI (L.take k) ++ [.one (row false 1 (ints L[k]))] := by rw [List.take_succ_eq_append_getElem hlt, rowsI_app]
    rw [hobj] at hfin
    have hb := hL L[k] (List.getElem_mem hlt)
    have hbl := Zp L[k]
    clear hobj hL
    generalize L[k] = b at *
    generalize rowsI (L.take k) = RR at *
    repeat' (first|refine wk ?_|((first|refine' w_q rfl rfl ?xa rfl ?_|refine' v_q rfl rfl ?xa rfl ?_|refine' Zh rfl rfl (Zb rfl) rfl ?xa rfl ?_|refine' Zi rfl rfl (Zb rfl) rfl ?xa rfl ?_);case xa => exact Zn tbOk rfl rfl rfl rfl oM hx)|((first|refine' w_e rfl ?xa ?xb ?xc ?xe ?_|refine' v_e rfl ?xa ?xb ?xc ?xe ?_);(case xa => first|exact Zj 13 rfl (Z0 [] tlOk rfl rfl rfl rfl rfl rfl (by simp [AllN]) (by simp))|exact Zj 18 rfl (Zah tlOk rfl rfl rfl rfl rfl rfl (Zaa slD_row (Zbt _)) rfl (by simp only [maxLen, List.length_nil];omega) (by simp only [List.length_nil];omega))|exact e_buildF 18 tlOk rfl rfl rfl rfl rfl rfl rfl (by simp only [List.length_append])|exact Zj 20 rfl (Zah tlOk rfl rfl rfl rfl rfl rfl (Z8 (Zf rfl) rfl) hrl (by simp only [maxLen, List.length_append, List.length_cons, List.length_nil];omega) (by simp only [List.length_append, List.length_cons, List.length_nil];omega)));(case xb|xc|xe=>rfl);try refine wkD ?_)|(refine wkB ?_ ?_<;>intro hg_<;>try exact wkX)|fail)
    all_goals first
      | (refine hfin _ ?_ hlt
         (refine Zg [(100, 20)] rfl ?_ ?_ <;> repeat' (first|refine wkS ?_ ?_|exact wkE|exact Zaf rfl rfl|exact d_own (by simp only [List.length_cons, List.length_nil];omega))))
  · obtain rfl : k = L.length := by omega
    clear hfin
    rw [List.take_of_length_le (Nat.le_refl _)] at hrl ⊢
    repeat' (first|refine wk ?_|(refine wkB ?_ ?_<;>intro hg_<;>try exact wkX)|fail)
    all_goals first
      | exact Zt rfl (Za7 (Zz (Zf rfl) hrl))
theorem pre_iff {α : Type} {W L : List α} {at_ : Nat} : W <+: L.drop at_ ↔ (∀ k,k < W.length → L[at_ + k]? = W[k]?) ∧ (W.length = 0 ∨ at_ + W.length ≤ L.length):=by
 constructor
 ·rintro ⟨t,ht⟩
  have hl:=congrArg List.length ht
  rw [List.length_append,List.length_drop] at hl
  refine ⟨fun k hk=>?_,by omega⟩
  have:=congrArg (fun l=>l[k]?) ht
  simp only [List.getElem?_drop] at this
  rw [← this,List.getElem?_append_left hk]
 ·rintro ⟨h1,h2⟩
  rw [List.prefix_iff_eq_take]
  apply List.ext_getElem?
  intro k
  by_cases hk : k < W.length
  ·rw [← h1 k hk,List.getElem?_take,if_pos hk,List.getElem?_drop]
  ·rw [List.getElem?_eq_none oM,List.getElem?_take,if_neg hk]
theorem f_l18Same (n1 n2 : Bool) (L W : List (List Int)) (at_ : Nat) (hl : L.length ≤ 1048576) (hw : W.length ≤ 1048576) (ha : at_ ≤ 1048576) (hL : ∀ b ∈ L, b.length ≤ 1048576) (hW0 : 0 < W.length) : Fn Try.prog 61 [.one (row n1 1 (rowsI L)), iP (at_ : Int), .one (row n2 1 (rowsI W))] (.v (.one (bool (decide (W <+: L.drop at_))))) := by
  have hlenL := Zag L
  have hlenW := Zag W
  have hno : ∀ k (h : k < W.length), L[at_ + k]? ≠ some W[k] → decide (W <+: L.drop at_) = false := fun k h hne => by
    rw [decide_eq_false_iff_not, pre_iff]
    exact fun hp => hne (by rw [hp.1 k h, List.getElem?_eq_getElem h])
  have hlo : L.length < at_ + W.length → decide (W <+: L.drop at_) = false := fun h => by
    rw [decide_eq_false_iff_not, pre_iff]
    rintro ⟨_, h2⟩
    omega
  have hyes : at_ + W.length ≤ L.length → (∀ k, k < W.length → L[at_ + k]? = W[k]?) → decide (W <+: L.drop at_) = true := fun h h2 => by
    rw [decide_eq_true_iff, pre_iff]
    exact ⟨h2, .inr h⟩
  generalize decide (W <+: L.drop at_) = q at *
  have hwl : IntKind.i64.wrap ((at_ : Int) + (W.length : Int)) = ((at_ + W.length : Nat) : Int) := by rw [IntWalk.i64_in _ oM]; omega
  rw [← hlenW, ← hlenL] at hlo
  rw [← hlenW] at hwl
  by_cases hbig : L.length < at_ + W.length
  · rw [← hlenW, ← hlenL] at hbig
    rw [hlo hbig]
    clear hno hyes hlo
    refine Zy (l := [.tmp 6]) Try.func61 kRf rfl Try.ntmps61 rfl rfl ?_; simp only [argEnv, P0.d, Nat.reduceAdd]
    repeat' (first|refine wk ?_|(refine wkB ?_ ?_<;>intro hg_<;>try exact wkX)|fail)
    all_goals first
      | exact Zt rfl (Zo rfl)
      | (exfalso; omega)
  · rw [← hlenW, ← hlenL] at hbig
    clear hlo
    refine Zy (l := [.tmp 6]) Try.func61 kRf rfl Try.ntmps61 rfl rfl ?_; simp only [argEnv, P0.d, Nat.reduceAdd]
    repeat' (first|refine wk ?_|(refine wkB ?_ ?_<;>intro hg_<;>try exact wkX)|fail)
    obtain ⟨F, hFs⟩ : ∃ F : Nat → St, ∀ k, F k = mkS 61 [(7, .one (.r true (int (k : Int)))), (2, .one (.r false (row n2 1 (rowsI W)))), (1, .one (.r false (int (at_ : Int)))), (0, .one (.r false (row n1 1 (rowsI L))))] [] := ⟨_, fun _ => rfl⟩
    refine Z7 (fun k : Nat => k ≤ W.length ∧ ∀ i, i < k → L[at_ + i]? = W[i]?) F (fun k => W.length - k) 0 ⟨Nat.zero_le _, fun i h => by omega⟩ (by rw [hFs];(refine Zg [] rfl ?_ ?_ <;>exact wkW)) ?_
    rintro k ⟨hk, HP⟩
    by_cases hlt : k < W.length
    · have hak : at_ + k < L.length := by omega
      have hfin : ∀ s' : St, Weak s' (F (k + 1)) → L[at_ + k] = W[k] → ∃ x' : Nat, (x' ≤ W.length ∧ ∀ i, i < x' → L[at_ + i]? = W[i]?) ∧ Weak s' (F x') ∧ W.length - x' < W.length - k := fun s' h he => ⟨k + 1, ⟨by omega, fun i hi => by
        by_cases hik : i = k
        · subst hik; rw [List.getElem?_eq_getElem hak, List.getElem?_eq_getElem hlt, he]
        · exact HP i oM⟩, h, by omega⟩
      have hnok : L[at_ + k] ≠ W[k] → q = false := fun hne => hno k hlt (by rw [List.getElem?_eq_getElem hak]; intro h; injection h with h; exact hne h)
      rw [hFs] at hfin ⊢
      clear hFs hno hyes HP
      have hxW := Za3 hlt
      have hxL := Za3 hak
      have hw1 : IntKind.i64.wrap ((at_ : Int) + (k : Int)) = ((at_ + k : Nat) : Int) := by rw [IntWalk.i64_in _ oM]; omega
      rw [← hw1] at hxL
      have h0 : 0 ≤ IntKind.i64.wrap ((at_ : Int) + (k : Int)) := by rw [hw1]; omega
      have hbl := hL L[at_ + k] (List.getElem_mem hak)
      have hla := Zp L[at_ + k]
      have hlb := Zp W[k]
      generalize L[at_ + k] = a at *
      generalize W[k] = b at *
      by_cases hab : a.length = b.length
      · repeat' (first|refine wk ?_|((first|refine' w_q rfl rfl ?xa rfl ?_|refine' v_q rfl rfl ?xa rfl ?_|refine' Zh rfl rfl (Zb rfl) rfl ?xa rfl ?_|refine' Zi rfl rfl (Zb rfl) rfl ?xa rfl ?_);case xa => exact Zn tbOk rfl rfl rfl rfl (by first|exact h0|omega) (by first|exact hxW|exact hxL))|(refine wkB ?_ ?_<;>intro hg_<;>try exact wkX)|fail)
        obtain ⟨G, hGs⟩ : ∃ G : Nat → St, ∀ j, G j = mkS 61 [(8, .one (.r true (int (j : Int)))), (7, .one (.r true (int (k : Int)))), (2, .one (.r false (row n2 1 (rowsI W)))), (1, .one (.r false (int (at_ : Int)))), (0, .one (.r false (row n1 1 (rowsI L))))] [] := ⟨_, fun _ => rfl⟩
        refine Z7 (fun j : Nat => j ≤ b.length ∧ ∀ i, i < j → a[i]? = b[i]?) G (fun j => b.length - j) 0 ⟨Nat.zero_le _, fun i h => by omega⟩ (by rw [hGs];(refine Zg [] rfl ?_ ?_ <;>exact wkW)) ?_
        rintro j ⟨hj, HJ⟩
        by_cases hjl : j < b.length
        · have hja : j < a.length := by omega
          have hfinJ : ∀ s' : St, Weak s' (G (j + 1)) → a[j] = b[j] → ∃ x' : Nat, (x' ≤ b.length ∧ ∀ i, i < x' → a[i]? = b[i]?) ∧ Weak s' (G x') ∧ b.length - x' < b.length - j := fun s' h he => ⟨j + 1, ⟨by omega, fun i hi => by
            by_cases hik : i = j
            · subst hik; rw [List.getElem?_eq_getElem hja, List.getElem?_eq_getElem hjl, he]
            · exact HJ i oM⟩, h, by omega⟩
          have hnoj : a[j] ≠ b[j] → q = false := fun hne => hnok fun e => hne (by subst e; rfl)
          rw [hGs] at hfinJ ⊢
          have hxa := ints_at hja
          have hxb := ints_at hjl
          clear hfin hGs HJ hnok
          generalize a[j] = x at *
          generalize b[j] = y at *
          repeat' (first|refine wk ?_|((first|refine' w_q rfl rfl ?xa rfl ?_|refine' v_q rfl rfl ?xa rfl ?_|refine' Zh rfl rfl (Zb rfl) rfl ?xa rfl ?_|refine' Zi rfl rfl (Zb rfl) rfl ?xa rfl ?_);case xa => exact Zn tbOk rfl rfl rfl rfl (by first|exact h0|omega) (by first|exact hxW|exact hxL|exact hxa|exact hxb))|(refine wkB ?_ ?_<;>intro hg_<;>try exact wkX)|fail)
          all_goals first
            | (rw [hnoj (by simp_all; done)]
               exact Zt rfl (Zo rfl))
            | (refine hfinJ _ ?_ (by simp_all; done)
               (refine Zg [] rfl ?_ ?_ <;>exact wkW))
        · rw [hGs]
          have he : a = b := List.ext_getElem? fun i => by
            by_cases hi : i < j
            · exact HJ i hi
            · rw [List.getElem?_eq_none oM, List.getElem?_eq_none oM]
          clear hGs HJ hnok
          have hjn : ¬ (j : Int) < ((ints b).length : Int) := by omega
          repeat' (first|refine wk ?_|((first|refine' w_q rfl rfl ?xa rfl ?_|refine' v_q rfl rfl ?xa rfl ?_|refine' Zh rfl rfl (Zb rfl) rfl ?xa rfl ?_|refine' Zi rfl rfl (Zb rfl) rfl ?xa rfl ?_);case xa => exact Zn tbOk rfl rfl rfl rfl (by first|exact h0|omega) (by first|exact hxW|exact hxL))|(refine wkB ?_ ?_<;>intro hg_<;>try exact wkX)|fail)
          all_goals first
            | (refine hfin _ ?_ he
               (refine Zg [] rfl ?_ ?_ <;>exact wkW))
            | (exfalso; omega)
      · repeat' (first|refine wk ?_|((first|refine' w_q rfl rfl ?xa rfl ?_|refine' v_q rfl rfl ?xa rfl ?_|refine' Zh rfl rfl (Zb rfl) rfl ?xa rfl ?_|refine' Zi rfl rfl (Zb rfl) rfl ?xa rfl ?_);case xa => exact Zn tbOk rfl rfl rfl rfl (by first|exact h0|omega) (by first|exact hxW|exact hxL))|(refine wkB ?_ ?_<;>intro hg_<;>try exact wkX)|fail)
        all_goals first
          | (rw [hnok (fun e => hab (by rw [e]))]
             exact Zt rfl (Zo rfl))
          | (exfalso; omega)
    · rw [hFs]
      obtain rfl : k = W.length := by omega
      have hq := hyes oM HP
      rw [hq]
      clear hFs hno hyes HP
      repeat' (first|refine wk ?_|(refine wkB ?_ ?_<;>intro hg_<;>try exact wkX)|fail)
      all_goals first
        | exact Zt rfl (Zo rfl)
end Go.Proofs.Ytmkijbfiilpccaa.Abs
