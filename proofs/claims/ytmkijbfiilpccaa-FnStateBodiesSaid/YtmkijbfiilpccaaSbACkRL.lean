/- Checkpoints by states: the reference's writers. No statement of the seat is proved here. -/
import Derived.Lib.Hide
import Derived.Test.YtmkijbfiilpccaaSbTy
import Derived.Test.YtmkijbfiilpccaaSbASpCD
import Derived.Test.YtmkijbfiilpccaaSbGStaCk
import Derived.Test.YtmkijbfiilpccaaSbASta
set_option linter.unusedSimpArgs false
set_option linter.unusedVariables false
set_option maxRecDepth 100000
set_option maxHeartbeats 8000000
namespace Go.Proofs.Ytmkijbfiilpccaa.Abs
open Go.RowKit
open R (val row ref)
theorem bools_plain (gs : List Bool) : ∀ e ∈ bools gs,plain1 e = true:=fun e he=>by
 unfold bools at he; rw [List.mem_map] at he; obtain ⟨b,_,rfl⟩:=he; rfl
theorem f_ownState (r : Int) (nv ng nm : Bool) (vs : List Int) (gs : List Bool) (ms : List E3) (hv : vs.length ≤ 1048576) (hg : gs.length ≤ 1048576) (hl : ms.length ≤ 1048576) : Fn Try.prog 45 [stateP r nv vs ng gs nm ms] (.v (stateP r false vs false gs false ms)):=by
 have hlenV:=Zu vs
 have hlenG:=Zaw gs
 have hlenM:=Zp ms
 refine Z7 (l:=[.cell 2 28]) Try.func45 kRf rfl Try.ntmps45 rfl rfl ?_; simp only [argEnv,P0.d,Nat.reduceAdd,stateP,List.map_cons,List.map_nil]
 repeat' (first|refine wk ?_|((first|refine' w_e rfl ?xa ?xb ?xc ?xe ?_|refine' v_e rfl ?xa ?xb ?xc ?xe ?_);(case xa=>first|exact Zk [] tlOk rfl rfl rfl rfl rfl rfl (by simp [AllN]) (by simp)|exact Zz tlOk rfl rfl rfl rfl rfl rfl (Z6 Za8 (by first|exact Zbv _|exact bools_plain _|exact Za9 _)) rfl (by simp only [maxLen,List.length_nil];omega) (by simp only [List.length_nil];omega));(case xb|xc|xe=>rfl);try refine wkD ?_)|(refine wkB ?_ ?_<;>intro hg_<;>try exact wkX)|fail)
 all_goals first
  | exact ret_v (rv_cell rfl rfl tyF0 rfl rfl rfl (dres_agg (by refine ⟨cres_val,?_,?_,?_,trivial⟩<;>exact Zae (Zl rfl) (by simp only [List.length_nil,Nat.zero_add,List.nil_append]))))
theorem f_l18Start (s : Sta) (nv ng nm : Bool) : FnO Try.prog 46 [stateP s.r nv s.vs ng s.gs nm s.ms] 3 1 (ints (rcH s)):=by
 obtain ⟨r,vs,gs,ms⟩:=s
 dsimp only
 have hlenV:=Zu vs
 have hlenM:=Zp ms
 have KA:=Zcd r
 have KB:=Zcd vs.length
 have KC:=Zcd ms.length
 have ha:=Zau r
 have hb:=Zau vs.length
 have hc:=Zau ms.length
 have e : ints (rcH ⟨r,vs,gs,ms⟩) = ints [1] ++ ints (enc r) ++ ints (enc vs.length) ++ ints (enc ms.length):=by
  unfold rcH ints; simp
 rw [e]
 clear e
 generalize enc r = ea at *
 generalize enc vs.length = eb at *
 generalize enc ms.length = ec at *
 rw [← hlenV] at KB
 rw [← hlenM] at KC
 have la:=Zu ea
 have lb:=Zu eb
 have lc:=Zu ec
 refine fn_ofO Try.func46 kRf rfl Try.ntmps46 rfl rfl ?_; simp only [argEnv,P0.d,Nat.reduceAdd,List.map_cons,List.map_nil,stateP]
 repeat' (first|refine wk ?_|((first|refine' w_e rfl ?xa ?xb ?xc ?xe ?_|refine' v_e rfl ?xa ?xb ?xc ?xe ?_);(case xa=>first|exact Za5 KA rfl rfl ⟨Zf (Za rfl),trivial⟩|exact Za5 KB rfl rfl ⟨Zf (Za rfl),trivial⟩|exact Za5 KC rfl rfl ⟨Zf (Za rfl),trivial⟩|exact Zk [.const (.int .i64 1)] tlOk rfl rfl rfl rfl rfl rfl (Za3 [1]) (by simp)|exact Zz tlOk rfl rfl rfl rfl rfl rfl (Z6 (Z4 (Zl rfl) rfl) (Zbv _)) (by first|rfl|(simp only [List.length_append];done)) (by simp only [maxLen,List.length_append,List.length_cons,List.length_nil];omega) (by (try simp only [List.length_append,List.length_cons,List.length_nil]);omega));(case xb|xc|xe=>rfl);try refine wkD ?_)|(refine wkB ?_ ?_<;>intro hg_<;>try exact wkX)|fail)
 all_goals first
  | exact Zb0 rfl rfl (by simp only [List.length_append]; rfl)
theorem rcV_app (v : Int) (g : Bool) : ints (rcV v g) = ints [2] ++ ints (enc (v + 1)) ++ ints [b01 g]:=by unfold rcV ints; simp
theorem rcM_app (m : E3) : ints (rcM m) = ints [3] ++ ints (edgeB m.1 m.2.1 m.2.2):=by unfold rcM ints; simp
def bodV (s : Sta) (k : Nat) : List (List Int):=rcH s :: List.zipWith rcV (s.vs.take k) (s.gs.take k)
def bodM (s : Sta) (k : Nat) : List (List Int):=bodV s s.vs.length ++ (s.ms.take k).map rcM
theorem bodV_succ {s : Sta} (h : s.gs.length = s.vs.length) {k : Nat} (hk : k < s.vs.length) : bodV s (k + 1) = bodV s k ++ [rcV s.vs[k] (s.gs[k]'oM)]:=by
 unfold bodV
 rw [List.take_succ_eq_append_getElem hk,List.take_succ_eq_append_getElem (by omega : k < s.gs.length),List.zipWith_append (by simp; omega)]
 rfl
theorem bodM_succ {s : Sta} {k : Nat} (hk : k < s.ms.length) : bodM s (k + 1) = bodM s k ++ [rcM s.ms[k]]:=by
 unfold bodM
 rw [List.take_succ_eq_append_getElem hk,List.map_append,List.append_assoc]
 rfl
theorem bodM_end {s : Sta} (h : s.gs.length = s.vs.length) : bodM s s.ms.length ++ [[4]] = ckB s:=by
 unfold bodM bodV ckB
 rw [List.take_of_length_le (Nat.le_refl _),List.take_of_length_le oM,List.take_of_length_le (Nat.le_refl _)]
 simp
theorem bodV_len {s : Sta} (h : s.gs.length = s.vs.length) {k : Nat} (hk : k ≤ s.vs.length) : (bodV s k).length = k + 1:=by
 unfold bodV; simp; omega
theorem bodM_len {s : Sta} (h : s.gs.length = s.vs.length) {k : Nat} (hk : k ≤ s.ms.length) : (bodM s k).length = s.vs.length + 1 + k:=by
 unfold bodM; rw [List.length_append,bodV_len h (Nat.le_refl _)]; simp; omega
theorem Zc5 (s : Sta) (nv ng nm : Bool) (hv : s.vs.length ≤ 1048576) (hg : s.gs.length ≤ 1048576) (hl : s.ms.length ≤ 1048576) : Fn Try.prog 18 [stateP s.r nv s.vs ng s.gs nm s.ms] (.v (.one (row false 1 (rowsI (if s.ok then ckB s else []))))) := by
  have K1 := f_ownState s.r nv ng nm s.vs s.gs s.ms hv hg hl
  have K2 := Zco s.vs.length s.r false false false s.vs s.gs s.ms (by simp only [maxLen]; omega) (by simp only [maxLen]; omega) (by simp only [maxLen]; omega)
  rw [show stOk s.vs.length s.r s.vs s.gs.length s.ms = s.ok from rfl] at K2
  have hlenV := Zu s.vs
  rw [← hlenV] at K2
  obtain ⟨B, hB⟩ : ∃ B, B = (if s.ok then ckB s else []) := ⟨_, rfl⟩
  rw [← hB]
  cases hok : s.ok
  · rw [hok, if_neg (by decide)] at hB
    subst hB
    rw [hok] at K2
    refine Z7 (l := [.tmp 2]) Try.func18 kRf rfl Try.ntmps18 rfl rfl ?_; simp only [argEnv, P0.d, Nat.reduceAdd, stateP, List.map_cons, List.map_nil]
    repeat' (first|refine wk ?_|((first|refine' w_q rfl rfl ?xa rfl ?_|refine' v_q rfl rfl ?xa rfl ?_|refine' Zn rfl rfl (Zb rfl) rfl ?xa rfl ?_|refine' Zo rfl rfl (Zb rfl) rfl ?xa rfl ?_);case xa => first|exact Zm K1 rfl ⟨Zq (Za rfl) ⟨Zd, Zd, Zd, Zd, trivial⟩, trivial⟩|exact Zm K2 rfl ⟨Zq (Za rfl) ⟨Zd, Zd, Zd, Zd, trivial⟩, Zf (Za rfl), trivial⟩)|((first|refine' w_e rfl ?xa ?xb ?xc ?xe ?_|refine' v_e rfl ?xa ?xb ?xc ?xe ?_);(case xa => exact Zk [] tlOk rfl rfl rfl rfl rfl rfl (by simp [AllN]) (by simp));(case xb|xc|xe=>rfl);try refine wkD ?_)|(refine wkB ?_ ?_<;>intro hg_<;>try exact wkX)|fail)
    all_goals first
      | exact Zab rfl (Z5 (Zae (Zl rfl) rfl))
  · have hF := Sta.okF hok
    rw [hok, if_pos rfl] at hB
    rw [hok] at K2
    have KH := f_l18Start s false false false
    refine Z7 (l := [.tmp 2]) Try.func18 kRf rfl Try.ntmps18 rfl rfl ?_; simp only [argEnv, P0.d, Nat.reduceAdd, stateP, List.map_cons, List.map_nil]
    repeat' (first|refine wk ?_|((first|refine' w_q rfl rfl ?xa rfl ?_|refine' v_q rfl rfl ?xa rfl ?_|refine' Zn rfl rfl (Zb rfl) rfl ?xa rfl ?_|refine' Zo rfl rfl (Zb rfl) rfl ?xa rfl ?_);case xa => first|exact Zm K1 rfl ⟨Zq (Za rfl) ⟨Zd, Zd, Zd, Zd, trivial⟩, trivial⟩|exact Zm K2 rfl ⟨Zq (Za rfl) ⟨Zd, Zd, Zd, Zd, trivial⟩, Zf (Za rfl), trivial⟩)|((first|refine' w_e rfl ?xa ?xb ?xc ?xe ?_|refine' v_e rfl ?xa ?xb ?xc ?xe ?_);(case xa => first|exact Za5 KH rfl rfl ⟨Zq (Za rfl) ⟨Zd, Zd, Zd, Zd, trivial⟩, trivial⟩|exact Zk [] tlOk rfl rfl rfl rfl rfl rfl (by simp [AllN]) (by simp)|exact e_buildF 20 tlOk rfl rfl rfl rfl rfl rfl rfl rfl|exact Zz tlOk rfl rfl rfl rfl rfl rfl (Z4 (Zl rfl) rfl) rfl (by simp [maxLen]) (by simp));(case xb|xc|xe=>rfl);try refine wkD ?_)|(refine wkB ?_ ?_<;>intro hg_<;>try exact wkX)|fail)
    clear K1 K2 KH
    have hgl := hF.gl
    have hml := hF.many
    have hmm := hF.ml
    have hlenG := Zaw s.gs
    have hlenM := Zp s.ms
    obtain ⟨F, hFs⟩ : ∃ F : Nat → St, ∀ k, F k = mkS 79 [(4, .one (.r true (int (k : Int)))), (3, .one (.own 100 0 (k + 1) 1)), (1, .one (.ptr 1 0 0 0))] [(100, .sl 24 1 true (rowsI (bodV s k))), (1, .var 28 [.r true (int s.r), .r true (row false 1 (ints s.vs)), .r true (row false 1 (bools s.gs)), .r true (row false 3 (edges s.ms))])] := ⟨_, fun _ => rfl⟩
    refine Z8 (fun k : Nat => k ≤ s.vs.length) F (fun k => s.vs.length - k) 0 (Nat.zero_le _) (by rw [hFs];(refine Zi [(100, 22)] rfl ?_ ?_ <;>exact wkW)) ?_
    intro k hk
    have hfin : ∀ s' : St, Weak s' (F (k + 1)) → k < s.vs.length → ∃ x' : Nat, x' ≤ s.vs.length ∧ Weak s' (F x') ∧ s.vs.length - x' < s.vs.length - k := fun s' h hk => ⟨k + 1, by omega, h, by omega⟩
    rw [hFs] at hfin ⊢
    clear hFs
    have hbl := bodV_len hF.gl hk
    have hrl : k + 1 = (rowsI (bodV s k)).length := by rw [Za0, hbl]
    by_cases hlt : k < s.vs.length
    · have hlg : k < s.gs.length := by omega
      have hsucc := bodV_succ hF.gl hlt
      have hvk := hF.vin s.vs[k] (List.getElem_mem hlt)
      have KE := Zcd (s.vs[k] + 1)
      have hw : IntKind.i64.wrap (s.vs[k] + 1) = s.vs[k] + 1 := IntWalk.i64_in _ oM
      rw [← hw] at KE
      have hel := Zau (s.vs[k] + 1)
      have hxv := ints_at hlt
      have hxg := bools_at hlg
      have hobj : rowsI (bodV s (k + 1)) = rowsI (bodV s k) ++ [.one (row false 1 (ints [2] ++ ints (enc (s.vs[k] + 1)) ++ ints [b01 s.gs[k]]))] := by
        rw [hsucc, rowsI_app, ← rcV_app]
      rw [hobj] at hfin
      rw [hw] at KE
      generalize enc (s.vs[k] + 1) = en at *
      rw [← hw] at KE
      clear hobj hsucc hvk hw
      have hlen := Zu en
      generalize rowsI (bodV s k) = RR at *
      generalize s.gs[k] = g at *
      generalize s.vs[k] = v at *
      cases g
      all_goals
        repeat' (first|refine wk ?_|((first|refine' w_q rfl rfl ?xa rfl ?_|refine' v_q rfl rfl ?xa rfl ?_|refine' Zn rfl rfl (Zb rfl) rfl ?xa rfl ?_|refine' Zo rfl rfl (Zb rfl) rfl ?xa rfl ?_);case xa => exact Z0 tbOk rfl rfl rfl rfl oM (by first|exact hxv|exact hxg))|((first|refine' w_e rfl ?xa ?xb ?xc ?xe ?_|refine' v_e rfl ?xa ?xb ?xc ?xe ?_);(case xa => first|exact Za5 KE rfl rfl ⟨Zf (Za rfl), trivial⟩|exact Ze 36 rfl (Zk [.const (.int .i64 2)] tlOk rfl rfl rfl rfl rfl rfl (Za3 [2]) (by simp))|exact Zk [.tmp 45] tlOk rfl rfl rfl rfl rfl rfl (Zy rfl) (by simp)|exact e_buildF 47 tlOk rfl rfl rfl rfl rfl rfl rfl (by simp only [List.length_append])|exact Ze 44 rfl (Zz tlOk rfl rfl rfl rfl rfl rfl (Z6 (Z4 (Zl rfl) rfl) (Zbv _)) rfl (by simp only [maxLen, List.length_cons, List.length_nil];omega) (by simp only [List.length_cons, List.length_nil];omega))|exact Ze 47 rfl (Zz tlOk rfl rfl rfl rfl rfl rfl (Z6 (Z4 (Zl rfl) rfl) (by simp [plain1, iP])) (by simp only [List.length_append]) (by simp only [maxLen, List.length_append, List.length_cons, List.length_nil];omega) (by simp only [List.length_append, List.length_cons, List.length_nil];omega))|exact Ze 49 rfl (Zz tlOk rfl rfl rfl rfl rfl rfl (Z4 (Zl rfl) rfl) hrl (by simp only [maxLen, List.length_append, List.length_cons, List.length_nil];omega) (by simp only [List.length_append, List.length_cons, List.length_nil];omega)));(case xb|xc|xe=>rfl);try refine wkD ?_)|(refine wkB ?_ ?_<;>intro hg_<;>try exact wkX)|fail)
        all_goals first
          | (refine hfin _ ?_ hlt
             (refine Zi [(100, 49)] rfl ?_ ?_ <;> repeat' (first|refine wkS ?_ ?_|exact wkE|exact Zw rfl rfl|exact d_own (by simp only [List.length_cons, List.length_nil];omega))))
    · obtain rfl : k = s.vs.length := by omega
      clear hfin
      repeat' (first|refine wk ?_|(refine wkB ?_ ?_<;>intro hg_<;>try exact wkX)|fail)
      obtain ⟨G, hGs⟩ : ∃ G : Nat → St, ∀ k, G k = mkS 79 [(6, .one (.r true (int (k : Int)))), (3, .one (.own 100 0 (s.vs.length + 1 + k) 1)), (1, .one (.ptr 1 0 0 0))] [(100, .sl 24 1 true (rowsI (bodM s k))), (1, .var 28 [.r true (int s.r), .r true (row false 1 (ints s.vs)), .r true (row false 1 (bools s.gs)), .r true (row false 3 (edges s.ms))])] := ⟨_, fun _ => rfl⟩
      refine Z8 (fun k : Nat => k ≤ s.ms.length) G (fun k => s.ms.length - k) 0 (Nat.zero_le _) (by rw [hGs];(refine Zi [] rfl ?_ ?_ <;> repeat' (first|refine wkS ?_ ?_|exact wkE|exact Zw rfl (by simp [bodM])))) ?_
      intro k hk
      have hfin : ∀ s' : St, Weak s' (G (k + 1)) → k < s.ms.length → ∃ x' : Nat, x' ≤ s.ms.length ∧ Weak s' (G x') ∧ s.ms.length - x' < s.ms.length - k := fun s' h hk => ⟨k + 1, by omega, h, by omega⟩
      rw [hGs] at hfin ⊢
      clear hGs hrl hbl
      have hbl := bodM_len hF.gl hk
      have hrl : s.vs.length + 1 + k = (rowsI (bodM s k)).length := by rw [Za0, hbl]
      by_cases hlt : k < s.ms.length
      · have hsucc := bodM_succ hlt
        have KE := f_specEdgeBody s.ms[k]
        have hel := edgeB_len s.ms[k].1 s.ms[k].2.1 s.ms[k].2.2
        have hxm := Zbk hlt
        have hobj : rowsI (bodM s (k + 1)) = rowsI (bodM s k) ++ [.one (row false 1 (ints [3] ++ ints (edgeB s.ms[k].1 s.ms[k].2.1 s.ms[k].2.2)))] := by
          rw [hsucc, rowsI_app, ← rcM_app]
        rw [hobj] at hfin
        clear hobj hsucc
        generalize edgeB s.ms[k].1 s.ms[k].2.1 s.ms[k].2.2 = en at *
        have hlen := Zu en
        generalize rowsI (bodM s k) = RR at *
        generalize s.ms[k] = m at *
        obtain ⟨m1, m2, m3⟩ := m
        repeat' (first|refine wk ?_|((first|refine' w_q rfl rfl ?xa rfl ?_|refine' v_q rfl rfl ?xa rfl ?_|refine' Zn rfl rfl (Zb rfl) rfl ?xa rfl ?_|refine' Zo rfl rfl (Zb rfl) rfl ?xa rfl ?_);case xa => exact Z0 tbOk rfl rfl rfl rfl oM hxm)|((first|refine' w_e rfl ?xa ?xb ?xc ?xe ?_|refine' v_e rfl ?xa ?xb ?xc ?xe ?_);(case xa => first|exact Za5 KE rfl rfl ⟨Zq (Za rfl) ⟨Zd, Zd, Zd, trivial⟩, trivial⟩|exact Ze 63 rfl (Zk [.const (.int .i64 3)] tlOk rfl rfl rfl rfl rfl rfl (Za3 [3]) (by simp))|exact e_buildF 72 tlOk rfl rfl rfl rfl rfl rfl rfl (by simp only [List.length_append])|exact Ze 72 rfl (Zz tlOk rfl rfl rfl rfl rfl rfl (Z6 (Z4 (Zl rfl) rfl) (Zbv _)) rfl (by simp only [maxLen, List.length_cons, List.length_nil];omega) (by simp only [List.length_cons, List.length_nil];omega))|exact Ze 74 rfl (Zz tlOk rfl rfl rfl rfl rfl rfl (Z4 (Zl rfl) rfl) hrl (by simp only [maxLen, List.length_append, List.length_cons, List.length_nil];omega) (by simp only [List.length_append, List.length_cons, List.length_nil];omega)));(case xb|xc|xe=>rfl);try refine wkD ?_)|(refine wkB ?_ ?_<;>intro hg_<;>try exact wkX)|fail)
        all_goals first
          | (refine hfin _ ?_ hlt
             (refine Zi [(100, 74)] rfl ?_ ?_ <;> repeat' (first|refine wkS ?_ ?_|exact wkE|exact Zw rfl rfl|exact d_own (by simp only [List.length_cons, List.length_nil];omega))))
      · obtain rfl : k = s.ms.length := by omega
        clear hfin
        have hbe := bodM_end hF.gl
        have hobj : rowsI (ckB s) = rowsI (bodM s s.ms.length) ++ [.one (row false 1 (ints [4]))] := by rw [← hbe, rowsI_app]
        rw [hB, hobj]
        clear hobj hbe hB
        generalize rowsI (bodM s s.ms.length) = RR at *
        repeat' (first|refine wk ?_|((first|refine' w_e rfl ?xa ?xb ?xc ?xe ?_|refine' v_e rfl ?xa ?xb ?xc ?xe ?_);(case xa => first|exact Ze 76 rfl (Zk [.const (.int .i64 4)] tlOk rfl rfl rfl rfl rfl rfl (Za3 [4]) (by simp))|exact e_buildF 76 tlOk rfl rfl rfl rfl rfl rfl rfl rfl|exact Ze 78 rfl (Zz tlOk rfl rfl rfl rfl rfl rfl (Z4 (Zl rfl) rfl) hrl (by simp only [maxLen, List.length_append, List.length_cons, List.length_nil];omega) (by simp only [List.length_append, List.length_cons, List.length_nil];omega)));(case xb|xc|xe=>rfl);try refine wkD ?_)|(refine wkB ?_ ?_<;>intro hg_<;>try exact wkX)|fail)
        all_goals first
          | exact Zab rfl (Z5 (Zae (Zl rfl) (by simp)))
end Go.Proofs.Ytmkijbfiilpccaa.Abs
set_option linter.unusedSimpArgs false
set_option linter.unusedVariables false
namespace Go.Proofs.Ytmkijbfiilpccaa.Abs
open Go.RowKit
open R (val row ref)
theorem cown {k n m sz : Nat} (h : n = m) : Cell.own k 0 n sz = .own k 0 m sz:=by rw [h]
theorem var4 {E : TypeId} {a b c d a' b' c' d' : Cell} (h1 : a = a') (h2 : b = b') (h3 : c = c') (h4 : d = d') : Ob.var E [a,b,c,d] = .var E [a',b',c',d']:=by rw [h1,h2,h3,h4]
end Go.Proofs.Ytmkijbfiilpccaa.Abs
