/- Reading a checkpoint as the reference does: plain data. No statement of the seat is proved here. -/
import Derived.Lib.Hide
import Derived.Test.YtmkijbfiilpccaaLaTy
import Derived.Test.YtmkijbfiilpccaaLaASpCD
import Derived.Test.YtmkijbfiilpccaaLaGStaCk
import Derived.Test.YtmkijbfiilpccaaLaASta
set_option linter.unusedSimpArgs false
set_option linter.unusedVariables false
set_option maxRecDepth 100000
set_option maxHeartbeats 16000000
namespace Go.Proofs.Ytmkijbfiilpccaa.Abs
open Go.RowKit
open R (val row ref)
theorem decForm (d : Option (Int × Int)) : ∃ n i t,decRes d = .tup [iP n,iP i,.one (bool t)] ∧ d = (if t then some (n,i) else none) ∧ (t = false → n = 0 ∧ i = 0):=by
 cases d with
 | none=>exact ⟨0,0,false,rfl,rfl,fun _=>⟨rfl,rfl⟩⟩
 | some p=>exact ⟨p.1,p.2,true,rfl,rfl,fun h=>by cases h⟩
theorem edgeForm (d : Option (Int × Int × Int)) : ∃ (e : E3) (t : Bool),edgeRes d = .tup [edgeP e,.one (bool t)] ∧ d = (if t then some e else none):=by
 cases d with
 | none=>exact ⟨(0,0,0),false,rfl,rfl⟩
 | some p=>exact ⟨p,true,rfl,rfl⟩
theorem decForm_at {b : List Int} {i n j : Int} {t : Bool} (h : decAt b i = (if t then some (n,j) else none)) (ht : t = true) : 0 ≤ n ∧ n ≤ 1000000 ∧ 0 < j ∧ j ≤ b.length:=by
 rw [ht,if_pos rfl] at h
 obtain ⟨h1,h2,h3,h4,h5⟩:=decAt_canon2 h
 simp only [fits,decide_eq_true_eq] at h5
 omega
def rdLoop (D : List (List Int)) (many : Nat) : Nat → Nat → Sta → Sta × Bool
 | 0,_,x=>(x,true)
 | f + 1,k,x =>
  if k < many then
   match rcdV (D.getD (k + 1) []) with
   | some (v,g)=>rdLoop D many f (k + 1) ⟨x.r,x.vs ++ [v],x.gs ++ [g],x.ms⟩
   | none=>(x,false)
  else
   match readE ((D.getD (k + 1) []).drop 1) with
   | some e=>rdLoop D many f (k + 1) ⟨x.r,x.vs,x.gs,x.ms ++ [e]⟩
   | none=>(x,false)
def wantB (x : Sta) : List (List Int):=if x.ok then ckB x else []
open Classical in
noncomputable def rdFin (D : List (List Int)) (R : Sta × Bool) : Sta × Int × Bool :=
 if R.2 then (R.1,((wantB R.1).length : Int),R.1.ok && decide (ckB R.1 <+: D)) else (R.1,0,false)
def zSta : Sta:=⟨0,[],[],[]⟩
noncomputable def rdRes (D : List (List Int)) : Sta × Int × Bool :=
 match D with
 | []=>(zSta,0,false)
 | h :: t=>match rcdH h with
  | some (r,m,w)=>if m ≤ 16 ∧ w ≤ 2000 ∧ m + w + 1 < ((h :: t).length : Int) then rdFin (h :: t) (rdLoop (h :: t) m.toNat (m.toNat + w.toNat) 0 ⟨r,[],[],[]⟩) else (zSta,0,false)
  | none=>(zSta,0,false)
theorem rdLoop_ck {D : List (List Int)} {s : Sta} (h : Ck D s) : ∀ f k,k + f = s.vs.length + s.ms.length → rdLoop D s.vs.length f k ⟨s.r,s.vs.take k,s.gs.take k,s.ms.take (k - s.vs.length)⟩ = (s,true)
 | 0,k,hk=>by
  have hg:=(Sta.okF h.1).gl
  unfold rdLoop
  rw [List.take_of_length_le oM,List.take_of_length_le oM,List.take_of_length_le oM]
 | f + 1,k,hk=>by
  have hg:=(Sta.okF h.1).gl
  unfold rdLoop
  by_cases hlt : k < s.vs.length
  ·rw [if_pos hlt]
   obtain ⟨b,g,e1,e2,e3⟩:=h.val hlt
   have hb : D.getD (k + 1) [] = b:=by rw [List.getD_eq_getElem?_getD,Nat.add_comm,e1]; rfl
   rw [hb,e3]
   have hgk : s.gs[k]'oM = g:=by rw [List.getElem?_eq_getElem oM] at e2; injection e2
   have ih:=rdLoop_ck h f (k + 1) oM
   rw [List.take_succ_eq_append_getElem hlt,List.take_succ_eq_append_getElem (by omega : k < s.gs.length),hgk,show k + 1 - s.vs.length = k - s.vs.length by omega] at ih
   exact ih
  ·rw [if_neg hlt]
   have hj : k - s.vs.length < s.ms.length:=by omega
   obtain ⟨b,e1,e2⟩:=h.msg hj
   have hb : D.getD (k + 1) [] = b:=by rw [List.getD_eq_getElem?_getD,show k + 1 = 1 + s.vs.length + (k - s.vs.length) by omega,e1]; rfl
   rw [hb,e2]
   have ih:=rdLoop_ck h f (k + 1) oM
   rw [show k + 1 - s.vs.length = (k - s.vs.length) + 1 by omega,List.take_succ_eq_append_getElem hj,List.take_of_length_le (by omega : s.vs.length ≤ k + 1),List.take_of_length_le (by omega : s.gs.length ≤ k + 1)] at ih
   rw [List.take_of_length_le (by omega : s.vs.length ≤ k),List.take_of_length_le (by omega : s.gs.length ≤ k)]
   exact ih
theorem rdRes_ck {D : List (List Int)} {s : Sta} (h : Ck D s) : (rdRes D).1 = s ∧ (rdRes D).2.2 = true:=by
 obtain ⟨b,e1,e2⟩:=h.head
 have hF:=Sta.okF h.1
 have hl:=h.len
 have h1:=hF.many
 have h2:=hF.ml
 have hL:=rdLoop_ck h (s.vs.length + s.ms.length) 0 oM
 simp only [List.take_zero,Nat.zero_sub] at hL
 match D,e1 with
 | hd :: t,e1 =>
  simp only [List.getElem?_cons_zero,Option.some.injEq] at e1
  subst e1
  simp only [rdRes,e2]
  rw [if_pos ⟨by omega,by omega,by omega⟩,Int.toNat_natCast,Int.toNat_natCast,hL]
  unfold rdFin
  have hp : ckB s <+: hd :: t:=h.2
  simp [h.1,hp]
theorem rdRes_only {D : List (List Int)} (h : (rdRes D).2.2 = true) : Ck D (rdRes D).1:=by
 cases D with
 | nil=>cases h
 | cons hd t =>
  cases he : rcdH hd with
  | none =>
   simp only [rdRes,he] at h
   cases h
  | some p =>
   obtain ⟨r,m,w⟩:=p
   simp only [rdRes,he] at h ⊢
   split at h
   ·rename_i hc
    rw [if_pos hc]
    unfold rdFin at h ⊢
    split at h
    ·rename_i hr
     rw [if_pos hr]
     simp only [Bool.and_eq_true,decide_eq_true_eq] at h
     exact ⟨h.1,h.2⟩
    ·cases h
   ·cases h
theorem rdRes_some {D : List (List Int)} (h : (rdRes D).2.2 = true) : ckAt D = some (rdRes D).1:=ckAt_some (rdRes_only h)
theorem rdRes_none {D : List (List Int)} (h : (rdRes D).2.2 = false) : ckAt D = none:=Zcm fun s hs=>by
 rw [(rdRes_ck hs).2] at h; cases h
end Go.Proofs.Ytmkijbfiilpccaa.Abs
set_option linter.unusedSimpArgs false
set_option linter.unusedVariables false
namespace Go.Proofs.Ytmkijbfiilpccaa.Abs
open Go.RowKit
open R (val row ref)
theorem bools_plain (gs : List Bool) : ∀ e ∈ bools gs,plain1 e = true:=fun e he=>by
 unfold bools at he; rw [List.mem_map] at he; obtain ⟨b,_,rfl⟩:=he; rfl
theorem f_ownState (r : Int) (nv ng nm : Bool) (vs : List Int) (gs : List Bool) (ms : List E3) (hv : vs.length ≤ 1048576) (hg : gs.length ≤ 1048576) (hl : ms.length ≤ 1048576) : Fn Try.prog 45 [stateP r nv vs ng gs nm ms] (.v (stateP r false vs false gs false ms)):=by
 have hlenV:=Zu vs
 have hlenG:=Zah gs
 have hlenM:=Zp ms
 refine Z8 (l:=[.cell 2 28]) Try.func45 kRf rfl Try.ntmps45 rfl rfl ?_; simp only [argEnv,P0.d,Nat.reduceAdd,stateP,List.map_cons,List.map_nil]
 repeat' (first|refine wk ?_|((first|refine' w_e rfl ?xa ?xb ?xc ?xe ?_|refine' v_e rfl ?xa ?xb ?xc ?xe ?_);(case xa=>first|exact Zl [] tlOk rfl rfl rfl rfl rfl rfl (by simp [AllN]) (by simp)|exact Zw tlOk rfl rfl rfl rfl rfl rfl (Z6 Za2 (by first|exact Zbx _|exact bools_plain _|exact Zbg _)) rfl (by simp only [maxLen,List.length_nil];omega) (by simp only [List.length_nil];omega));(case xb|xc|xe=>rfl);try refine wkD ?_)|(refine wkB ?_ ?_<;>intro hg_<;>try exact wkX)|fail)
 all_goals first
  | exact ret_v (Za8 rfl rfl tyF0 rfl rfl rfl (Za7 (by refine ⟨Za5,?_,?_,?_,trivial⟩<;>exact Z5 (Zj rfl) (by simp only [List.length_nil,Nat.zero_add,List.nil_append]))))
theorem f_l18Start (s : Sta) (nv ng nm : Bool) : FnO Try.prog 46 [stateP s.r nv s.vs ng s.gs nm s.ms] 3 1 (ints (rcH s)):=by
 obtain ⟨r,vs,gs,ms⟩:=s
 dsimp only
 have hlenV:=Zu vs
 have hlenM:=Zp ms
 have KA:=Zcn r
 have KB:=Zcn vs.length
 have KC:=Zcn ms.length
 have ha:=Za0 r
 have hb:=Za0 vs.length
 have hc:=Za0 ms.length
 have e : ints (rcH ⟨r,vs,gs,ms⟩) = ints [1] ++ ints (enc r) ++ ints (enc vs.length) ++ ints (enc ms.length):=by
  unfold rcH ints; simp
 rw [e]
 clear e
 generalize enc r = ea at *
 generalize enc vs.length = eb at *
 generalize enc ms.length = ec at *
 rw [← hlenV] at KB
 rw [← hlenM] at KC
 have la:=Zu ea
 have lb:=Zu eb
 have lc:=Zu ec
 refine fn_ofO Try.func46 kRf rfl Try.ntmps46 rfl rfl ?_; simp only [argEnv,P0.d,Nat.reduceAdd,List.map_cons,List.map_nil,stateP]
 repeat' (first|refine wk ?_|((first|refine' w_e rfl ?xa ?xb ?xc ?xe ?_|refine' v_e rfl ?xa ?xb ?xc ?xe ?_);(case xa=>first|exact Zbe KA rfl rfl ⟨Zf (Za rfl),trivial⟩|exact Zbe KB rfl rfl ⟨Zf (Za rfl),trivial⟩|exact Zbe KC rfl rfl ⟨Zf (Za rfl),trivial⟩|exact Zl [.const (.int .i64 1)] tlOk rfl rfl rfl rfl rfl rfl (Za4 [1]) (by simp)|exact Zw tlOk rfl rfl rfl rfl rfl rfl (Z6 (Z0 (Zj rfl) rfl) (Zbx _)) (by first|rfl|(simp only [List.length_append];done)) (by simp only [maxLen,List.length_append,List.length_cons,List.length_nil];omega) (by (try simp only [List.length_append,List.length_cons,List.length_nil]);omega));(case xb|xc|xe=>rfl);try refine wkD ?_)|(refine wkB ?_ ?_<;>intro hg_<;>try exact wkX)|fail)
 all_goals first
  | exact Zb8 rfl rfl (by simp only [List.length_append]; rfl)
theorem rcV_app (v : Int) (g : Bool) : ints (rcV v g) = ints [2] ++ ints (enc (v + 1)) ++ ints [b01 g]:=by unfold rcV ints; simp
theorem rcM_app (m : E3) : ints (rcM m) = ints [3] ++ ints (edgeB m.1 m.2.1 m.2.2):=by unfold rcM ints; simp
def bodV (s : Sta) (k : Nat) : List (List Int):=rcH s :: List.zipWith rcV (s.vs.take k) (s.gs.take k)
def bodM (s : Sta) (k : Nat) : List (List Int):=bodV s s.vs.length ++ (s.ms.take k).map rcM
theorem bodV_succ {s : Sta} (h : s.gs.length = s.vs.length) {k : Nat} (hk : k < s.vs.length) : bodV s (k + 1) = bodV s k ++ [rcV s.vs[k] (s.gs[k]'oM)]:=by
 unfold bodV
 rw [List.take_succ_eq_append_getElem hk,List.take_succ_eq_append_getElem (by omega : k < s.gs.length),List.zipWith_append (by simp; omega)]
 rfl
theorem bodM_succ {s : Sta} {k : Nat} (hk : k < s.ms.length) : bodM s (k + 1) = bodM s k ++ [rcM s.ms[k]]:=by
 unfold bodM
 rw [List.take_succ_eq_append_getElem hk,List.map_append,List.append_assoc]
 rfl
theorem bodM_end {s : Sta} (h : s.gs.length = s.vs.length) : bodM s s.ms.length ++ [[4]] = ckB s:=by
 unfold bodM bodV ckB
 rw [List.take_of_length_le (Nat.le_refl _),List.take_of_length_le oM,List.take_of_length_le (Nat.le_refl _)]
 simp
theorem bodV_len {s : Sta} (h : s.gs.length = s.vs.length) {k : Nat} (hk : k ≤ s.vs.length) : (bodV s k).length = k + 1:=by
 unfold bodV; simp; omega
theorem bodM_len {s : Sta} (h : s.gs.length = s.vs.length) {k : Nat} (hk : k ≤ s.ms.length) : (bodM s k).length = s.vs.length + 1 + k:=by
 unfold bodM; rw [List.length_append,bodV_len h (Nat.le_refl _)]; simp; omega
theorem Zc1 (s : Sta) (nv ng nm : Bool) (hv : s.vs.length ≤ 1048576) (hg : s.gs.length ≤ 1048576) (hl : s.ms.length ≤ 1048576) : Fn Try.prog 18 [stateP s.r nv s.vs ng s.gs nm s.ms] (.v (.one (row false 1 (rowsI (if s.ok then ckB s else []))))) := by
  have K1 := f_ownState s.r nv ng nm s.vs s.gs s.ms hv hg hl
  have K2 := Zc8 s.vs.length s.r false false false s.vs s.gs s.ms (by simp only [maxLen]; omega) (by simp only [maxLen]; omega) (by simp only [maxLen]; omega)
  rw [show stOk s.vs.length s.r s.vs s.gs.length s.ms = s.ok from rfl] at K2
  have hlenV := Zu s.vs
  rw [← hlenV] at K2
  obtain ⟨B, hB⟩ : ∃ B, B = (if s.ok then ckB s else []) := ⟨_, rfl⟩
  rw [← hB]
  cases hok : s.ok
  · rw [hok, if_neg (by decide)] at hB
    subst hB
    rw [hok] at K2
    refine Z8 (l := [.tmp 2]) Try.func18 kRf rfl Try.ntmps18 rfl rfl ?_; simp only [argEnv, P0.d, Nat.reduceAdd, stateP, List.map_cons, List.map_nil]
    repeat' (first|refine wk ?_|((first|refine' w_q rfl rfl ?xa rfl ?_|refine' v_q rfl rfl ?xa rfl ?_|refine' Zn rfl rfl (Zb rfl) rfl ?xa rfl ?_|refine' Zo rfl rfl (Zb rfl) rfl ?xa rfl ?_);case xa => first|exact Zm K1 rfl ⟨Zq (Za rfl) ⟨Zd, Zd, Zd, Zd, trivial⟩, trivial⟩|exact Zm K2 rfl ⟨Zq (Za rfl) ⟨Zd, Zd, Zd, Zd, trivial⟩, Zf (Za rfl), trivial⟩)|((first|refine' w_e rfl ?xa ?xb ?xc ?xe ?_|refine' v_e rfl ?xa ?xb ?xc ?xe ?_);(case xa => exact Zl [] tlOk rfl rfl rfl rfl rfl rfl (by simp [AllN]) (by simp));(case xb|xc|xe=>rfl);try refine wkD ?_)|(refine wkB ?_ ?_<;>intro hg_<;>try exact wkX)|fail)
    all_goals first
      | exact Zab rfl (Z7 (Z5 (Zj rfl) rfl))
  · have hF := Sta.okF hok
    rw [hok, if_pos rfl] at hB
    rw [hok] at K2
    have KH := f_l18Start s false false false
    refine Z8 (l := [.tmp 2]) Try.func18 kRf rfl Try.ntmps18 rfl rfl ?_; simp only [argEnv, P0.d, Nat.reduceAdd, stateP, List.map_cons, List.map_nil]
    repeat' (first|refine wk ?_|((first|refine' w_q rfl rfl ?xa rfl ?_|refine' v_q rfl rfl ?xa rfl ?_|refine' Zn rfl rfl (Zb rfl) rfl ?xa rfl ?_|refine' Zo rfl rfl (Zb rfl) rfl ?xa rfl ?_);case xa => first|exact Zm K1 rfl ⟨Zq (Za rfl) ⟨Zd, Zd, Zd, Zd, trivial⟩, trivial⟩|exact Zm K2 rfl ⟨Zq (Za rfl) ⟨Zd, Zd, Zd, Zd, trivial⟩, Zf (Za rfl), trivial⟩)|((first|refine' w_e rfl ?xa ?xb ?xc ?xe ?_|refine' v_e rfl ?xa ?xb ?xc ?xe ?_);(case xa => first|exact Zbe KH rfl rfl ⟨Zq (Za rfl) ⟨Zd, Zd, Zd, Zd, trivial⟩, trivial⟩|exact Zl [] tlOk rfl rfl rfl rfl rfl rfl (by simp [AllN]) (by simp)|exact e_buildF 20 tlOk rfl rfl rfl rfl rfl rfl rfl rfl|exact Zw tlOk rfl rfl rfl rfl rfl rfl (Z0 (Zj rfl) rfl) rfl (by simp [maxLen]) (by simp));(case xb|xc|xe=>rfl);try refine wkD ?_)|(refine wkB ?_ ?_<;>intro hg_<;>try exact wkX)|fail)
    clear K1 K2 KH
    have hgl := hF.gl
    have hml := hF.many
    have hmm := hF.ml
    have hlenG := Zah s.gs
    have hlenM := Zp s.ms
    obtain ⟨F, hFs⟩ : ∃ F : Nat → St, ∀ k, F k = mkS 79 [(4, .one (.r true (int (k : Int)))), (3, .one (.own 100 0 (k + 1) 1)), (1, .one (.ptr 1 0 0 0))] [(100, .sl 24 1 true (rowsI (bodV s k))), (1, .var 28 [.r true (int s.r), .r true (row false 1 (ints s.vs)), .r true (row false 1 (bools s.gs)), .r true (row false 3 (edges s.ms))])] := ⟨_, fun _ => rfl⟩
    refine Zaa (fun k : Nat => k ≤ s.vs.length) F (fun k => s.vs.length - k) 0 (Nat.zero_le _) (by rw [hFs];(refine Zi [(100, 22)] rfl ?_ ?_ <;>exact wkW)) ?_
    intro k hk
    have hfin : ∀ s' : St, Weak s' (F (k + 1)) → k < s.vs.length → ∃ x' : Nat, x' ≤ s.vs.length ∧ Weak s' (F x') ∧ s.vs.length - x' < s.vs.length - k := fun s' h hk => ⟨k + 1, by omega, h, by omega⟩
    rw [hFs] at hfin ⊢
    clear hFs
    have hbl := bodV_len hF.gl hk
    have hrl : k + 1 = (rowsI (bodV s k)).length := by rw [Zan, hbl]
    by_cases hlt : k < s.vs.length
    · have hlg : k < s.gs.length := by omega
      have hsucc := bodV_succ hF.gl hlt
      have hvk := hF.vin s.vs[k] (List.getElem_mem hlt)
      have KE := Zcn (s.vs[k] + 1)
      have hw : IntKind.i64.wrap (s.vs[k] + 1) = s.vs[k] + 1 := IntWalk.i64_in _ oM
      rw [← hw] at KE
      have hel := Za0 (s.vs[k] + 1)
      have hxv := ints_at hlt
      have hxg := bools_at hlg
      have hobj : rowsI (bodV s (k + 1)) = rowsI (bodV s k) ++ [.one (row false 1 (ints [2] ++ ints (enc (s.vs[k] + 1)) ++ ints [b01 s.gs[k]]))] := by
        rw [hsucc, rowsI_app, ← rcV_app]
      rw [hobj] at hfin
      rw [hw] at KE
      generalize enc (s.vs[k] + 1) = en at *
      rw [← hw] at KE
      clear hobj hsucc hvk hw
      have hlen := Zu en
      generalize rowsI (bodV s k) = RR at *
      generalize s.gs[k] = g at *
      generalize s.vs[k] = v at *
      cases g
      all_goals
        repeat' (first|refine wk ?_|((first|refine' w_q rfl rfl ?xa rfl ?_|refine' v_q rfl rfl ?xa rfl ?_|refine' Zn rfl rfl (Zb rfl) rfl ?xa rfl ?_|refine' Zo rfl rfl (Zb rfl) rfl ?xa rfl ?_);case xa => exact Zx tbOk rfl rfl rfl rfl oM (by first|exact hxv|exact hxg))|((first|refine' w_e rfl ?xa ?xb ?xc ?xe ?_|refine' v_e rfl ?xa ?xb ?xc ?xe ?_);(case xa => first|exact Zbe KE rfl rfl ⟨Zf (Za rfl), trivial⟩|exact Ze 36 rfl (Zl [.const (.int .i64 2)] tlOk rfl rfl rfl rfl rfl rfl (Za4 [2]) (by simp))|exact Zl [.tmp 45] tlOk rfl rfl rfl rfl rfl rfl (Zy rfl) (by simp)|exact e_buildF 47 tlOk rfl rfl rfl rfl rfl rfl rfl (by simp only [List.length_append])|exact Ze 44 rfl (Zw tlOk rfl rfl rfl rfl rfl rfl (Z6 (Z0 (Zj rfl) rfl) (Zbx _)) rfl (by simp only [maxLen, List.length_cons, List.length_nil];omega) (by simp only [List.length_cons, List.length_nil];omega))|exact Ze 47 rfl (Zw tlOk rfl rfl rfl rfl rfl rfl (Z6 (Z0 (Zj rfl) rfl) (by simp [plain1, iP])) (by simp only [List.length_append]) (by simp only [maxLen, List.length_append, List.length_cons, List.length_nil];omega) (by simp only [List.length_append, List.length_cons, List.length_nil];omega))|exact Ze 49 rfl (Zw tlOk rfl rfl rfl rfl rfl rfl (Z0 (Zj rfl) rfl) hrl (by simp only [maxLen, List.length_append, List.length_cons, List.length_nil];omega) (by simp only [List.length_append, List.length_cons, List.length_nil];omega)));(case xb|xc|xe=>rfl);try refine wkD ?_)|(refine wkB ?_ ?_<;>intro hg_<;>try exact wkX)|fail)
        all_goals first
          | (refine hfin _ ?_ hlt
             (refine Zi [(100, 49)] rfl ?_ ?_ <;> repeat' (first|refine wkS ?_ ?_|exact wkE|exact Zz rfl rfl|exact Zba (by simp only [List.length_cons, List.length_nil];omega))))
    · obtain rfl : k = s.vs.length := by omega
      clear hfin
      repeat' (first|refine wk ?_|(refine wkB ?_ ?_<;>intro hg_<;>try exact wkX)|fail)
      obtain ⟨G, hGs⟩ : ∃ G : Nat → St, ∀ k, G k = mkS 79 [(6, .one (.r true (int (k : Int)))), (3, .one (.own 100 0 (s.vs.length + 1 + k) 1)), (1, .one (.ptr 1 0 0 0))] [(100, .sl 24 1 true (rowsI (bodM s k))), (1, .var 28 [.r true (int s.r), .r true (row false 1 (ints s.vs)), .r true (row false 1 (bools s.gs)), .r true (row false 3 (edges s.ms))])] := ⟨_, fun _ => rfl⟩
      refine Zaa (fun k : Nat => k ≤ s.ms.length) G (fun k => s.ms.length - k) 0 (Nat.zero_le _) (by rw [hGs];(refine Zi [] rfl ?_ ?_ <;> repeat' (first|refine wkS ?_ ?_|exact wkE|exact Zz rfl (by simp [bodM])))) ?_
      intro k hk
      have hfin : ∀ s' : St, Weak s' (G (k + 1)) → k < s.ms.length → ∃ x' : Nat, x' ≤ s.ms.length ∧ Weak s' (G x') ∧ s.ms.length - x' < s.ms.length - k := fun s' h hk => ⟨k + 1, by omega, h, by omega⟩
      rw [hGs] at hfin ⊢
      clear hGs hrl hbl
      have hbl := bodM_len hF.gl hk
      have hrl : s.vs.length + 1 + k = (rowsI (bodM s k)).length := by rw [Zan, hbl]
      by_cases hlt : k < s.ms.length
      · have hsucc := bodM_succ hlt
        have KE := f_specEdgeBody s.ms[k]
        have hel := edgeB_len s.ms[k].1 s.ms[k].2.1 s.ms[k].2.2
        have hxm := Zbq hlt
        have hobj : rowsI (bodM s (k + 1)) = rowsI (bodM s k) ++ [.one (row false 1 (ints [3] ++ ints (edgeB s.ms[k].1 s.ms[k].2.1 s.ms[k].2.2)))] := by
          rw [hsucc, rowsI_app, ← rcM_app]
        rw [hobj] at hfin
        clear hobj hsucc
        generalize edgeB s.ms[k].1 s.ms[k].2.1 s.ms[k].2.2 = en at *
        have hlen := Zu en
        generalize rowsI (bodM s k) = RR at *
        generalize s.ms[k] = m at *
        obtain ⟨m1, m2, m3⟩ := m
        repeat' (first|refine wk ?_|((first|refine' w_q rfl rfl ?xa rfl ?_|refine' v_q rfl rfl ?xa rfl ?_|refine' Zn rfl rfl (Zb rfl) rfl ?xa rfl ?_|refine' Zo rfl rfl (Zb rfl) rfl ?xa rfl ?_);case xa => exact Zx tbOk rfl rfl rfl rfl oM hxm)|((first|refine' w_e rfl ?xa ?xb ?xc ?xe ?_|refine' v_e rfl ?xa ?xb ?xc ?xe ?_);(case xa => first|exact Zbe KE rfl rfl ⟨Zq (Za rfl) ⟨Zd, Zd, Zd, trivial⟩, trivial⟩|exact Ze 63 rfl (Zl [.const (.int .i64 3)] tlOk rfl rfl rfl rfl rfl rfl (Za4 [3]) (by simp))|exact e_buildF 72 tlOk rfl rfl rfl rfl rfl rfl rfl (by simp only [List.length_append])|exact Ze 72 rfl (Zw tlOk rfl rfl rfl rfl rfl rfl (Z6 (Z0 (Zj rfl) rfl) (Zbx _)) rfl (by simp only [maxLen, List.length_cons, List.length_nil];omega) (by simp only [List.length_cons, List.length_nil];omega))|exact Ze 74 rfl (Zw tlOk rfl rfl rfl rfl rfl rfl (Z0 (Zj rfl) rfl) hrl (by simp only [maxLen, List.length_append, List.length_cons, List.length_nil];omega) (by simp only [List.length_append, List.length_cons, List.length_nil];omega)));(case xb|xc|xe=>rfl);try refine wkD ?_)|(refine wkB ?_ ?_<;>intro hg_<;>try exact wkX)|fail)
        all_goals first
          | (refine hfin _ ?_ hlt
             (refine Zi [(100, 74)] rfl ?_ ?_ <;> repeat' (first|refine wkS ?_ ?_|exact wkE|exact Zz rfl rfl|exact Zba (by simp only [List.length_cons, List.length_nil];omega))))
      · obtain rfl : k = s.ms.length := by omega
        clear hfin
        have hbe := bodM_end hF.gl
        have hobj : rowsI (ckB s) = rowsI (bodM s s.ms.length) ++ [.one (row false 1 (ints [4]))] := by rw [← hbe, rowsI_app]
        rw [hB, hobj]
        clear hobj hbe hB
        generalize rowsI (bodM s s.ms.length) = RR at *
        repeat' (first|refine wk ?_|((first|refine' w_e rfl ?xa ?xb ?xc ?xe ?_|refine' v_e rfl ?xa ?xb ?xc ?xe ?_);(case xa => first|exact Ze 76 rfl (Zl [.const (.int .i64 4)] tlOk rfl rfl rfl rfl rfl rfl (Za4 [4]) (by simp))|exact e_buildF 76 tlOk rfl rfl rfl rfl rfl rfl rfl rfl|exact Ze 78 rfl (Zw tlOk rfl rfl rfl rfl rfl rfl (Z0 (Zj rfl) rfl) hrl (by simp only [maxLen, List.length_append, List.length_cons, List.length_nil];omega) (by simp only [List.length_append, List.length_cons, List.length_nil];omega)));(case xb|xc|xe=>rfl);try refine wkD ?_)|(refine wkB ?_ ?_<;>intro hg_<;>try exact wkX)|fail)
        all_goals first
          | exact Zab rfl (Z7 (Z5 (Zj rfl) (by simp)))
theorem f_ownRowsI (nil : Bool) (L : List (List Int)) (hl : L.length ≤ 1048576) (hL : ∀ b ∈ L, b.length ≤ 1048576) : Fn Try.prog 26 [.one (row nil 1 (rowsI L))] (.v (.one (row false 1 (rowsI L)))) := by
  have hlenL := Zan L
  refine Z8 (l := [.tmp 2]) Try.func26 kRf rfl Try.ntmps26 rfl rfl ?_; simp only [argEnv, P0.d, Nat.reduceAdd]
  repeat' (first|refine wk ?_|((first|refine' w_e rfl ?xa ?xb ?xc ?xe ?_|refine' v_e rfl ?xa ?xb ?xc ?xe ?_);(case xa => exact Zl [] tlOk rfl rfl rfl rfl rfl rfl (by simp [AllN]) (by simp));(case xb|xc|xe=>rfl);try refine wkD ?_)|(refine wkB ?_ ?_<;>intro hg_<;>try exact wkX)|fail)
  obtain ⟨F, hFs⟩ : ∃ F : Nat → St, ∀ k, F k = mkS 22 [(4, .one (.r true (int (k : Int)))), (3, .one (.own 100 0 k 1)), (0, .one (.r false (row nil 1 (rowsI L))))] [(100, .sl 24 1 true (rowsI (L.take k)))] := ⟨_, fun _ => rfl⟩
  refine Zaa (fun k : Nat => k ≤ L.length) F (fun k => L.length - k) 0 (Nat.zero_le _) (by rw [hFs];(refine Zi [(100, 5)] rfl ?_ ?_ <;>exact wkW)) ?_
  intro k hk
  have hfin : ∀ s' : St, Weak s' (F (k + 1)) → k < L.length → ∃ x' : Nat, x' ≤ L.length ∧ Weak s' (F x') ∧ L.length - x' < L.length - k := fun s' h hk => ⟨k + 1, by omega, h, by omega⟩
  rw [hFs] at hfin ⊢
  clear hFs
  have hrl : k = (rowsI (L.take k)).length := by rw [Zan]; simp; omega
  by_cases hlt : k < L.length
  · have hx := Zbr hlt
    have hobj : rowsI (L.take (k + 1)) = rowsI (L.take k) ++ [.one (row false 1 (ints L[k]))] := by rw [List.take_succ_eq_append_getElem hlt, rowsI_app]
    rw [hobj] at hfin
    have hb := hL L[k] (List.getElem_mem hlt)
    have hbl := Zu L[k]
    clear hobj hL
    generalize L[k] = b at *
    generalize rowsI (L.take k) = RR at *
    repeat' (first|refine wk ?_|((first|refine' w_q rfl rfl ?xa rfl ?_|refine' v_q rfl rfl ?xa rfl ?_|refine' Zn rfl rfl (Zb rfl) rfl ?xa rfl ?_|refine' Zo rfl rfl (Zb rfl) rfl ?xa rfl ?_);case xa => exact Zx tbOk rfl rfl rfl rfl oM hx)|((first|refine' w_e rfl ?xa ?xb ?xc ?xe ?_|refine' v_e rfl ?xa ?xb ?xc ?xe ?_);(case xa => first|exact Ze 13 rfl (Zl [] tlOk rfl rfl rfl rfl rfl rfl (by simp [AllN]) (by simp))|exact Ze 18 rfl (Zw tlOk rfl rfl rfl rfl rfl rfl (Z6 Za2 (Zbx _)) rfl (by simp only [maxLen, List.length_nil];omega) (by simp only [List.length_nil];omega))|exact e_buildF 18 tlOk rfl rfl rfl rfl rfl rfl rfl (by simp only [List.length_append])|exact Ze 20 rfl (Zw tlOk rfl rfl rfl rfl rfl rfl (Z0 (Zj rfl) rfl) hrl (by simp only [maxLen, List.length_append, List.length_cons, List.length_nil];omega) (by simp only [List.length_append, List.length_cons, List.length_nil];omega)));(case xb|xc|xe=>rfl);try refine wkD ?_)|(refine wkB ?_ ?_<;>intro hg_<;>try exact wkX)|fail)
    all_goals first
      | (refine hfin _ ?_ hlt
         (refine Zi [(100, 20)] rfl ?_ ?_ <;> repeat' (first|refine wkS ?_ ?_|exact wkE|exact Zz rfl rfl|exact Zba (by simp only [List.length_cons, List.length_nil];omega))))
  · obtain rfl : k = L.length := by omega
    clear hfin
    rw [List.take_of_length_le (Nat.le_refl _)] at hrl ⊢
    repeat' (first|refine wk ?_|(refine wkB ?_ ?_<;>intro hg_<;>try exact wkX)|fail)
    all_goals first
      | exact Zab rfl (Z7 (Z5 (Zj rfl) hrl))
theorem pre_iff {α : Type} {W L : List α} {at_ : Nat} : W <+: L.drop at_ ↔ (∀ k,k < W.length → L[at_ + k]? = W[k]?) ∧ (W.length = 0 ∨ at_ + W.length ≤ L.length):=by
 constructor
 ·rintro ⟨t,ht⟩
  have hl:=congrArg List.length ht
  rw [List.length_append,List.length_drop] at hl
  refine ⟨fun k hk=>?_,by omega⟩
  have:=congrArg (fun l=>l[k]?) ht
  simp only [List.getElem?_drop] at this
  rw [← this,List.getElem?_append_left hk]
 ·rintro ⟨h1,h2⟩
  rw [List.prefix_iff_eq_take]
  apply List.ext_getElem?
  intro k
  by_cases hk : k < W.length
  ·rw [← h1 k hk,List.getElem?_take,if_pos hk,List.getElem?_drop]
  ·rw [List.getElem?_eq_none oM,List.getElem?_take,if_neg hk]
theorem f_l18Same (n1 n2 : Bool) (L W : List (List Int)) (at_ : Nat) (hl : L.length ≤ 1048576) (hw : W.length ≤ 1048576) (ha : at_ ≤ 1048576) (hL : ∀ b ∈ L, b.length ≤ 1048576) (hW0 : 0 < W.length) : Fn Try.prog 61 [.one (row n1 1 (rowsI L)), iP (at_ : Int), .one (row n2 1 (rowsI W))] (.v (.one (bool (decide (W <+: L.drop at_))))) := by
  have hlenL := Zan L
  have hlenW := Zan W
  have hno : ∀ k (h : k < W.length), L[at_ + k]? ≠ some W[k] → decide (W <+: L.drop at_) = false := fun k h hne => by
    rw [decide_eq_false_iff_not, pre_iff]
    exact fun hp => hne (by rw [hp.1 k h, List.getElem?_eq_getElem h])
  have hlo : L.length < at_ + W.length → decide (W <+: L.drop at_) = false := fun h => by
    rw [decide_eq_false_iff_not, pre_iff]
    rintro ⟨_, h2⟩
    omega
  have hyes : at_ + W.length ≤ L.length → (∀ k, k < W.length → L[at_ + k]? = W[k]?) → decide (W <+: L.drop at_) = true := fun h h2 => by
    rw [decide_eq_true_iff, pre_iff]
    exact ⟨h2, .inr h⟩
  generalize decide (W <+: L.drop at_) = q at *
  have hwl : IntKind.i64.wrap ((at_ : Int) + (W.length : Int)) = ((at_ + W.length : Nat) : Int) := by rw [IntWalk.i64_in _ oM]; omega
  rw [← hlenW, ← hlenL] at hlo
  rw [← hlenW] at hwl
  by_cases hbig : L.length < at_ + W.length
  · rw [← hlenW, ← hlenL] at hbig
    rw [hlo hbig]
    clear hno hyes hlo
    refine Z8 (l := [.tmp 6]) Try.func61 kRf rfl Try.ntmps61 rfl rfl ?_; simp only [argEnv, P0.d, Nat.reduceAdd]
    repeat' (first|refine wk ?_|(refine wkB ?_ ?_<;>intro hg_<;>try exact wkX)|fail)
    all_goals first
      | exact Zab rfl (Zr rfl)
      | (exfalso; omega)
  · rw [← hlenW, ← hlenL] at hbig
    clear hlo
    refine Z8 (l := [.tmp 6]) Try.func61 kRf rfl Try.ntmps61 rfl rfl ?_; simp only [argEnv, P0.d, Nat.reduceAdd]
    repeat' (first|refine wk ?_|(refine wkB ?_ ?_<;>intro hg_<;>try exact wkX)|fail)
    obtain ⟨F, hFs⟩ : ∃ F : Nat → St, ∀ k, F k = mkS 61 [(7, .one (.r true (int (k : Int)))), (2, .one (.r false (row n2 1 (rowsI W)))), (1, .one (.r false (int (at_ : Int)))), (0, .one (.r false (row n1 1 (rowsI L))))] [] := ⟨_, fun _ => rfl⟩
    refine Zaa (fun k : Nat => k ≤ W.length ∧ ∀ i, i < k → L[at_ + i]? = W[i]?) F (fun k => W.length - k) 0 ⟨Nat.zero_le _, fun i h => by omega⟩ (by rw [hFs];(refine Zi [] rfl ?_ ?_ <;>exact wkW)) ?_
    rintro k ⟨hk, HP⟩
    by_cases hlt : k < W.length
    · have hak : at_ + k < L.length := by omega
      have hfin : ∀ s' : St, Weak s' (F (k + 1)) → L[at_ + k] = W[k] → ∃ x' : Nat, (x' ≤ W.length ∧ ∀ i, i < x' → L[at_ + i]? = W[i]?) ∧ Weak s' (F x') ∧ W.length - x' < W.length - k := fun s' h he => ⟨k + 1, ⟨by omega, fun i hi => by
        by_cases hik : i = k
        · subst hik; rw [List.getElem?_eq_getElem hak, List.getElem?_eq_getElem hlt, he]
        · exact HP i oM⟩, h, by omega⟩
      have hnok : L[at_ + k] ≠ W[k] → q = false := fun hne => hno k hlt (by rw [List.getElem?_eq_getElem hak]; intro h; injection h with h; exact hne h)
      rw [hFs] at hfin ⊢
      clear hFs hno hyes HP
      have hxW := Zbr hlt
      have hxL := Zbr hak
      have hw1 : IntKind.i64.wrap ((at_ : Int) + (k : Int)) = ((at_ + k : Nat) : Int) := by rw [IntWalk.i64_in _ oM]; omega
      rw [← hw1] at hxL
      have h0 : 0 ≤ IntKind.i64.wrap ((at_ : Int) + (k : Int)) := by rw [hw1]; omega
      have hbl := hL L[at_ + k] (List.getElem_mem hak)
      have hla := Zu L[at_ + k]
      have hlb := Zu W[k]
      generalize L[at_ + k] = a at *
      generalize W[k] = b at *
      by_cases hab : a.length = b.length
      · repeat' (first|refine wk ?_|((first|refine' w_q rfl rfl ?xa rfl ?_|refine' v_q rfl rfl ?xa rfl ?_|refine' Zn rfl rfl (Zb rfl) rfl ?xa rfl ?_|refine' Zo rfl rfl (Zb rfl) rfl ?xa rfl ?_);case xa => exact Zx tbOk rfl rfl rfl rfl (by first|exact h0|omega) (by first|exact hxW|exact hxL))|(refine wkB ?_ ?_<;>intro hg_<;>try exact wkX)|fail)
        obtain ⟨G, hGs⟩ : ∃ G : Nat → St, ∀ j, G j = mkS 61 [(8, .one (.r true (int (j : Int)))), (7, .one (.r true (int (k : Int)))), (2, .one (.r false (row n2 1 (rowsI W)))), (1, .one (.r false (int (at_ : Int)))), (0, .one (.r false (row n1 1 (rowsI L))))] [] := ⟨_, fun _ => rfl⟩
        refine Zaa (fun j : Nat => j ≤ b.length ∧ ∀ i, i < j → a[i]? = b[i]?) G (fun j => b.length - j) 0 ⟨Nat.zero_le _, fun i h => by omega⟩ (by rw [hGs];(refine Zi [] rfl ?_ ?_ <;>exact wkW)) ?_
        rintro j ⟨hj, HJ⟩
        by_cases hjl : j < b.length
        · have hja : j < a.length := by omega
          have hfinJ : ∀ s' : St, Weak s' (G (j + 1)) → a[j] = b[j] → ∃ x' : Nat, (x' ≤ b.length ∧ ∀ i, i < x' → a[i]? = b[i]?) ∧ Weak s' (G x') ∧ b.length - x' < b.length - j := fun s' h he => ⟨j + 1, ⟨by omega, fun i hi => by
            by_cases hik : i = j
            · subst hik; rw [List.getElem?_eq_getElem hja, List.getElem?_eq_getElem hjl, he]
            · exact HJ i oM⟩, h, by omega⟩
          have hnoj : a[j] ≠ b[j] → q = false := fun hne => hnok fun e => hne (by subst e; rfl)
          rw [hGs] at hfinJ ⊢
          have hxa := ints_at hja
          have hxb := ints_at hjl
          clear hfin hGs HJ hnok
          generalize a[j] = x at *
          generalize b[j] = y at *
          repeat' (first|refine wk ?_|((first|refine' w_q rfl rfl ?xa rfl ?_|refine' v_q rfl rfl ?xa rfl ?_|refine' Zn rfl rfl (Zb rfl) rfl ?xa rfl ?_|refine' Zo rfl rfl (Zb rfl) rfl ?xa rfl ?_);case xa => exact Zx tbOk rfl rfl rfl rfl (by first|exact h0|omega) (by first|exact hxW|exact hxL|exact hxa|exact hxb))|(refine wkB ?_ ?_<;>intro hg_<;>try exact wkX)|fail)
          all_goals first
            | (rw [hnoj (by simp_all; done)]
               exact Zab rfl (Zr rfl))
            | (refine hfinJ _ ?_ (by simp_all; done)
               (refine Zi [] rfl ?_ ?_ <;>exact wkW))
        · rw [hGs]
          have he : a = b := List.ext_getElem? fun i => by
            by_cases hi : i < j
            · exact HJ i hi
            · rw [List.getElem?_eq_none oM, List.getElem?_eq_none oM]
          clear hGs HJ hnok
          have hjn : ¬ (j : Int) < ((ints b).length : Int) := by omega
          repeat' (first|refine wk ?_|((first|refine' w_q rfl rfl ?xa rfl ?_|refine' v_q rfl rfl ?xa rfl ?_|refine' Zn rfl rfl (Zb rfl) rfl ?xa rfl ?_|refine' Zo rfl rfl (Zb rfl) rfl ?xa rfl ?_);case xa => exact Zx tbOk rfl rfl rfl rfl (by first|exact h0|omega) (by first|exact hxW|exact hxL))|(refine wkB ?_ ?_<;>intro hg_<;>try exact wkX)|fail)
          all_goals first
            | (refine hfin _ ?_ he
               (refine Zi [] rfl ?_ ?_ <;>exact wkW))
            | (exfalso; omega)
      · repeat' (first|refine wk ?_|((first|refine' w_q rfl rfl ?xa rfl ?_|refine' v_q rfl rfl ?xa rfl ?_|refine' Zn rfl rfl (Zb rfl) rfl ?xa rfl ?_|refine' Zo rfl rfl (Zb rfl) rfl ?xa rfl ?_);case xa => exact Zx tbOk rfl rfl rfl rfl (by first|exact h0|omega) (by first|exact hxW|exact hxL))|(refine wkB ?_ ?_<;>intro hg_<;>try exact wkX)|fail)
        all_goals first
          | (rw [hnok (fun e => hab (by rw [e]))]
             exact Zab rfl (Zr rfl))
          | (exfalso; omega)
    · rw [hFs]
      obtain rfl : k = W.length := by omega
      have hq := hyes oM HP
      rw [hq]
      clear hFs hno hyes HP
      repeat' (first|refine wk ?_|(refine wkB ?_ ?_<;>intro hg_<;>try exact wkX)|fail)
      all_goals first
        | exact Zab rfl (Zr rfl)
end Go.Proofs.Ytmkijbfiilpccaa.Abs
set_option linter.unusedSimpArgs false
set_option linter.unusedVariables false
namespace Go.Proofs.Ytmkijbfiilpccaa.Abs
open Go.RowKit
open R (val row ref)
abbrev stateR (x : Sta) : P0:=stateP x.r x.vs.isEmpty x.vs x.gs.isEmpty x.gs x.ms.isEmpty x.ms
theorem cown {k n m sz : Nat} (h : n = m) : Cell.own k 0 n sz = .own k 0 m sz:=by rw [h]
theorem var4 {E : TypeId} {a b c d a' b' c' d' : Cell} (h1 : a = a') (h2 : b = b') (h3 : c = c') (h4 : d = d') : Ob.var E [a,b,c,d] = .var E [a',b',c',d']:=by rw [h1,h2,h3,h4]
theorem wantB_len (x : Sta) : (wantB x).length ≤ 1048576:=by
 unfold wantB
 split
 ·rename_i ho
  have hF:=Sta.okF ho
  rw [Zb4 hF]
  have:=hF.many
  have:=hF.ml
  omega
 ·simp
theorem wantB_ok (x : Sta) : (x.ok = false → wantB x = []) ∧ (x.ok = true → 0 < (wantB x).length ∧ ∀ D,(true && decide (ckB x <+: D)) = decide (wantB x <+: D)):=by
 constructor
 ·intro h; unfold wantB; rw [h]; rfl
 ·intro h
  have e : wantB x = ckB x:=by unfold wantB; rw [h]; rfl
  rw [e]
  exact ⟨by rw [Zb4 (Sta.okF h)]; omega,fun D=>by rw [Bool.true_and]⟩
theorem rcdH_form {b : List Int} {n1 i1 n2 i2 n3 i3 : Int} {t1 t2 t3 : Bool} (h1 : decAt (1 :: b) 1 = (if t1 then some (n1,i1) else none)) (h2 : decAt (1 :: b) i1 = (if t2 then some (n2,i2) else none)) (h3 : decAt (1 :: b) i2 = (if t3 then some (n3,i3) else none)) :
  rcdH (1 :: b) = if t1 && t2 && t3 then some (n1,n2,n3) else none:=by
 unfold rcdH
 rw [List.head?_cons,if_pos rfl,h1]
 cases t1
 ·rfl
 ·simp only [if_true]
  rw [h2]
  cases t2
  ·rfl
  ·simp only [if_true]
   rw [h3]
   cases t3<;>rfl
theorem rcdH_no {b : List Int} (h : b.head? ≠ some 1) : rcdH b = none:=by unfold rcdH; rw [if_neg h]
theorem f_l18ReadZ (nil : Bool) (L : List (List Int)) (at_ : Nat) (hat : at_ < L.length) (hh : L[at_].head? ≠ some 1) : Fn Try.prog 27 [.one (row nil 1 (rowsI L)),iP (at_ : Int)] (.tup [stateP 0 true [] true [] true [],iP 0,.one (bool false)]):=by
 have hlenL:=Zan L
 have hx:=Zbr hat
 generalize L[at_] = b at *
 cases b with
 | nil =>
  refine Z8 (l:=[.cell 4 28,.tmp 5,.tmp 6]) Try.func27 kRf rfl Try.ntmps27 rfl rfl ?_; simp only [argEnv,P0.d,Nat.reduceAdd]
  repeat' (first|refine wk ?_|((first|refine' w_q rfl rfl ?xa rfl ?_|refine' v_q rfl rfl ?xa rfl ?_|refine' Zn rfl rfl (Zb rfl) rfl ?xa rfl ?_|refine' Zo rfl rfl (Zb rfl) rfl ?xa rfl ?_);case xa=>exact Zx tbOk rfl rfl rfl rfl oM hx)|(refine wkB ?_ ?_<;>intro hg_<;>try exact wkX)|fail)
  all_goals first
   | exact Z9 (Za8 rfl rfl tyF0 rfl rfl rfl (Za7 (by exact ⟨Za5,Zaw,Zaw,Zaw,trivial⟩))) (Zk rfl (Zv rfl)) (Zk rfl (Zr rfl))
   | (exfalso; simp_all; done)
 | cons z b =>
  have hz : z ≠ 1:=fun e=>hh (by rw [e]; rfl)
  have hx2 : (ints (z :: b))[(0 : Int).toNat]? = some (iP z):=rfl
  refine Z8 (l:=[.cell 4 28,.tmp 5,.tmp 6]) Try.func27 kRf rfl Try.ntmps27 rfl rfl ?_; simp only [argEnv,P0.d,Nat.reduceAdd]
  repeat' (first|refine wk ?_|((first|refine' w_q rfl rfl ?xa rfl ?_|refine' v_q rfl rfl ?xa rfl ?_|refine' Zn rfl rfl (Zb rfl) rfl ?xa rfl ?_|refine' Zo rfl rfl (Zb rfl) rfl ?xa rfl ?_);case xa=>exact Zx tbOk rfl rfl rfl rfl oM (by first|exact hx|exact hx2))|(refine wkB ?_ ?_<;>intro hg_<;>try exact wkX)|fail)
  all_goals first
   | exact Z9 (Za8 rfl rfl tyF0 rfl rfl rfl (Za7 (by exact ⟨Za5,Zaw,Zaw,Zaw,trivial⟩))) (Zk rfl (Zv rfl)) (Zk rfl (Zr rfl))
   | (exfalso; simp_all; done)
theorem rdLoop_V {D : List (List Int)} {M f k : Nat} {x : Sta} {c : List Int} {n j : Int} {t : Bool} (hk : k < M) (hc : D.getD (k + 1) [] = c) (f1 : decAt c 1 = if t then some (n,j) else none) :
  rdLoop D M (f + 1) k x = if t = true ∧ j = (c.length : Int) - 1 then rdLoop D M f (k + 1) ⟨x.r,x.vs ++ [n - 1],x.gs ++ [c.getD j.toNat 0 == 1],x.ms⟩ else (x,false):=by
 rw [rdLoop,if_pos hk,hc]
 unfold rcdV
 rw [f1]
 cases t
 ·simp
 ·simp only [if_true,true_and]
  by_cases h : j = (c.length : Int) - 1
  ·rw [if_pos h,if_pos h]
  ·rw [if_neg h,if_neg h]
theorem rdLoop_M {D : List (List Int)} {M f k : Nat} {x : Sta} {c : List Int} {e : E3} {t : Bool} (hk : ¬ k < M) (hc : D.getD (k + 1) [] = c) (f1 : readE (c.drop 1) = if t then some e else none) :
  rdLoop D M (f + 1) k x = if t = true then rdLoop D M f (k + 1) ⟨x.r,x.vs,x.gs,x.ms ++ [e]⟩ else (x,false):=by
 rw [rdLoop,if_neg hk,hc,f1]
 cases t<;>simp
theorem hdG {D : List (List Int)} {b : List Int} {n1 i1 n2 i2 n3 i3 : Int} {t1 t2 t3 : Bool} (h1 : decAt (1 :: b) 1 = (if t1 then some (n1,i1) else none)) (h2 : decAt (1 :: b) i1 = (if t2 then some (n2,i2) else none)) (h3 : decAt (1 :: b) i2 = (if t3 then some (n3,i3) else none)) :
  rdRes ((1 :: b) :: D) = if t1 = true ∧ t2 = true ∧ t3 = true ∧ n2 ≤ 16 ∧ n3 ≤ 2000 ∧ n2 + n3 + 1 < (((1 :: b) :: D).length : Int) then rdFin ((1 :: b) :: D) (rdLoop ((1 :: b) :: D) n2.toNat (n2.toNat + n3.toNat) 0 ⟨n1,[],[],[]⟩) else (zSta,0,false):=by
 unfold rdRes
 simp only [rcdH_form h1 h2 h3]
 cases t1<;>cases t2<;>cases t3<;>simp
theorem f_l18Read1 (nil : Bool) (L : List (List Int)) (at_ : Nat) (hl : L.length ≤ 2000) (hat : at_ < L.length) (hL : ∀ b ∈ L, b.length ≤ 1048576) (hh : L[at_].head? = some 1) :
    Fn Try.prog 27 [.one (row nil 1 (rowsI L)), iP (at_ : Int)] (.tup [stateR (rdRes (L.drop at_)).1, iP (rdRes (L.drop at_)).2.1, .one (bool (rdRes (L.drop at_)).2.2)]) := by
  have hlenL := Zan L
  have hx := Zbr hat
  have hD := List.drop_eq_getElem_cons hat
  have hgetD : ∀ k, at_ + (k + 1) < L.length → ∃ c, (L.drop at_).getD (k + 1) [] = c ∧ (rowsI L)[((at_ + 1 + k : Nat) : Int).toNat]? = some (rowP c) ∧ c.length ≤ 1048576 := fun k hk => ⟨L[at_ + (k + 1)], by rw [List.getD_eq_getElem?_getD, List.getElem?_drop, List.getElem?_eq_getElem hk]; rfl, by rw [show at_ + 1 + k = at_ + (k + 1) by omega]; exact Zbr hk, hL _ (List.getElem_mem hk)⟩
  obtain ⟨b, hb⟩ : ∃ b, L[at_] = 1 :: b := by
    cases hc : L[at_] with
    | nil => rw [hc] at hh; cases hh
    | cons z b => rw [hc] at hh; simp only [List.head?_cons, Option.some.injEq] at hh; exact ⟨b, by rw [hh]⟩
  rw [hb] at hx hD
  have hx2 : (ints (1 :: b))[(0 : Int).toNat]? = some (iP 1) := rfl
  have hlD : (L.drop at_).length = L.length - at_ := List.length_drop ..
  obtain ⟨n1, i1, t1, e1, f1, g1⟩ := decForm (decAt (1 :: b) 1)
  obtain ⟨n2, i2, t2, e2, f2, g2⟩ := decForm (decAt (1 :: b) i1)
  obtain ⟨n3, i3, t3, e3, f3, g3⟩ := decForm (decAt (1 :: b) i2)
  have hX := hdG (D := L.drop (at_ + 1)) f1 f2 f3
  rw [← hD, hlD] at hX
  have hb2 : 0 ≤ n2 ∧ n2 ≤ 1000000 := by
    cases h : t2
    · have := g2 h; omega
    · have := decForm_at f2 h; omega
  have hb3 : 0 ≤ n3 ∧ n3 ≤ 1000000 := by
    cases h : t3
    · have := g3 h; omega
    · have := decForm_at f3 h; omega
  have KD1 := Zc7 false (1 :: b) 1
  have KD2 := Zc7 false (1 :: b) i1
  have KD3 := Zc7 false (1 :: b) i2
  rw [e1] at KD1
  rw [e2] at KD2
  rw [e3] at KD3
  clear e1 e2 e3 f1 f2 f3 g1 g2 g3 hD hlD hh hb
  have hw0 : IntKind.i64.wrap ((at_ : Int) + 1) = ((at_ + 1 + 0 : Nat) : Int) := by rw [IntWalk.i64_in _ oM]; omega
  have hL0 := hL
  clear hL
  obtain ⟨N2, rfl⟩ := Int.eq_ofNat_of_zero_le hb2.1
  obtain ⟨N3, rfl⟩ := Int.eq_ofNat_of_zero_le hb3.1
  have hw1 : IntKind.i64.wrap ((at_ : Int) + (N2 : Int)) = (at_ : Int) + N2 := IntWalk.i64_in _ oM
  have hw2 : IntKind.i64.wrap (IntKind.i64.wrap ((at_ : Int) + (N2 : Int)) + (N3 : Int)) = (at_ : Int) + N2 + N3 := by rw [hw1]; exact IntWalk.i64_in _ oM
  have hw3 : IntKind.i64.wrap (IntKind.i64.wrap (IntKind.i64.wrap ((at_ : Int) + (N2 : Int)) + (N3 : Int)) + 1) = (at_ : Int) + N2 + N3 + 1 := by rw [hw2]; exact IntWalk.i64_in _ oM
  by_cases hg : t1 = true ∧ t2 = true ∧ t3 = true ∧ (N2 : Int) ≤ 16 ∧ (N3 : Int) ≤ 2000 ∧ (N2 : Int) + (N3 : Int) + 1 < ((L.length - at_ : Nat) : Int)
  · rw [if_pos hg] at hX
    rw [hX]
    obtain ⟨rfl, rfl, rfl, q1, q2, q3⟩ := hg
    rw [Int.toNat_natCast, Int.toNat_natCast]
    clear hX
    refine Z8 (l := [.cell 4 28, .tmp 5, .tmp 6]) Try.func27 kRf rfl Try.ntmps27 rfl rfl ?_; simp only [argEnv, P0.d, Nat.reduceAdd]
    repeat' (first|refine wk ?_|((first|refine' w_q rfl rfl ?xa rfl ?_|refine' v_q rfl rfl ?xa rfl ?_|refine' Zn rfl rfl (Zb rfl) rfl ?xa rfl ?_|refine' Zo rfl rfl (Zb rfl) rfl ?xa rfl ?_);case xa => first|exact Zx tbOk rfl rfl rfl rfl oM (by first|exact hx|exact hx2)|exact Zm KD1 rfl ⟨Zf (Za rfl), Zf (Za rfl), trivial⟩|exact Zm KD2 rfl ⟨Zf (Za rfl), Zf (Za rfl), trivial⟩|exact Zm KD3 rfl ⟨Zf (Za rfl), Zf (Za rfl), trivial⟩)|(refine wkB ?_ ?_<;>intro hg_<;>try exact wkX)|fail)
    -- LOOP
    obtain ⟨F, hF00, hF10, hF01, hF11⟩ : ∃ F : Nat × List Int × List Bool × List E3 → St,
        (∀ k, F (k, [], [], []) = mkS 200 [(17, .one (.r true (int ((at_ + 1 + k : Nat) : Int)))), (14, .one (.r true (int (N3 : Int)))), (11, .one (.r true (int (N2 : Int)))), (7, .one (.ptr 7 0 0 0)), (4, .one (.ptr 4 0 0 0)), (1, .one (.r false (int (at_ : Int)))), (0, .one (.r false (row nil 1 (rowsI L))))] [(7, .var 28 [.r true (int n1), .r true (row true 0 []), .r true (row true 0 []), .r true (row true 0 [])]), (4, .var 28 [.r true (int 0), .r true (row true 0 []), .r true (row true 0 []), .r true (row true 0 [])])]) ∧
        (∀ k vs gs, vs ≠ [] → gs ≠ [] → F (k, vs, gs, []) = mkS 200 [(17, .one (.r true (int ((at_ + 1 + k : Nat) : Int)))), (14, .one (.r true (int (N3 : Int)))), (11, .one (.r true (int (N2 : Int)))), (7, .one (.ptr 7 0 0 0)), (4, .one (.ptr 4 0 0 0)), (1, .one (.r false (int (at_ : Int)))), (0, .one (.r false (row nil 1 (rowsI L))))] [(7, .var 28 [.r true (int n1), .own 101 0 (vs).length 1, .own 102 0 (gs).length 1, .r true (row true 0 [])]), (101, .sl 3 1 true (ints (vs))), (102, .sl 4 1 true (bools (gs))), (4, .var 28 [.r true (int 0), .r true (row true 0 []), .r true (row true 0 []), .r true (row true 0 [])])]) ∧
        (∀ k ms, ms ≠ [] → F (k, [], [], ms) = mkS 200 [(17, .one (.r true (int ((at_ + 1 + k : Nat) : Int)))), (14, .one (.r true (int (N3 : Int)))), (11, .one (.r true (int (N2 : Int)))), (7, .one (.ptr 7 0 0 0)), (4, .one (.ptr 4 0 0 0)), (1, .one (.r false (int (at_ : Int)))), (0, .one (.r false (row nil 1 (rowsI L))))] [(7, .var 28 [.r true (int n1), .r true (row true 0 []), .r true (row true 0 []), .own 103 0 (ms).length 3]), (103, .sl 70 3 true (edges (ms))), (4, .var 28 [.r true (int 0), .r true (row true 0 []), .r true (row true 0 []), .r true (row true 0 [])])]) ∧
        (∀ k vs gs ms, vs ≠ [] → gs ≠ [] → ms ≠ [] → F (k, vs, gs, ms) = mkS 200 [(17, .one (.r true (int ((at_ + 1 + k : Nat) : Int)))), (14, .one (.r true (int (N3 : Int)))), (11, .one (.r true (int (N2 : Int)))), (7, .one (.ptr 7 0 0 0)), (4, .one (.ptr 4 0 0 0)), (1, .one (.r false (int (at_ : Int)))), (0, .one (.r false (row nil 1 (rowsI L))))] [(7, .var 28 [.r true (int n1), .own 101 0 (vs).length 1, .own 102 0 (gs).length 1, .own 103 0 (ms).length 3]), (101, .sl 3 1 true (ints (vs))), (102, .sl 4 1 true (bools (gs))), (103, .sl 70 3 true (edges (ms))), (4, .var 28 [.r true (int 0), .r true (row true 0 []), .r true (row true 0 []), .r true (row true 0 [])])]) := by
      refine ⟨fun y => if y.2.1.isEmpty then (if y.2.2.2.isEmpty then mkS 200 [(17, .one (.r true (int ((at_ + 1 + y.1 : Nat) : Int)))), (14, .one (.r true (int (N3 : Int)))), (11, .one (.r true (int (N2 : Int)))), (7, .one (.ptr 7 0 0 0)), (4, .one (.ptr 4 0 0 0)), (1, .one (.r false (int (at_ : Int)))), (0, .one (.r false (row nil 1 (rowsI L))))] [(7, .var 28 [.r true (int n1), .r true (row true 0 []), .r true (row true 0 []), .r true (row true 0 [])]), (4, .var 28 [.r true (int 0), .r true (row true 0 []), .r true (row true 0 []), .r true (row true 0 [])])] else mkS 200 [(17, .one (.r true (int ((at_ + 1 + y.1 : Nat) : Int)))), (14, .one (.r true (int (N3 : Int)))), (11, .one (.r true (int (N2 : Int)))), (7, .one (.ptr 7 0 0 0)), (4, .one (.ptr 4 0 0 0)), (1, .one (.r false (int (at_ : Int)))), (0, .one (.r false (row nil 1 (rowsI L))))] [(7, .var 28 [.r true (int n1), .r true (row true 0 []), .r true (row true 0 []), .own 103 0 (y.2.2.2).length 3]), (103, .sl 70 3 true (edges (y.2.2.2))), (4, .var 28 [.r true (int 0), .r true (row true 0 []), .r true (row true 0 []), .r true (row true 0 [])])]) else (if y.2.2.2.isEmpty then mkS 200 [(17, .one (.r true (int ((at_ + 1 + y.1 : Nat) : Int)))), (14, .one (.r true (int (N3 : Int)))), (11, .one (.r true (int (N2 : Int)))), (7, .one (.ptr 7 0 0 0)), (4, .one (.ptr 4 0 0 0)), (1, .one (.r false (int (at_ : Int)))), (0, .one (.r false (row nil 1 (rowsI L))))] [(7, .var 28 [.r true (int n1), .own 101 0 (y.2.1).length 1, .own 102 0 (y.2.2.1).length 1, .r true (row true 0 [])]), (101, .sl 3 1 true (ints (y.2.1))), (102, .sl 4 1 true (bools (y.2.2.1))), (4, .var 28 [.r true (int 0), .r true (row true 0 []), .r true (row true 0 []), .r true (row true 0 [])])] else mkS 200 [(17, .one (.r true (int ((at_ + 1 + y.1 : Nat) : Int)))), (14, .one (.r true (int (N3 : Int)))), (11, .one (.r true (int (N2 : Int)))), (7, .one (.ptr 7 0 0 0)), (4, .one (.ptr 4 0 0 0)), (1, .one (.r false (int (at_ : Int)))), (0, .one (.r false (row nil 1 (rowsI L))))] [(7, .var 28 [.r true (int n1), .own 101 0 (y.2.1).length 1, .own 102 0 (y.2.2.1).length 1, .own 103 0 (y.2.2.2).length 3]), (101, .sl 3 1 true (ints (y.2.1))), (102, .sl 4 1 true (bools (y.2.2.1))), (103, .sl 70 3 true (edges (y.2.2.2))), (4, .var 28 [.r true (int 0), .r true (row true 0 []), .r true (row true 0 []), .r true (row true 0 [])])]), fun k => rfl, fun k vs gs h1 h2 => ?_, fun k ms h1 => ?_, fun k vs gs ms h1 h2 h3 => ?_⟩
      · cases vs with
        | nil => exact absurd rfl h1
        | cons v vs => rfl
      · cases ms with
        | nil => exact absurd rfl h1
        | cons v vs => rfl
      · cases vs with
        | nil => exact absurd rfl h1
        | cons v vs => cases ms with
          | nil => exact absurd rfl h3
          | cons v vs => rfl
    have hlD : (L.drop at_).length = L.length - at_ := List.length_drop ..
    obtain ⟨R, hR⟩ : ∃ R, R = rdLoop (L.drop at_) N2 (N2 + N3) 0 ⟨n1, [], [], []⟩ := ⟨_, rfl⟩
    rw [← hR]
    have hall : ∀ b ∈ L, b.length ≤ 1048576 := hL0
    generalize hDD : L.drop at_ = D at *
    have hR2 : ∀ x : Sta, R = (x, false) → rdFin D R = (x, 0, false) := fun x h => by rw [h]; rfl
    have hR3 : ∀ x : Sta, R = (x, true) → rdFin D R = (x, ((wantB x).length : Int), x.ok && decide (ckB x <+: D)) := fun x h => by rw [h]; rfl
    generalize rdFin D R = X at *
    refine Zaa (fun y : Nat × List Int × List Bool × List E3 => y.1 ≤ N2 + N3 ∧ R = rdLoop D N2 (N2 + N3 - y.1) y.1 ⟨n1, y.2.1, y.2.2.1, y.2.2.2⟩ ∧ y.2.1.length = min y.1 N2 ∧ y.2.2.1.length = y.2.1.length ∧ y.2.2.2.length = y.1 - N2) F (fun y => N2 + N3 - y.1) (0, [], [], []) ⟨Nat.zero_le _, hR, by simp, rfl, by simp⟩ (by
      rw [hF00]
      (refine Zi [] rfl ?_ ?_ <;> repeat' (first|refine wkS ?_ ?_|exact wkE|exact Zt hw0))) ?_
    rintro ⟨k, vs, gs, ms⟩ ⟨hk, hRk, hvl, hgl, hml⟩
    dsimp only at hk hRk hvl hgl hml
    clear hR KD1 KD2 KD3 hx hx2
    by_cases hkt : k < N2 + N3
    · have hf : N2 + N3 - k = (N2 + N3 - (k + 1)) + 1 := by omega
      rw [hf] at hRk
      obtain ⟨c, hc, hxc, hcl⟩ := hgetD k oM
      have hci := Zu c
      have hwc : IntKind.i64.wrap (((ints c).length : Int) - 1) = (c.length : Int) - 1 := by rw [hci]; exact IntWalk.i64_in _ oM
      have hwk : IntKind.i64.wrap (((at_ + 1 + k : Nat) : Int) + 1) = ((at_ + 1 + (k + 1) : Nat) : Int) := by rw [IntWalk.i64_in _ oM]; omega
      by_cases hkv : k < N2
      · have hms : ms = [] := List.eq_nil_of_length_eq_zero oM
        subst hms
        obtain ⟨n, j, t, e1, f1, g1⟩ := decForm (decAt c 1)
        have KV := Zc7 false c 1
        rw [e1] at KV
        have hRk2 := hRk.trans (rdLoop_V hkv hc f1)
        dsimp only at hRk2
        clear hRk hgetD e1 hc
        by_cases hgood : t = true ∧ j = (c.length : Int) - 1
        · rw [if_pos hgood] at hRk2
          obtain ⟨rfl, hj⟩ := hgood
          have hb := decForm_at f1 rfl
          have hj0 : 0 ≤ j := by omega
          have hxj := ints_atI (xs := c) (i := j) hj0 oM
          have hwn : IntKind.i64.wrap (n - 1) = n - 1 := IntWalk.i64_in _ oM
          have hfin : ∀ s' : St, Weak s' (F (k + 1, vs ++ [n - 1], gs ++ [c.getD j.toNat 0 == 1], [])) → ∃ y' : Nat × List Int × List Bool × List E3, (y'.1 ≤ N2 + N3 ∧ R = rdLoop D N2 (N2 + N3 - y'.1) y'.1 ⟨n1, y'.2.1, y'.2.2.1, y'.2.2.2⟩ ∧ y'.2.1.length = min y'.1 N2 ∧ y'.2.2.1.length = y'.2.1.length ∧ y'.2.2.2.length = y'.1 - N2) ∧ Weak s' (F y') ∧ N2 + N3 - y'.1 < N2 + N3 - k := fun s' h => ⟨(k + 1, vs ++ [n - 1], gs ++ [c.getD j.toNat 0 == 1], []), ⟨by dsimp only; omega, hRk2, by simp; omega, by simp; omega, by simp; omega⟩, h, by dsimp only; omega⟩
          rw [hF10 _ _ _ (by simp) (by simp)] at hfin
          have happV : ints (vs ++ [n - 1]) = ints vs ++ [.one (int (IntKind.i64.wrap (n - 1)))] := by rw [hwn]; unfold ints; simp
          have happG : bools (gs ++ [c.getD j.toNat 0 == 1]) = bools gs ++ [.one (bool (c.getD j.toNat 0 == 1))] := by unfold bools; simp
          rw [happV, happG] at hfin
          clear happV happG hRk2 f1 g1 hwn hR2 hR3
          generalize c.getD j.toNat 0 = z at *
          cases vs with
          | nil =>
            have hgs : gs = [] := List.eq_nil_of_length_eq_zero (by simpa using hgl)
            subst hgs
            rw [hF00]
            clear hF00 hF01 hF10 hF11
            repeat' (first|refine wk ?_|((first|refine' w_q rfl rfl ?xa rfl ?_|refine' v_q rfl rfl ?xa rfl ?_|refine' Zn rfl rfl (Zb rfl) rfl ?xa rfl ?_|refine' Zo rfl rfl (Zb rfl) rfl ?xa rfl ?_);case xa => first|exact Zx tbOk rfl rfl rfl rfl (by first|omega|exact hj0) (by first|exact hxc|exact hxj)|exact Zm KV rfl ⟨Zf (Za rfl), Zf (Za rfl), trivial⟩)|((first|refine' w_e rfl ?xa ?xb ?xc ?xe ?_|refine' v_e rfl ?xa ?xb ?xc ?xe ?_);(case xa => first|exact Zl [.tmp 148] tlOk rfl rfl rfl rfl rfl rfl (Zy rfl) (by simp)|exact Zl [.tmp 158] tlOk rfl rfl rfl rfl rfl rfl (Zy rfl) (by simp)|exact Ze 150 rfl (Zas tlOk rfl rfl rfl rfl rfl (Z6 (Z0 (Zj rfl) rfl) (by simp [plain1])) (by simp) (by simp only [maxLen, List.length_append, List.length_cons, List.length_nil, Zu, Zah];omega) (by (try simp only [List.length_append, List.length_cons, List.length_nil, Zu, Zah]);omega))|exact Ze 160 rfl (Zas tlOk rfl rfl rfl rfl rfl (Z6 (Z0 (Zj rfl) rfl) (by simp [plain1])) (by simp) (by simp only [maxLen, List.length_append, List.length_cons, List.length_nil, Zu, Zah];omega) (by (try simp only [List.length_append, List.length_cons, List.length_nil, Zu, Zah]);omega)));(case xb|xc|xe=>rfl);try refine wkD ?_)|(refine wkB ?_ ?_<;>intro hg_<;>try exact wkX)|fail)
            all_goals first
              | (refine hfin _ ?_
                 (refine Zi [(101, 150), (102, 160)] rfl ?_ ?_ <;> repeat' (first|refine wkS ?_ ?_|exact wkE|exact Zt hwk|exact Zz rfl rfl|exact Zba (by simp))))
              | (exfalso; omega)
          | cons v vs =>
            have hgs : gs ≠ [] := fun e => by rw [e] at hgl; simp at hgl
            rw [hF10 _ _ _ (by simp) hgs]
            clear hF00 hF01 hF10 hF11 hgs
            generalize v :: vs = VS at *
            have hvi := (Zu VS).symm
            have hgi := (Zah gs).symm
            repeat' (first|refine wk ?_|((first|refine' w_q rfl rfl ?xa rfl ?_|refine' v_q rfl rfl ?xa rfl ?_|refine' Zn rfl rfl (Zb rfl) rfl ?xa rfl ?_|refine' Zo rfl rfl (Zb rfl) rfl ?xa rfl ?_);case xa => first|exact Zx tbOk rfl rfl rfl rfl (by first|omega|exact hj0) (by first|exact hxc|exact hxj)|exact Zm KV rfl ⟨Zf (Za rfl), Zf (Za rfl), trivial⟩)|((first|refine' w_e rfl ?xa ?xb ?xc ?xe ?_|refine' v_e rfl ?xa ?xb ?xc ?xe ?_);(case xa => first|exact Zl [.tmp 148] tlOk rfl rfl rfl rfl rfl rfl (Zy rfl) (by simp)|exact Zl [.tmp 158] tlOk rfl rfl rfl rfl rfl rfl (Zy rfl) (by simp)|exact Ze 150 rfl (Zw tlOk rfl rfl rfl rfl rfl rfl (Z6 (Z0 (Zj rfl) rfl) (by simp [plain1])) hvi (by simp only [maxLen, List.length_append, List.length_cons, List.length_nil, Zu, Zah];omega) (by (try simp only [List.length_append, List.length_cons, List.length_nil, Zu, Zah]);omega))|exact Ze 160 rfl (Zw tlOk rfl rfl rfl rfl rfl rfl (Z6 (Z0 (Zj rfl) rfl) (by simp [plain1])) hgi (by simp only [maxLen, List.length_append, List.length_cons, List.length_nil, Zu, Zah];omega) (by (try simp only [List.length_append, List.length_cons, List.length_nil, Zu, Zah]);omega)));(case xb|xc|xe=>rfl);try refine wkD ?_)|(refine wkB ?_ ?_<;>intro hg_<;>try exact wkX)|fail)
            all_goals first
              | (refine hfin _ ?_
                 (refine Zi [(101, 150), (102, 160)] rfl ?_ ?_ <;> repeat' (first|refine wkS ?_ ?_|exact wkE|exact Zt hwk|exact Zz rfl rfl|exact var4 rfl (cown (by simp only [List.length_append, List.length_cons, List.length_nil, Zu])) (cown (by simp only [List.length_append, List.length_cons, List.length_nil, Zah])) rfl)))
              | (exfalso; omega)
        · rw [if_neg hgood] at hRk2
          have hX := hR2 _ hRk2
          rw [hX]
          dsimp only
          clear hX hR2 hR3 hRk2 f1
          cases vs with
          | nil =>
            have hgs : gs = [] := List.eq_nil_of_length_eq_zero (by simpa using hgl)
            subst hgs
            rw [hF00]
            clear hF00 hF01 hF10 hF11
            repeat' (first|refine wk ?_|((first|refine' w_q rfl rfl ?xa rfl ?_|refine' v_q rfl rfl ?xa rfl ?_|refine' Zn rfl rfl (Zb rfl) rfl ?xa rfl ?_|refine' Zo rfl rfl (Zb rfl) rfl ?xa rfl ?_);case xa => first|exact Zx tbOk rfl rfl rfl rfl (by first|omega|exact hj0) (by first|exact hxc|exact hxj)|exact Zm KV rfl ⟨Zf (Za rfl), Zf (Za rfl), trivial⟩)|((first|refine' w_e rfl ?xa ?xb ?xc ?xe ?_|refine' v_e rfl ?xa ?xb ?xc ?xe ?_);(case xa => first|exact Zl [.tmp 148] tlOk rfl rfl rfl rfl rfl rfl (Zy rfl) (by simp)|exact Zl [.tmp 158] tlOk rfl rfl rfl rfl rfl rfl (Zy rfl) (by simp)|exact Ze 150 rfl (Zas tlOk rfl rfl rfl rfl rfl (Z6 (Z0 (Zj rfl) rfl) (by simp [plain1])) (by simp) (by simp only [maxLen, List.length_append, List.length_cons, List.length_nil, Zu, Zah];omega) (by (try simp only [List.length_append, List.length_cons, List.length_nil, Zu, Zah]);omega))|exact Ze 160 rfl (Zas tlOk rfl rfl rfl rfl rfl (Z6 (Z0 (Zj rfl) rfl) (by simp [plain1])) (by simp) (by simp only [maxLen, List.length_append, List.length_cons, List.length_nil, Zu, Zah];omega) (by (try simp only [List.length_append, List.length_cons, List.length_nil, Zu, Zah]);omega)));(case xb|xc|xe=>rfl);try refine wkD ?_)|(refine wkB ?_ ?_<;>intro hg_<;>try exact wkX)|fail)
            all_goals first
              | (exfalso; exact hgood ⟨by assumption, by omega⟩)
              | exact Z9 (Za8 rfl rfl tyF0 rfl rfl rfl (Za7 (by refine ⟨Za5, ?_, ?_, ?_, trivial⟩ <;> first|exact Zaw|exact Z5 (Zj rfl) hvi|exact Z5 (Zj rfl) hgi|exact Z5 (Zj rfl) hmi))) (Zk rfl (Zv rfl)) (Zk rfl (Zr rfl))
          | cons v vs =>
            have hgs : gs ≠ [] := fun e => by rw [e] at hgl; simp at hgl
            rw [hF10 _ _ _ (by simp) hgs]
            clear hF00 hF01 hF10 hF11
            have hTT : stateR ⟨n1, v :: vs, gs, []⟩ = stateP n1 false (v :: vs) false gs true [] := by
              cases gs with
              | nil => exact absurd rfl hgs
              | cons g gs => rfl
            rw [hTT]
            clear hTT hgs
            generalize v :: vs = VS at *
            have hvi := (Zu VS).symm
            have hgi := (Zah gs).symm
            repeat' (first|refine wk ?_|((first|refine' w_q rfl rfl ?xa rfl ?_|refine' v_q rfl rfl ?xa rfl ?_|refine' Zn rfl rfl (Zb rfl) rfl ?xa rfl ?_|refine' Zo rfl rfl (Zb rfl) rfl ?xa rfl ?_);case xa => first|exact Zx tbOk rfl rfl rfl rfl (by first|omega|exact hj0) (by first|exact hxc|exact hxj)|exact Zm KV rfl ⟨Zf (Za rfl), Zf (Za rfl), trivial⟩)|((first|refine' w_e rfl ?xa ?xb ?xc ?xe ?_|refine' v_e rfl ?xa ?xb ?xc ?xe ?_);(case xa => first|exact Zl [.tmp 148] tlOk rfl rfl rfl rfl rfl rfl (Zy rfl) (by simp)|exact Zl [.tmp 158] tlOk rfl rfl rfl rfl rfl rfl (Zy rfl) (by simp)|exact Ze 150 rfl (Zw tlOk rfl rfl rfl rfl rfl rfl (Z6 (Z0 (Zj rfl) rfl) (by simp [plain1])) hvi (by simp only [maxLen, List.length_append, List.length_cons, List.length_nil, Zu, Zah];omega) (by (try simp only [List.length_append, List.length_cons, List.length_nil, Zu, Zah]);omega))|exact Ze 160 rfl (Zw tlOk rfl rfl rfl rfl rfl rfl (Z6 (Z0 (Zj rfl) rfl) (by simp [plain1])) hgi (by simp only [maxLen, List.length_append, List.length_cons, List.length_nil, Zu, Zah];omega) (by (try simp only [List.length_append, List.length_cons, List.length_nil, Zu, Zah]);omega)));(case xb|xc|xe=>rfl);try refine wkD ?_)|(refine wkB ?_ ?_<;>intro hg_<;>try exact wkX)|fail)
            all_goals first
              | (exfalso; exact hgood ⟨by assumption, by omega⟩)
              | exact Z9 (Za8 rfl rfl tyF0 rfl rfl rfl (Za7 (by refine ⟨Za5, ?_, ?_, ?_, trivial⟩ <;> first|exact Zaw|exact Z5 (Zj rfl) hvi|exact Z5 (Zj rfl) hgi|exact Z5 (Zj rfl) hmi))) (Zk rfl (Zv rfl)) (Zk rfl (Zr rfl))
      · obtain ⟨e, t, e1, f1⟩ := edgeForm (readE (c.drop 1))
        have hsl : ((ints c).drop (min 1 c.length)).take ((ints c).length - min 1 c.length) = ints (c.drop 1) := by
          cases c with
          | nil => rfl
          | cons z c => rw [show min 1 (z :: c).length = 1 by simp, Zu]; unfold ints; simp [List.take_of_length_le]
        have hmin : Abs.D.one (Cell.r true (int (if ((ints c).length : Int) < 1 then ((ints c).length : Int) else 1))) = Abs.D.one (.r true (int ((min 1 c.length : Nat) : Int))) := by
          rw [hci]; congr 3; split <;> omega
        have KM := f_specReadEdge false (c.drop 1)
        rw [e1, ← hsl] at KM
        have hRk2 := hRk.trans (rdLoop_M hkv hc f1)
        dsimp only at hRk2
        clear hRk hgetD e1 hc f1 hsl
        have hmn : min 1 c.length ≤ (ints c).length := by rw [hci]; omega
        cases t
        · rw [if_neg (by decide)] at hRk2
          have hX := hR2 _ hRk2
          rw [hX]
          dsimp only
          clear hX hR2 hR3 hRk2
          obtain ⟨e1, e2, e3⟩ := e
          by_cases hvs : vs = []
          · have hgs : gs = [] := by subst hvs; exact List.eq_nil_of_length_eq_zero (by simpa using hgl)
            subst hvs hgs
            by_cases hms : ms = []
            · subst hms
              rw [hF00]
              clear hF00 hF01 hF10 hF11
              have hTT : stateR ⟨n1, [], [], []⟩ = stateP n1 true [] true [] true [] := rfl
              rw [hTT]
              clear hTT
              repeat' (first|refine wk ?_|((first|refine' w_q rfl rfl ?xa rfl ?_|refine' v_q rfl rfl ?xa rfl ?_|refine' Zn rfl rfl (Zb rfl) rfl ?xa rfl ?_|refine' Zo rfl rfl (Zb rfl) rfl ?xa rfl ?_);case xa => first|exact Zx tbOk rfl rfl rfl rfl oM hxc|exact Zam (a := min 1 c.length) (b := (ints c).length) tbOk rfl rfl rfl ⟨_, (Za rfl).trans hmin⟩ rfl hmn (Nat.le_refl _)|exact Zm KM rfl ⟨Zf (Za rfl), trivial⟩)|((first|refine' w_e rfl ?xa ?xb ?xc ?xe ?_|refine' v_e rfl ?xa ?xb ?xc ?xe ?_);(case xa => first|exact Zl [.tmp 182] tlOk rfl rfl rfl rfl rfl rfl (Zy rfl) (by simp)|exact Ze 184 rfl (Zas tlOk rfl rfl rfl rfl rfl (Z6 (Z0 (Zj rfl) rfl) (Za6 _ _ _)) (by simp) (by simp only [maxLen, List.length_append, List.length_cons, List.length_nil, Zp];omega) (by (try simp only [List.length_append, List.length_cons, List.length_nil, Zp]);omega)));(case xb|xc|xe=>rfl);try refine wkD ?_)|(refine wkB ?_ ?_<;>intro hg_<;>try exact wkX)|fail)
              all_goals first
                | exact Z9 (Za8 rfl rfl tyF0 rfl rfl rfl (Za7 (by refine ⟨Za5, ?_, ?_, ?_, trivial⟩ <;> first|exact Zaw|exact Z5 (Zj rfl) hvi|exact Z5 (Zj rfl) hgi|exact Z5 (Zj rfl) hmi))) (Zk rfl (Zv rfl)) (Zk rfl (Zr rfl))
                | (exfalso; simp_all; done)
            · have hmf : ms.isEmpty = false := by cases ms with
                | nil => exact absurd rfl hms
                | cons v w => rfl
              have hmi := (Zp ms).symm
              rw [hF01 _ _ hms]
              clear hF00 hF01 hF10 hF11
              have hTT : stateR ⟨n1, [], [], ms⟩ = stateP n1 true [] true [] false ms := (by show stateP _ _ _ _ _ _ _ = _;rw [hmf];first|rfl|skip)
              rw [hTT]
              clear hTT
              repeat' (first|refine wk ?_|((first|refine' w_q rfl rfl ?xa rfl ?_|refine' v_q rfl rfl ?xa rfl ?_|refine' Zn rfl rfl (Zb rfl) rfl ?xa rfl ?_|refine' Zo rfl rfl (Zb rfl) rfl ?xa rfl ?_);case xa => first|exact Zx tbOk rfl rfl rfl rfl oM hxc|exact Zam (a := min 1 c.length) (b := (ints c).length) tbOk rfl rfl rfl ⟨_, (Za rfl).trans hmin⟩ rfl hmn (Nat.le_refl _)|exact Zm KM rfl ⟨Zf (Za rfl), trivial⟩)|((first|refine' w_e rfl ?xa ?xb ?xc ?xe ?_|refine' v_e rfl ?xa ?xb ?xc ?xe ?_);(case xa => first|exact Zl [.tmp 182] tlOk rfl rfl rfl rfl rfl rfl (Zy rfl) (by simp)|exact Ze 184 rfl (Zw tlOk rfl rfl rfl rfl rfl rfl (Z6 (Z0 (Zj rfl) rfl) (Za6 _ _ _)) hmi (by simp only [maxLen, List.length_append, List.length_cons, List.length_nil, Zp];omega) (by (try simp only [List.length_append, List.length_cons, List.length_nil, Zp]);omega)));(case xb|xc|xe=>rfl);try refine wkD ?_)|(refine wkB ?_ ?_<;>intro hg_<;>try exact wkX)|fail)
              all_goals first
                | exact Z9 (Za8 rfl rfl tyF0 rfl rfl rfl (Za7 (by refine ⟨Za5, ?_, ?_, ?_, trivial⟩ <;> first|exact Zaw|exact Z5 (Zj rfl) hvi|exact Z5 (Zj rfl) hgi|exact Z5 (Zj rfl) hmi))) (Zk rfl (Zv rfl)) (Zk rfl (Zr rfl))
                | (exfalso; simp_all; done)
          · have hgs : gs ≠ [] := fun e => hvs (by rw [e] at hgl; exact List.eq_nil_of_length_eq_zero (by simpa using hgl.symm))
            have hvf : vs.isEmpty = false := by cases vs with
              | nil => exact absurd rfl hvs
              | cons v w => rfl
            have hgf : gs.isEmpty = false := by cases gs with
              | nil => exact absurd rfl hgs
              | cons v w => rfl
            have hvi := (Zu vs).symm
            have hgi := (Zah gs).symm
            by_cases hms : ms = []
            · subst hms
              rw [hF10 _ _ _ hvs hgs]
              clear hF00 hF01 hF10 hF11
              have hTT : stateR ⟨n1, vs, gs, []⟩ = stateP n1 false vs false gs true [] := (by show stateP _ _ _ _ _ _ _ = _;rw [hvf, hgf];first|rfl|skip)
              rw [hTT]
              clear hTT
              repeat' (first|refine wk ?_|((first|refine' w_q rfl rfl ?xa rfl ?_|refine' v_q rfl rfl ?xa rfl ?_|refine' Zn rfl rfl (Zb rfl) rfl ?xa rfl ?_|refine' Zo rfl rfl (Zb rfl) rfl ?xa rfl ?_);case xa => first|exact Zx tbOk rfl rfl rfl rfl oM hxc|exact Zam (a := min 1 c.length) (b := (ints c).length) tbOk rfl rfl rfl ⟨_, (Za rfl).trans hmin⟩ rfl hmn (Nat.le_refl _)|exact Zm KM rfl ⟨Zf (Za rfl), trivial⟩)|((first|refine' w_e rfl ?xa ?xb ?xc ?xe ?_|refine' v_e rfl ?xa ?xb ?xc ?xe ?_);(case xa => first|exact Zl [.tmp 182] tlOk rfl rfl rfl rfl rfl rfl (Zy rfl) (by simp)|exact Ze 184 rfl (Zas tlOk rfl rfl rfl rfl rfl (Z6 (Z0 (Zj rfl) rfl) (Za6 _ _ _)) (by simp) (by simp only [maxLen, List.length_append, List.length_cons, List.length_nil, Zp];omega) (by (try simp only [List.length_append, List.length_cons, List.length_nil, Zp]);omega)));(case xb|xc|xe=>rfl);try refine wkD ?_)|(refine wkB ?_ ?_<;>intro hg_<;>try exact wkX)|fail)
              all_goals first
                | exact Z9 (Za8 rfl rfl tyF0 rfl rfl rfl (Za7 (by refine ⟨Za5, ?_, ?_, ?_, trivial⟩ <;> first|exact Zaw|exact Z5 (Zj rfl) hvi|exact Z5 (Zj rfl) hgi|exact Z5 (Zj rfl) hmi))) (Zk rfl (Zv rfl)) (Zk rfl (Zr rfl))
                | (exfalso; simp_all; done)
            · have hmf : ms.isEmpty = false := by cases ms with
                | nil => exact absurd rfl hms
                | cons v w => rfl
              have hmi := (Zp ms).symm
              rw [hF11 _ _ _ _ hvs hgs hms]
              clear hF00 hF01 hF10 hF11
              have hTT : stateR ⟨n1, vs, gs, ms⟩ = stateP n1 false vs false gs false ms := (by show stateP _ _ _ _ _ _ _ = _;rw [hvf, hgf, hmf];first|rfl|skip)
              rw [hTT]
              clear hTT
              repeat' (first|refine wk ?_|((first|refine' w_q rfl rfl ?xa rfl ?_|refine' v_q rfl rfl ?xa rfl ?_|refine' Zn rfl rfl (Zb rfl) rfl ?xa rfl ?_|refine' Zo rfl rfl (Zb rfl) rfl ?xa rfl ?_);case xa => first|exact Zx tbOk rfl rfl rfl rfl oM hxc|exact Zam (a := min 1 c.length) (b := (ints c).length) tbOk rfl rfl rfl ⟨_, (Za rfl).trans hmin⟩ rfl hmn (Nat.le_refl _)|exact Zm KM rfl ⟨Zf (Za rfl), trivial⟩)|((first|refine' w_e rfl ?xa ?xb ?xc ?xe ?_|refine' v_e rfl ?xa ?xb ?xc ?xe ?_);(case xa => first|exact Zl [.tmp 182] tlOk rfl rfl rfl rfl rfl rfl (Zy rfl) (by simp)|exact Ze 184 rfl (Zw tlOk rfl rfl rfl rfl rfl rfl (Z6 (Z0 (Zj rfl) rfl) (Za6 _ _ _)) hmi (by simp only [maxLen, List.length_append, List.length_cons, List.length_nil, Zp];omega) (by (try simp only [List.length_append, List.length_cons, List.length_nil, Zp]);omega)));(case xb|xc|xe=>rfl);try refine wkD ?_)|(refine wkB ?_ ?_<;>intro hg_<;>try exact wkX)|fail)
              all_goals first
                | exact Z9 (Za8 rfl rfl tyF0 rfl rfl rfl (Za7 (by refine ⟨Za5, ?_, ?_, ?_, trivial⟩ <;> first|exact Zaw|exact Z5 (Zj rfl) hvi|exact Z5 (Zj rfl) hgi|exact Z5 (Zj rfl) hmi))) (Zk rfl (Zv rfl)) (Zk rfl (Zr rfl))
                | (exfalso; simp_all; done)
        · rw [if_pos rfl] at hRk2
          have hfin : ∀ s' : St, Weak s' (F (k + 1, vs, gs, ms ++ [e])) → ∃ y' : Nat × List Int × List Bool × List E3, (y'.1 ≤ N2 + N3 ∧ R = rdLoop D N2 (N2 + N3 - y'.1) y'.1 ⟨n1, y'.2.1, y'.2.2.1, y'.2.2.2⟩ ∧ y'.2.1.length = min y'.1 N2 ∧ y'.2.2.1.length = y'.2.1.length ∧ y'.2.2.2.length = y'.1 - N2) ∧ Weak s' (F y') ∧ N2 + N3 - y'.1 < N2 + N3 - k := fun s' h => ⟨(k + 1, vs, gs, ms ++ [e]), ⟨by dsimp only; omega, hRk2, by dsimp only; omega, hgl, by simp; omega⟩, h, by dsimp only; omega⟩
          have happM : edges (ms ++ [e]) = edges ms ++ [edgeP e] := by unfold edges; simp
          clear hRk2 hR2 hR3
          by_cases hvs : vs = []
          · have hgs : gs = [] := by subst hvs; exact List.eq_nil_of_length_eq_zero (by simpa using hgl)
            subst hvs hgs
            by_cases hms : ms = []
            · subst hms
              rw [hF01 _ _ (by simp), happM] at hfin
              rw [hF00]
              clear hF00 hF01 hF10 hF11 happM
              obtain ⟨e1, e2, e3⟩ := e
              repeat' (first|refine wk ?_|((first|refine' w_q rfl rfl ?xa rfl ?_|refine' v_q rfl rfl ?xa rfl ?_|refine' Zn rfl rfl (Zb rfl) rfl ?xa rfl ?_|refine' Zo rfl rfl (Zb rfl) rfl ?xa rfl ?_);case xa => first|exact Zx tbOk rfl rfl rfl rfl oM hxc|exact Zam (a := min 1 c.length) (b := (ints c).length) tbOk rfl rfl rfl ⟨_, (Za rfl).trans hmin⟩ rfl hmn (Nat.le_refl _)|exact Zm KM rfl ⟨Zf (Za rfl), trivial⟩)|((first|refine' w_e rfl ?xa ?xb ?xc ?xe ?_|refine' v_e rfl ?xa ?xb ?xc ?xe ?_);(case xa => first|exact Zl [.tmp 182] tlOk rfl rfl rfl rfl rfl rfl (Zy rfl) (by simp)|exact Ze 184 rfl (Zas tlOk rfl rfl rfl rfl rfl (Z6 (Z0 (Zj rfl) rfl) (Za6 _ _ _)) (by simp) (by simp only [maxLen, List.length_append, List.length_cons, List.length_nil, Zp];omega) (by (try simp only [List.length_append, List.length_cons, List.length_nil, Zp]);omega)));(case xb|xc|xe=>rfl);try refine wkD ?_)|(refine wkB ?_ ?_<;>intro hg_<;>try exact wkX)|fail)
              all_goals first
                | (refine hfin _ ?_
                   (refine Zi [(103, 184)] rfl ?_ ?_ <;> repeat' (first|refine wkS ?_ ?_|exact wkE|exact Zt hwk|exact Zz rfl rfl|exact var4 rfl rfl rfl (cown (by simp only [List.length_append, List.length_cons, List.length_nil, Zp])))))
                | (exfalso; simp_all; done)
            · have hmf : ms.isEmpty = false := by cases ms with
                | nil => exact absurd rfl hms
                | cons v w => rfl
              have hmi := (Zp ms).symm
              rw [hF01 _ _ (by simp), happM] at hfin
              rw [hF01 _ _ hms]
              clear hF00 hF01 hF10 hF11 happM
              obtain ⟨e1, e2, e3⟩ := e
              repeat' (first|refine wk ?_|((first|refine' w_q rfl rfl ?xa rfl ?_|refine' v_q rfl rfl ?xa rfl ?_|refine' Zn rfl rfl (Zb rfl) rfl ?xa rfl ?_|refine' Zo rfl rfl (Zb rfl) rfl ?xa rfl ?_);case xa => first|exact Zx tbOk rfl rfl rfl rfl oM hxc|exact Zam (a := min 1 c.length) (b := (ints c).length) tbOk rfl rfl rfl ⟨_, (Za rfl).trans hmin⟩ rfl hmn (Nat.le_refl _)|exact Zm KM rfl ⟨Zf (Za rfl), trivial⟩)|((first|refine' w_e rfl ?xa ?xb ?xc ?xe ?_|refine' v_e rfl ?xa ?xb ?xc ?xe ?_);(case xa => first|exact Zl [.tmp 182] tlOk rfl rfl rfl rfl rfl rfl (Zy rfl) (by simp)|exact Ze 184 rfl (Zw tlOk rfl rfl rfl rfl rfl rfl (Z6 (Z0 (Zj rfl) rfl) (Za6 _ _ _)) hmi (by simp only [maxLen, List.length_append, List.length_cons, List.length_nil, Zp];omega) (by (try simp only [List.length_append, List.length_cons, List.length_nil, Zp]);omega)));(case xb|xc|xe=>rfl);try refine wkD ?_)|(refine wkB ?_ ?_<;>intro hg_<;>try exact wkX)|fail)
              all_goals first
                | (refine hfin _ ?_
                   (refine Zi [(103, 184)] rfl ?_ ?_ <;> repeat' (first|refine wkS ?_ ?_|exact wkE|exact Zt hwk|exact Zz rfl rfl|exact var4 rfl rfl rfl (cown (by simp only [List.length_append, List.length_cons, List.length_nil, Zp])))))
                | (exfalso; simp_all; done)
          · have hgs : gs ≠ [] := fun e => hvs (by rw [e] at hgl; exact List.eq_nil_of_length_eq_zero (by simpa using hgl.symm))
            have hvf : vs.isEmpty = false := by cases vs with
              | nil => exact absurd rfl hvs
              | cons v w => rfl
            have hgf : gs.isEmpty = false := by cases gs with
              | nil => exact absurd rfl hgs
              | cons v w => rfl
            have hvi := (Zu vs).symm
            have hgi := (Zah gs).symm
            by_cases hms : ms = []
            · subst hms
              rw [hF11 _ _ _ _ hvs hgs (by simp), happM] at hfin
              rw [hF10 _ _ _ hvs hgs]
              clear hF00 hF01 hF10 hF11 happM
              obtain ⟨e1, e2, e3⟩ := e
              repeat' (first|refine wk ?_|((first|refine' w_q rfl rfl ?xa rfl ?_|refine' v_q rfl rfl ?xa rfl ?_|refine' Zn rfl rfl (Zb rfl) rfl ?xa rfl ?_|refine' Zo rfl rfl (Zb rfl) rfl ?xa rfl ?_);case xa => first|exact Zx tbOk rfl rfl rfl rfl oM hxc|exact Zam (a := min 1 c.length) (b := (ints c).length) tbOk rfl rfl rfl ⟨_, (Za rfl).trans hmin⟩ rfl hmn (Nat.le_refl _)|exact Zm KM rfl ⟨Zf (Za rfl), trivial⟩)|((first|refine' w_e rfl ?xa ?xb ?xc ?xe ?_|refine' v_e rfl ?xa ?xb ?xc ?xe ?_);(case xa => first|exact Zl [.tmp 182] tlOk rfl rfl rfl rfl rfl rfl (Zy rfl) (by simp)|exact Ze 184 rfl (Zas tlOk rfl rfl rfl rfl rfl (Z6 (Z0 (Zj rfl) rfl) (Za6 _ _ _)) (by simp) (by simp only [maxLen, List.length_append, List.length_cons, List.length_nil, Zp];omega) (by (try simp only [List.length_append, List.length_cons, List.length_nil, Zp]);omega)));(case xb|xc|xe=>rfl);try refine wkD ?_)|(refine wkB ?_ ?_<;>intro hg_<;>try exact wkX)|fail)
              all_goals first
                | (refine hfin _ ?_
                   (refine Zi [(103, 184)] rfl ?_ ?_ <;> repeat' (first|refine wkS ?_ ?_|exact wkE|exact Zt hwk|exact Zz rfl rfl|exact var4 rfl rfl rfl (cown (by simp only [List.length_append, List.length_cons, List.length_nil, Zp])))))
                | (exfalso; simp_all; done)
            · have hmf : ms.isEmpty = false := by cases ms with
                | nil => exact absurd rfl hms
                | cons v w => rfl
              have hmi := (Zp ms).symm
              rw [hF11 _ _ _ _ hvs hgs (by simp), happM] at hfin
              rw [hF11 _ _ _ _ hvs hgs hms]
              clear hF00 hF01 hF10 hF11 happM
              obtain ⟨e1, e2, e3⟩ := e
              repeat' (first|refine wk ?_|((first|refine' w_q rfl rfl ?xa rfl ?_|refine' v_q rfl rfl ?xa rfl ?_|refine' Zn rfl rfl (Zb rfl) rfl ?xa rfl ?_|refine' Zo rfl rfl (Zb rfl) rfl ?xa rfl ?_);case xa => first|exact Zx tbOk rfl rfl rfl rfl oM hxc|exact Zam (a := min 1 c.length) (b := (ints c).length) tbOk rfl rfl rfl ⟨_, (Za rfl).trans hmin⟩ rfl hmn (Nat.le_refl _)|exact Zm KM rfl ⟨Zf (Za rfl), trivial⟩)|((first|refine' w_e rfl ?xa ?xb ?xc ?xe ?_|refine' v_e rfl ?xa ?xb ?xc ?xe ?_);(case xa => first|exact Zl [.tmp 182] tlOk rfl rfl rfl rfl rfl rfl (Zy rfl) (by simp)|exact Ze 184 rfl (Zw tlOk rfl rfl rfl rfl rfl rfl (Z6 (Z0 (Zj rfl) rfl) (Za6 _ _ _)) hmi (by simp only [maxLen, List.length_append, List.length_cons, List.length_nil, Zp];omega) (by (try simp only [List.length_append, List.length_cons, List.length_nil, Zp]);omega)));(case xb|xc|xe=>rfl);try refine wkD ?_)|(refine wkB ?_ ?_<;>intro hg_<;>try exact wkX)|fail)
              all_goals first
                | (refine hfin _ ?_
                   (refine Zi [(103, 184)] rfl ?_ ?_ <;> repeat' (first|refine wkS ?_ ?_|exact wkE|exact Zt hwk|exact Zz rfl rfl|exact var4 rfl rfl rfl (cown (by simp only [List.length_append, List.length_cons, List.length_nil, Zp])))))
                | (exfalso; simp_all; done)
    · obtain rfl : k = N2 + N3 := by omega
      rw [Nat.sub_self, rdLoop] at hRk
      have hX := hR3 _ hRk
      rw [hX]
      dsimp only
      clear hX hR2 hR3 hRk hgetD
      by_cases hvs : vs = []
      · have hgs : gs = [] := by subst hvs; exact List.eq_nil_of_length_eq_zero (by simpa using hgl)
        subst hvs hgs
        by_cases hms : ms = []
        · subst hms
          rw [hF00]
          clear hF00 hF01 hF10 hF11
          have hTT : stateR ⟨n1, [], [], []⟩ = stateP n1 true [] true [] true [] := rfl
          rw [hTT]
          clear hTT
          have KB := Zc1 ⟨n1, [], [], []⟩ true true true (by dsimp only [List.length_nil]; omega) (by dsimp only [List.length_nil]; omega) (by dsimp only [List.length_nil]; omega)
          have hwb : wantB ⟨n1, [], [], []⟩ = if Sta.ok ⟨n1, [], [], []⟩ then ckB ⟨n1, [], [], []⟩ else [] := rfl
          rw [← hwb] at KB
          (try dsimp only at KB)
          have hwl : (wantB ⟨n1, [], [], []⟩).length ≤ 1048576 := wantB_len _
          have KS := fun h => f_l18Same nil false L (wantB ⟨n1, [], [], []⟩) at_ oM hwl oM hall h
          rw [hDD] at KS
          have hwe := wantB_ok ⟨n1, [], [], []⟩
          (try dsimp only at hwe)
          generalize Sta.ok ⟨n1, [], [], []⟩ = ok at *
          generalize wantB ⟨n1, [], [], []⟩ = W at *
          have hwi := Zan W
          clear hwb
          cases ok
          · obtain rfl : W = [] := hwe.1 rfl
            have hwi0 : (rowsI []).length = 0 := rfl
            clear KS hwe
            repeat' (first|refine wk ?_|((first|refine' w_q rfl rfl ?xa rfl ?_|refine' v_q rfl rfl ?xa rfl ?_|refine' Zn rfl rfl (Zb rfl) rfl ?xa rfl ?_|refine' Zo rfl rfl (Zb rfl) rfl ?xa rfl ?_);case xa => exact Zm KB rfl ⟨Zq (Za rfl) ⟨Zd, Zav, Zav, Zav, trivial⟩, trivial⟩)|(refine wkB ?_ ?_<;>intro hg_<;>try exact wkX)|fail)
            all_goals first
              | exact Z9 (Za8 rfl rfl tyF0 rfl rfl rfl (Za7 (by refine ⟨Za5, ?_, ?_, ?_, trivial⟩ <;> first|exact Zaw|exact Z5 (Zj rfl) hvi|exact Z5 (Zj rfl) hgi|exact Z5 (Zj rfl) hmi))) (Zk rfl (Zv rfl)) (Zk rfl (Zr rfl))
              | (exfalso; omega)
          · obtain ⟨hw1, hw2⟩ := hwe.2 rfl
            have KS2 := KS hw1
            rw [hw2]
            clear KS hwe hw2
            repeat' (first|refine wk ?_|((first|refine' w_q rfl rfl ?xa rfl ?_|refine' v_q rfl rfl ?xa rfl ?_|refine' Zn rfl rfl (Zb rfl) rfl ?xa rfl ?_|refine' Zo rfl rfl (Zb rfl) rfl ?xa rfl ?_);case xa => first|exact Zm KB rfl ⟨Zq (Za rfl) ⟨Zd, Zav, Zav, Zav, trivial⟩, trivial⟩|exact Zm KS2 rfl ⟨Zf (Za rfl), Zf (Za rfl), Zf (Za rfl), trivial⟩)|(refine wkB ?_ ?_<;>intro hg_<;>try exact wkX)|fail)
            all_goals first
              | exact Z9 (Za8 rfl rfl tyF0 rfl rfl rfl (Za7 (by refine ⟨Za5, ?_, ?_, ?_, trivial⟩ <;> first|exact Zaw|exact Z5 (Zj rfl) hvi|exact Z5 (Zj rfl) hgi|exact Z5 (Zj rfl) hmi))) (Zk rfl (Zv (by rw [hwi]))) (Zk rfl (Zr rfl))
              | (exfalso; omega)
        · have hmf : ms.isEmpty = false := by cases ms with
            | nil => exact absurd rfl hms
            | cons v w => rfl
          have hmi := (Zp ms).symm
          rw [hF01 _ _ hms]
          clear hF00 hF01 hF10 hF11
          have hTT : stateR ⟨n1, [], [], ms⟩ = stateP n1 true [] true [] false ms := (by show stateP _ _ _ _ _ _ _ = _;rw [hmf];first|rfl|skip)
          rw [hTT]
          clear hTT
          have KB := Zc1 ⟨n1, [], [], ms⟩ true true false (by dsimp only [List.length_nil]; omega) (by dsimp only [List.length_nil]; omega) (by dsimp only [List.length_nil]; omega)
          have hwb : wantB ⟨n1, [], [], ms⟩ = if Sta.ok ⟨n1, [], [], ms⟩ then ckB ⟨n1, [], [], ms⟩ else [] := rfl
          rw [← hwb] at KB
          (try dsimp only at KB)
          have hwl : (wantB ⟨n1, [], [], ms⟩).length ≤ 1048576 := wantB_len _
          have KS := fun h => f_l18Same nil false L (wantB ⟨n1, [], [], ms⟩) at_ oM hwl oM hall h
          rw [hDD] at KS
          have hwe := wantB_ok ⟨n1, [], [], ms⟩
          (try dsimp only at hwe)
          generalize Sta.ok ⟨n1, [], [], ms⟩ = ok at *
          generalize wantB ⟨n1, [], [], ms⟩ = W at *
          have hwi := Zan W
          clear hwb
          cases ok
          · obtain rfl : W = [] := hwe.1 rfl
            have hwi0 : (rowsI []).length = 0 := rfl
            clear KS hwe
            repeat' (first|refine wk ?_|((first|refine' w_q rfl rfl ?xa rfl ?_|refine' v_q rfl rfl ?xa rfl ?_|refine' Zn rfl rfl (Zb rfl) rfl ?xa rfl ?_|refine' Zo rfl rfl (Zb rfl) rfl ?xa rfl ?_);case xa => exact Zm KB rfl ⟨Zq (Za rfl) ⟨Zd, Zav, Zav, Zaf (Zj rfl) hmi, trivial⟩, trivial⟩)|(refine wkB ?_ ?_<;>intro hg_<;>try exact wkX)|fail)
            all_goals first
              | exact Z9 (Za8 rfl rfl tyF0 rfl rfl rfl (Za7 (by refine ⟨Za5, ?_, ?_, ?_, trivial⟩ <;> first|exact Zaw|exact Z5 (Zj rfl) hvi|exact Z5 (Zj rfl) hgi|exact Z5 (Zj rfl) hmi))) (Zk rfl (Zv rfl)) (Zk rfl (Zr rfl))
              | (exfalso; omega)
          · obtain ⟨hw1, hw2⟩ := hwe.2 rfl
            have KS2 := KS hw1
            rw [hw2]
            clear KS hwe hw2
            repeat' (first|refine wk ?_|((first|refine' w_q rfl rfl ?xa rfl ?_|refine' v_q rfl rfl ?xa rfl ?_|refine' Zn rfl rfl (Zb rfl) rfl ?xa rfl ?_|refine' Zo rfl rfl (Zb rfl) rfl ?xa rfl ?_);case xa => first|exact Zm KB rfl ⟨Zq (Za rfl) ⟨Zd, Zav, Zav, Zaf (Zj rfl) hmi, trivial⟩, trivial⟩|exact Zm KS2 rfl ⟨Zf (Za rfl), Zf (Za rfl), Zf (Za rfl), trivial⟩)|(refine wkB ?_ ?_<;>intro hg_<;>try exact wkX)|fail)
            all_goals first
              | exact Z9 (Za8 rfl rfl tyF0 rfl rfl rfl (Za7 (by refine ⟨Za5, ?_, ?_, ?_, trivial⟩ <;> first|exact Zaw|exact Z5 (Zj rfl) hvi|exact Z5 (Zj rfl) hgi|exact Z5 (Zj rfl) hmi))) (Zk rfl (Zv (by rw [hwi]))) (Zk rfl (Zr rfl))
              | (exfalso; omega)
      · have hgs : gs ≠ [] := fun e => hvs (by rw [e] at hgl; exact List.eq_nil_of_length_eq_zero (by simpa using hgl.symm))
        have hvf : vs.isEmpty = false := by cases vs with
          | nil => exact absurd rfl hvs
          | cons v w => rfl
        have hgf : gs.isEmpty = false := by cases gs with
          | nil => exact absurd rfl hgs
          | cons v w => rfl
        have hvi := (Zu vs).symm
        have hgi := (Zah gs).symm
        by_cases hms : ms = []
        · subst hms
          rw [hF10 _ _ _ hvs hgs]
          clear hF00 hF01 hF10 hF11
          have hTT : stateR ⟨n1, vs, gs, []⟩ = stateP n1 false vs false gs true [] := (by show stateP _ _ _ _ _ _ _ = _;rw [hvf, hgf];first|rfl|skip)
          rw [hTT]
          clear hTT
          have KB := Zc1 ⟨n1, vs, gs, []⟩ false false true (by dsimp only [List.length_nil]; omega) (by dsimp only [List.length_nil]; omega) (by dsimp only [List.length_nil]; omega)
          have hwb : wantB ⟨n1, vs, gs, []⟩ = if Sta.ok ⟨n1, vs, gs, []⟩ then ckB ⟨n1, vs, gs, []⟩ else [] := rfl
          rw [← hwb] at KB
          (try dsimp only at KB)
          have hwl : (wantB ⟨n1, vs, gs, []⟩).length ≤ 1048576 := wantB_len _
          have KS := fun h => f_l18Same nil false L (wantB ⟨n1, vs, gs, []⟩) at_ oM hwl oM hall h
          rw [hDD] at KS
          have hwe := wantB_ok ⟨n1, vs, gs, []⟩
          (try dsimp only at hwe)
          generalize Sta.ok ⟨n1, vs, gs, []⟩ = ok at *
          generalize wantB ⟨n1, vs, gs, []⟩ = W at *
          have hwi := Zan W
          clear hwb
          cases ok
          · obtain rfl : W = [] := hwe.1 rfl
            have hwi0 : (rowsI []).length = 0 := rfl
            clear KS hwe
            repeat' (first|refine wk ?_|((first|refine' w_q rfl rfl ?xa rfl ?_|refine' v_q rfl rfl ?xa rfl ?_|refine' Zn rfl rfl (Zb rfl) rfl ?xa rfl ?_|refine' Zo rfl rfl (Zb rfl) rfl ?xa rfl ?_);case xa => exact Zm KB rfl ⟨Zq (Za rfl) ⟨Zd, Zaf (Zj rfl) hvi, Zaf (Zj rfl) hgi, Zav, trivial⟩, trivial⟩)|(refine wkB ?_ ?_<;>intro hg_<;>try exact wkX)|fail)
            all_goals first
              | exact Z9 (Za8 rfl rfl tyF0 rfl rfl rfl (Za7 (by refine ⟨Za5, ?_, ?_, ?_, trivial⟩ <;> first|exact Zaw|exact Z5 (Zj rfl) hvi|exact Z5 (Zj rfl) hgi|exact Z5 (Zj rfl) hmi))) (Zk rfl (Zv rfl)) (Zk rfl (Zr rfl))
              | (exfalso; omega)
          · obtain ⟨hw1, hw2⟩ := hwe.2 rfl
            have KS2 := KS hw1
            rw [hw2]
            clear KS hwe hw2
            repeat' (first|refine wk ?_|((first|refine' w_q rfl rfl ?xa rfl ?_|refine' v_q rfl rfl ?xa rfl ?_|refine' Zn rfl rfl (Zb rfl) rfl ?xa rfl ?_|refine' Zo rfl rfl (Zb rfl) rfl ?xa rfl ?_);case xa => first|exact Zm KB rfl ⟨Zq (Za rfl) ⟨Zd, Zaf (Zj rfl) hvi, Zaf (Zj rfl) hgi, Zav, trivial⟩, trivial⟩|exact Zm KS2 rfl ⟨Zf (Za rfl), Zf (Za rfl), Zf (Za rfl), trivial⟩)|(refine wkB ?_ ?_<;>intro hg_<;>try exact wkX)|fail)
            all_goals first
              | exact Z9 (Za8 rfl rfl tyF0 rfl rfl rfl (Za7 (by refine ⟨Za5, ?_, ?_, ?_, trivial⟩ <;> first|exact Zaw|exact Z5 (Zj rfl) hvi|exact Z5 (Zj rfl) hgi|exact Z5 (Zj rfl) hmi))) (Zk rfl (Zv (by rw [hwi]))) (Zk rfl (Zr rfl))
              | (exfalso; omega)
        · have hmf : ms.isEmpty = false := by cases ms with
            | nil => exact absurd rfl hms
            | cons v w => rfl
          have hmi := (Zp ms).symm
          rw [hF11 _ _ _ _ hvs hgs hms]
          clear hF00 hF01 hF10 hF11
          have hTT : stateR ⟨n1, vs, gs, ms⟩ = stateP n1 false vs false gs false ms := (by show stateP _ _ _ _ _ _ _ = _;rw [hvf, hgf, hmf];first|rfl|skip)
          rw [hTT]
          clear hTT
          have KB := Zc1 ⟨n1, vs, gs, ms⟩ false false false (by dsimp only [List.length_nil]; omega) (by dsimp only [List.length_nil]; omega) (by dsimp only [List.length_nil]; omega)
          have hwb : wantB ⟨n1, vs, gs, ms⟩ = if Sta.ok ⟨n1, vs, gs, ms⟩ then ckB ⟨n1, vs, gs, ms⟩ else [] := rfl
          rw [← hwb] at KB
          (try dsimp only at KB)
          have hwl : (wantB ⟨n1, vs, gs, ms⟩).length ≤ 1048576 := wantB_len _
          have KS := fun h => f_l18Same nil false L (wantB ⟨n1, vs, gs, ms⟩) at_ oM hwl oM hall h
          rw [hDD] at KS
          have hwe := wantB_ok ⟨n1, vs, gs, ms⟩
          (try dsimp only at hwe)
          generalize Sta.ok ⟨n1, vs, gs, ms⟩ = ok at *
          generalize wantB ⟨n1, vs, gs, ms⟩ = W at *
          have hwi := Zan W
          clear hwb
          cases ok
          · obtain rfl : W = [] := hwe.1 rfl
            have hwi0 : (rowsI []).length = 0 := rfl
            clear KS hwe
            repeat' (first|refine wk ?_|((first|refine' w_q rfl rfl ?xa rfl ?_|refine' v_q rfl rfl ?xa rfl ?_|refine' Zn rfl rfl (Zb rfl) rfl ?xa rfl ?_|refine' Zo rfl rfl (Zb rfl) rfl ?xa rfl ?_);case xa => exact Zm KB rfl ⟨Zq (Za rfl) ⟨Zd, Zaf (Zj rfl) hvi, Zaf (Zj rfl) hgi, Zaf (Zj rfl) hmi, trivial⟩, trivial⟩)|(refine wkB ?_ ?_<;>intro hg_<;>try exact wkX)|fail)
            all_goals first
              | exact Z9 (Za8 rfl rfl tyF0 rfl rfl rfl (Za7 (by refine ⟨Za5, ?_, ?_, ?_, trivial⟩ <;> first|exact Zaw|exact Z5 (Zj rfl) hvi|exact Z5 (Zj rfl) hgi|exact Z5 (Zj rfl) hmi))) (Zk rfl (Zv rfl)) (Zk rfl (Zr rfl))
              | (exfalso; omega)
          · obtain ⟨hw1, hw2⟩ := hwe.2 rfl
            have KS2 := KS hw1
            rw [hw2]
            clear KS hwe hw2
            repeat' (first|refine wk ?_|((first|refine' w_q rfl rfl ?xa rfl ?_|refine' v_q rfl rfl ?xa rfl ?_|refine' Zn rfl rfl (Zb rfl) rfl ?xa rfl ?_|refine' Zo rfl rfl (Zb rfl) rfl ?xa rfl ?_);case xa => first|exact Zm KB rfl ⟨Zq (Za rfl) ⟨Zd, Zaf (Zj rfl) hvi, Zaf (Zj rfl) hgi, Zaf (Zj rfl) hmi, trivial⟩, trivial⟩|exact Zm KS2 rfl ⟨Zf (Za rfl), Zf (Za rfl), Zf (Za rfl), trivial⟩)|(refine wkB ?_ ?_<;>intro hg_<;>try exact wkX)|fail)
            all_goals first
              | exact Z9 (Za8 rfl rfl tyF0 rfl rfl rfl (Za7 (by refine ⟨Za5, ?_, ?_, ?_, trivial⟩ <;> first|exact Zaw|exact Z5 (Zj rfl) hvi|exact Z5 (Zj rfl) hgi|exact Z5 (Zj rfl) hmi))) (Zk rfl (Zv (by rw [hwi]))) (Zk rfl (Zr rfl))
              | (exfalso; omega)
    -- END LOOP
  · rw [if_neg hg] at hX
    rw [hX]
    dsimp only
    clear hX
    have hz : (.tup [stateR zSta, iP 0, .one (bool false)] : Res) = .tup [stateP 0 true [] true [] true [], iP 0, .one (bool false)] := rfl
    rw [hz]
    clear hz
    refine Z8 (l := [.cell 4 28, .tmp 5, .tmp 6]) Try.func27 kRf rfl Try.ntmps27 rfl rfl ?_; simp only [argEnv, P0.d, Nat.reduceAdd]
    repeat' (first|refine wk ?_|((first|refine' w_q rfl rfl ?xa rfl ?_|refine' v_q rfl rfl ?xa rfl ?_|refine' Zn rfl rfl (Zb rfl) rfl ?xa rfl ?_|refine' Zo rfl rfl (Zb rfl) rfl ?xa rfl ?_);case xa => first|exact Zx tbOk rfl rfl rfl rfl oM (by first|exact hx|exact hx2)|exact Zm KD1 rfl ⟨Zf (Za rfl), Zf (Za rfl), trivial⟩|exact Zm KD2 rfl ⟨Zf (Za rfl), Zf (Za rfl), trivial⟩|exact Zm KD3 rfl ⟨Zf (Za rfl), Zf (Za rfl), trivial⟩)|(refine wkB ?_ ?_<;>intro hg_<;>try exact wkX)|fail)
    all_goals first
      | exact Z9 (Za8 rfl rfl tyF0 rfl rfl rfl (Za7 (by exact ⟨Za5, Zaw, Zaw, Zaw, trivial⟩))) (Zk rfl (Zv rfl)) (Zk rfl (Zr rfl))
      | (exfalso; exact hg ⟨by assumption, by assumption, by assumption, by omega, by omega, by omega⟩)
theorem f_l18Read (nil : Bool) (L : List (List Int)) (at_ : Nat) (hl : L.length ≤ 2000) (hat : at_ < L.length) (hL : ∀ b ∈ L,b.length ≤ 1048576) :
  ∃ x n q,Fn Try.prog 27 [.one (row nil 1 (rowsI L)),iP (at_ : Int)] (.tup [stateR x,iP n,.one (bool q)]) ∧ (q = true → ckAt (L.drop at_) = some x) ∧ (q = false → ckAt (L.drop at_) = none):=by
 by_cases hh : L[at_].head? = some 1
 ·refine ⟨_,_,_,f_l18Read1 nil L at_ hl hat hL hh,rdRes_some,rdRes_none⟩
 ·refine ⟨zSta,0,false,f_l18ReadZ nil L at_ hat hh,fun h=>by (cases h),fun _=>rdRes_none ?_⟩
  rw [List.drop_eq_getElem_cons hat]
  simp only [rdRes,rcdH_no hh]
def ckRes : Option Sta → Sta × Bool
 | some s=>(s,true)
 | none=>(zSta,false)
theorem f_specLast (nil : Bool) (L : List (List Int)) (hl : L.length ≤ 1048576) (hL : ∀ b ∈ L, b.length ≤ 1048576) : Fn Try.prog 7 [.one (row nil 1 (rowsI L))] (.tup [stateR (ckRes (lastCk L)).1, .one (bool (ckRes (lastCk L)).2)]) := by
  have hlenL := Zan L
  have KO := f_ownRowsI nil L hl hL
  obtain ⟨X, hX⟩ : ∃ X, X = ckRes (lastCk L) := ⟨_, rfl⟩
  rw [← hX]
  have hz : stateR zSta = stateP 0 true [] true [] true [] := rfl
  by_cases hbig : L.length ≤ 2000
  · have hX0 : X = ckRes (lastFrom L L.length) := by rw [hX]; unfold lastCk; rw [if_pos hbig]
    clear hX
    refine Z8 (l := [.cell 2 28, .tmp 3]) Try.func7 kRf rfl Try.ntmps7 rfl rfl ?_; simp only [argEnv, P0.d, Nat.reduceAdd]
    repeat' (first|refine wk ?_|((first|refine' w_q rfl rfl ?xa rfl ?_|refine' v_q rfl rfl ?xa rfl ?_|refine' Zn rfl rfl (Zb rfl) rfl ?xa rfl ?_|refine' Zo rfl rfl (Zb rfl) rfl ?xa rfl ?_);case xa => exact Zm KO rfl ⟨Zf (Za rfl), trivial⟩)|(refine wkB ?_ ?_<;>intro hg_<;>try exact wkX)|fail)
    have hw0 : IntKind.i64.wrap (((rowsI L).length : Int) - 1) = (L.length : Int) - 1 := by rw [hlenL]; exact IntWalk.i64_in _ oM
    obtain ⟨F, hFs⟩ : ∃ F : Nat → St, ∀ k, F k = mkS 32 [(4, .one (.r true (int ((k : Int) - 1)))), (2, .one (.ptr 2 0 0 0)), (0, .one (.r true (row false 1 (rowsI L))))] [(2, .var 28 [.r true (int 0), .r true (row true 0 []), .r true (row true 0 []), .r true (row true 0 [])])] := ⟨_, fun _ => rfl⟩
    refine Zaa (fun k : Nat => k ≤ L.length ∧ X = ckRes (lastFrom L k)) F (fun k => k) L.length ⟨Nat.le_refl _, hX0⟩ (by rw [hFs];(refine Zi [] rfl ?_ ?_ <;> repeat' (first|refine wkS ?_ ?_|exact wkE|exact Zt hw0))) ?_
    rintro k ⟨hk, HX⟩
    clear hX0
    cases k with
    | zero =>
      rw [hFs]
      have hXz : X = (zSta, false) := HX
      rw [hXz]
      dsimp only
      rw [hz]
      clear HX hFs hXz
      repeat' (first|refine wk ?_|(refine wkB ?_ ?_<;>intro hg_<;>try exact wkX)|fail)
      all_goals first
        | exact ret_2 (Za8 rfl rfl tyF0 rfl rfl rfl (Za7 (by exact ⟨Za5, Zaw, Zaw, Zaw, trivial⟩))) (Zk rfl (Zr rfl))
        | (exfalso; omega)
    | succ m =>
      obtain ⟨x, n, q, KR, hq1, hq2⟩ := f_l18Read false L m hbig oM hL
      have e1 : (((m + 1 : Nat) : Int) - 1) = (m : Int) := by omega
      have hw1 : IntKind.i64.wrap ((m : Int) - 1) = (m : Int) - 1 := IntWalk.i64_in _ oM
      cases q
      · have HX2 : X = ckRes (lastFrom L m) := by rw [HX, lastFrom, hq2 rfl]
        have hfin : ∀ s' : St, Weak s' (F m) → ∃ x' : Nat, (x' ≤ L.length ∧ X = ckRes (lastFrom L x')) ∧ Weak s' (F x') ∧ x' < m + 1 := fun s' h => ⟨m, ⟨by omega, HX2⟩, h, by omega⟩
        rw [hFs] at hfin ⊢
        rw [e1]
        clear hFs HX HX2 hq1 hq2
        repeat' (first|refine wk ?_|((first|refine' w_q rfl rfl ?xa rfl ?_|refine' v_q rfl rfl ?xa rfl ?_|refine' Zn rfl rfl (Zb rfl) rfl ?xa rfl ?_|refine' Zo rfl rfl (Zb rfl) rfl ?xa rfl ?_);case xa => exact Zm KR rfl ⟨Zf (Za rfl), Zf (Za rfl), trivial⟩)|(refine wkB ?_ ?_<;>intro hg_<;>try exact wkX)|fail)
        all_goals first
          | (refine hfin _ ?_
             (refine Zi [] rfl ?_ ?_ <;> repeat' (first|refine wkS ?_ ?_|exact wkE|exact Zt hw1)))
          | (exfalso; omega)
      · have HX2 : X = (x, true) := by rw [HX, lastFrom, hq1 rfl]; rfl
        rw [HX2, hFs, e1]
        dsimp only
        clear hFs HX HX2 hq1 hq2
        obtain ⟨r, vs, gs, ms⟩ := x
        repeat' (first|refine wk ?_|((first|refine' w_q rfl rfl ?xa rfl ?_|refine' v_q rfl rfl ?xa rfl ?_|refine' Zn rfl rfl (Zb rfl) rfl ?xa rfl ?_|refine' Zo rfl rfl (Zb rfl) rfl ?xa rfl ?_);case xa => exact Zm KR rfl ⟨Zf (Za rfl), Zf (Za rfl), trivial⟩)|(refine wkB ?_ ?_<;>intro hg_<;>try exact wkX)|fail)
        all_goals first
          | exact ret_2 (Za8 rfl rfl tyF0 rfl rfl rfl (Za7 (by exact ⟨Zar, Zar, Zar, Zar, trivial⟩))) (Zk rfl (Zr rfl))
          | (exfalso; omega)
  · have hXz : X = (zSta, false) := by rw [hX]; unfold lastCk; rw [if_neg hbig]; rfl
    rw [hXz]
    dsimp only
    rw [hz]
    clear hX hXz hz
    have hw0 : IntKind.i64.wrap (((rowsI L).length : Int) - 1) = (L.length : Int) - 1 := by rw [hlenL]; exact IntWalk.i64_in _ oM
    refine Z8 (l := [.cell 2 28, .tmp 3]) Try.func7 kRf rfl Try.ntmps7 rfl rfl ?_; simp only [argEnv, P0.d, Nat.reduceAdd]
    repeat' (first|refine wk ?_|((first|refine' w_q rfl rfl ?xa rfl ?_|refine' v_q rfl rfl ?xa rfl ?_|refine' Zn rfl rfl (Zb rfl) rfl ?xa rfl ?_|refine' Zo rfl rfl (Zb rfl) rfl ?xa rfl ?_);case xa => exact Zm KO rfl ⟨Zf (Za rfl), trivial⟩)|(refine wkB ?_ ?_<;>intro hg_<;>try exact wkX)|fail)
    refine Zaa (fun k : Nat => True) (fun k : Nat => mkS 32 [(4, .one (.r true (int ((L.length : Int) - 1)))), (2, .one (.ptr 2 0 0 0)), (0, .one (.r true (row false 1 (rowsI L))))] [(2, .var 28 [.r true (int 0), .r true (row true 0 []), .r true (row true 0 []), .r true (row true 0 [])])]) (fun k => k) 0 trivial (by (refine Zi [] rfl ?_ ?_ <;> repeat' (first|refine wkS ?_ ?_|exact wkE|exact Zt hw0))) ?_
    intro k _
    repeat' (first|refine wk ?_|(refine wkB ?_ ?_<;>intro hg_<;>try exact wkX)|fail)
    all_goals first
      | exact ret_2 (Za8 rfl rfl tyF0 rfl rfl rfl (Za7 (by exact ⟨Za5, Zaw, Zaw, Zaw, trivial⟩))) (Zk rfl (Zr rfl))
      | (exfalso; omega)
end Go.Proofs.Ytmkijbfiilpccaa.Abs
