/- FnLastCheckpoint: the draw and the law. -/
import Derived.Lib.Hide
import Derived.Test.YtmkijbfiilpccaaLaTy
import Derived.Test.YtmkijbfiilpccaaLaASbJ
import Derived.Test.YtmkijbfiilpccaaLaASt0
import Derived.Test.YtmkijbfiilpccaaLaAPlain
import Derived.Test.YtmkijbfiilpccaaLaASame
import Derived.Test.YtmkijbfiilpccaaLaASamR
import Derived.Test.YtmkijbfiilpccaaLaGLast
import Derived.Test.YtmkijbfiilpccaaLaADrK
set_option linter.unusedSimpArgs false
set_option linter.unusedVariables false
set_option maxRecDepth 100000
set_option maxHeartbeats 16000000
namespace Go.Proofs.Ytmkijbfiilpccaa.Abs
open Go.RowKit
open R (val row ref)
theorem f_drawLast (nb : Bool) (code : List Int) (hB : Byte code) (hl : code.length ≤ 1048576) :
  ∃ (L : List (List Int)),(L.length ≤ 1291 ∧ ∀ b ∈ L,b.length ≤ 100) ∧ Fn Try.prog 22 [.one (row nb 1 (bys code))] (.v (.one (row false 1 (rowsI L)))):=by
 have K0:=f_open nb code hl
 have hB2:=byte_take2 hB 2000
 have hl2 : (code.take 2000).length ≤ 2000:=by rw [List.length_take]; omega
 generalize code.take 2000 = bs at *
 obtain ⟨L,p',hL,KC0⟩:=l20Ck_ex bs 0 hB2 hl2 oM oM
 have KC:=KC0 false nb
 clear KC0
 refine ⟨L,hL,?_⟩
 unfold rdH at *
 refine Z8 (l:=[.tmp 2]) Try.func22 kRf rfl Try.ntmps22 rfl rfl ?_; simp only [argEnv,P0.d,Nat.reduceAdd]
 repeat' (first|refine wk ?_|((first|refine' w_e rfl ?xa ?xb ?xc ?xe ?_|refine' v_e rfl ?xa ?xb ?xc ?xe ?_);(case xa=>first|exact Zg [(2000001,600)] K0 rfl ⟨asE,trivial⟩ trivial rfl|exact Ze 5 rfl (Zg [(1000000000,600)] KC rfl ⟨Zh (Za rfl),trivial⟩ sbH rfl));(case xb|xc|xe=>rfl);try refine wkD ?_)|(refine wkB ?_ ?_<;>intro hg_<;>try exact wkX)|fail)
 all_goals first
  | exact Zab rfl (Z7 Zar)
theorem start_okL (M : Nat) (hM : M ≤ 16) : Sta.ok ⟨0,List.replicate M 0,List.replicate M true,[]⟩ = true:=by
 unfold Sta.ok stOk
 have h1 : (List.replicate M (0 : Int)).all valIn = true:=by
  rw [List.all_eq_true]
  intro x hx
  rw [List.mem_replicate] at hx
  rw [hx.2]; rfl
 simp [h1,inR,msOk_none,srt]
 omega
def foundF (L B : List (List Int)) : Nat → Bool
 | 0=>false
 | k + 1=>foundF L B k || decide ((L.drop k).take B.length = B)
theorem foundF_true {L B : List (List Int)} {k : Nat} (h : (L.drop k).take B.length = B) : ∀ m,k < m → foundF L B m = true
 | 0,hk=>by omega
 | m + 1,hk=>by
  unfold foundF
  by_cases e : k = m
  ·subst e; simp [h]
  ·rw [foundF_true h m oM]; rfl
theorem last_none (nb : Bool) (code : List Int) (hl : code.length ≤ 1048576) (L : List (List Int)) (hL : L.length ≤ 1291) (hLb : ∀ b ∈ L,b.length ≤ 100) (hk : lastCk L = none)
  (KD : Fn Try.prog 22 [.one (row nb 1 (bys code))] (.v (.one (row false 1 (rowsI L))))) : Fn Try.prog 5 [.one (row nb 1 (bys code))] (.v (.one (bool true))):=by
 have hcl:=bys_len code
 obtain ⟨av,ag,am,KI⟩:=Zc9 false L oM
 have hT : lastT L = ⟨0,[],[],[]⟩:=by unfold lastT; rw [hk]; rfl
 rw [hT,hk] at KI
 dsimp only [Option.isSome] at KI
 have KS:=f_specLast false L oM (fun b hb=>by have:=hLb b hb; omega)
 rw [hk] at KS
 have KQ:=Zc5 0 av ag am true true true [] [] [] (by simp) (by simp) (by simp)
 obtain ⟨M,hM⟩ : ∃ M : Nat,M = code.length % 5:=⟨_,rfl⟩
 have hM5 : M ≤ 4:=by omega
 have hrem : ((bys code).length : Int).tmod 5 = (M : Int):=by rw [hcl,Int.tmod_eq_emod_of_nonneg oM]; omega
 have KSt:=f_implStart M oM
 have h0:=start_okL M oM
 have KB:=f_implBodies ⟨0,List.replicate M 0,List.replicate M true,[]⟩ h0 false false true
 have hlen:=Zb4 (Sta.okF h0)
 obtain ⟨bv,bg,bm,KN⟩:=Zc9 false (L ++ ckB ⟨0,List.replicate M 0,List.replicate M true,[]⟩) (by rw [List.length_append]; simp at hlen; omega)
 have hN:=last_app L h0 (by simp at hlen; omega)
 have hTN : lastT (L ++ ckB ⟨0,List.replicate M 0,List.replicate M true,[]⟩) = ⟨0,List.replicate M 0,List.replicate M true,[]⟩:=by unfold lastT; rw [hN]; rfl
 rw [hTN,hN] at KN
 dsimp only [Option.isSome] at KN
 have KQ2:=Zc5 0 bv bg bm false false true (List.replicate M 0) (List.replicate M true) [] (by simp; omega) (by simp; omega) (by simp)
 have KA:=f_alive2
 have hrl:=Zan L
 dsimp only at *
 generalize hC : ckB ⟨0,List.replicate M 0,List.replicate M true,[]⟩ = C at *
 have hcl2:=Zan C
 have hCl : C.length ≤ 6:=by simp at hlen; omega
 have happ : [] ++ rowsI L ++ rowsI C = rowsI (L ++ C):=by unfold rowsI; rw [List.map_append,List.nil_append]
 clear hC hlen h0 hN hTN hT
 generalize List.replicate M (0 : Int) = vs0 at *
 generalize List.replicate M true = gs0 at *
 replace KS : Fn Try.prog 7 [.one (row false 1 (rowsI L))] (.tup [stateP 0 true [] true [] true [],.one (bool false)]):=KS
 refine Z8 (l:=[.tmp 2]) Try.func5 kRf rfl Try.ntmps5 rfl rfl ?_; simp only [argEnv,P0.d,Nat.reduceAdd,stateP,List.map_cons,List.map_nil]
 repeat' (first|refine wk ?_|((first|refine' w_q rfl rfl ?xa rfl ?_|refine' v_q rfl rfl ?xa rfl ?_|refine' Zn rfl rfl (Zb rfl) rfl ?xa rfl ?_|refine' Zo rfl rfl (Zb rfl) rfl ?xa rfl ?_);case xa=>first|exact Zm KD rfl ⟨Zf (Za rfl),trivial⟩|exact Zm KS rfl ⟨Zf (Za rfl),trivial⟩|exact k_atD 31 rfl (Zm KQ rfl ⟨Zq (Za rfl) ⟨Zd,Zd,Zd,Zd,trivial⟩,Zq (Za rfl) ⟨Zd,Zd,Zd,Zd,trivial⟩,trivial⟩)|exact k_neB rfl rfl rfl rfl|exact k_rem rfl rfl rfl (by decide)|exact Zm KSt rfl ⟨asA_eq (Za rfl) (by rw [hrem]),trivial⟩|exact Zm KB rfl ⟨Zq (Za rfl) ⟨Zd,Zd,Zd,Zd,trivial⟩,trivial⟩|exact Zm KQ2 rfl ⟨Zq (Za rfl) ⟨Zd,Zd,Zd,Zd,trivial⟩,Zq (Za rfl) ⟨Zd,Zd,Zd,Zd,trivial⟩,trivial⟩|exact Zm KA rfl trivial)|((first|refine' w_e rfl ?xa ?xb ?xc ?xe ?_|refine' v_e rfl ?xa ?xb ?xc ?xe ?_);(case xa=>first|exact Ze 21 rfl (Zax (ys:=[.one (row false 1 (rowsI L))]) [] KI rfl rfl ⟨Zf (Za rfl),trivial⟩ rfl rfl)|exact Zl [] tlOk rfl rfl rfl rfl rfl rfl (by simp [AllN]) (by simp)|exact Ze 45 rfl (Zw tlOk rfl rfl rfl rfl rfl rfl Za2 rfl (by simp only [maxLen,List.length_nil];omega) (by simp only [List.length_nil];omega))|exact Ze 48 rfl (Zw tlOk rfl rfl rfl rfl rfl rfl Za2 (by simp) (by simp only [maxLen,List.length_append,List.length_nil];omega) (by simp only [List.length_append,List.length_nil];omega))|exact Ze 49 rfl (Zax (ys:=[.one (row false 1 (rowsI (L ++ C)))]) [] KN rfl rfl ⟨by rw [Za rfl,← happ];exact Zaf (Zj rfl) (by simp),trivial⟩ rfl rfl));(case xb|xc|xe=>rfl);try refine wkD ?_)|(refine wkB ?_ ?_<;>intro hg_<;>try exact wkX)|fail)
 all_goals first
  | exact Zab rfl (Zr rfl)
  | (exfalso;first|omega|(simp at hg_;done))
theorem last_some (nb : Bool) (code : List Int) (hl : code.length ≤ 1048576) (L : List (List Int)) (hL : L.length ≤ 1291) (hLb : ∀ b ∈ L,b.length ≤ 100) (s : Sta) (hk : lastCk L = some s)
  (KD : Fn Try.prog 22 [.one (row nb 1 (bys code))] (.v (.one (row false 1 (rowsI L))))) : Fn Try.prog 5 [.one (row nb 1 (bys code))] (.v (.one (bool true))):=by
 have hcl:=bys_len code
 have hs:=lastCk_ok hk
 have hF:=Sta.okF hs
 have hmany:=hF.many
 have hmm:=hF.ml
 have hgl:=hF.gl
 obtain ⟨k0,hk0⟩:=last_at hk
 have hBl:=Zb4 hF
 have hp0 : (L.drop k0).take (ckB s).length = ckB s:=by
  obtain ⟨t,ht⟩:=hk0.2
  rw [← ht,List.take_left]
 have hk0l : k0 + (ckB s).length ≤ L.length:=by
  have:=hk0.2.length_le
  rw [List.length_drop] at this
  omega
 obtain ⟨av,ag,am,KI⟩:=Zc9 false L oM
 have hT : lastT L = s:=by unfold lastT; rw [hk]; rfl
 rw [hT,hk] at KI
 dsimp only [Option.isSome] at KI
 have KS:=f_specLast false L oM (fun b hb=>by have:=hLb b hb; omega)
 rw [hk] at KS
 replace KS : Fn Try.prog 7 [.one (row false 1 (rowsI L))] (.tup [stateP s.r s.vs.isEmpty s.vs s.gs.isEmpty s.gs s.ms.isEmpty s.ms,.one (bool true)]):=KS
 have KQ:=Zc5 s.r av ag am s.vs.isEmpty s.gs.isEmpty s.ms.isEmpty s.vs s.gs s.ms oM oM oM
 have KBs:=f_implBodies s hs av ag am
 have KV:=f_implStateValid ((ints s.vs).length : Int) s.r av ag am s.vs s.gs s.ms (by simp only [maxLen]; omega) (by simp only [maxLen]; omega) (by simp only [maxLen]; omega)
 have hv : stOk ((ints s.vs).length : Int) s.r s.vs s.gs.length s.ms = true:=by rw [Zu]; exact hs
 rw [hv] at KV
 have hbB : ∀ b ∈ ckB s,b.length ≤ 1048576:=fun b hb=>by have:=ckB_recl hb; omega
 clear hv hk0
 obtain ⟨M,hM⟩ : ∃ M : Nat,M = code.length % 5:=⟨_,rfl⟩
 have hM5 : M ≤ 4:=by omega
 have hrem : ((bys code).length : Int).tmod 5 = (M : Int):=by rw [hcl,Int.tmod_eq_emod_of_nonneg oM]; omega
 have KSt:=f_implStart M oM
 have h0:=start_okL M oM
 have KB:=f_implBodies ⟨0,List.replicate M 0,List.replicate M true,[]⟩ h0 false false true
 have hlen:=Zb4 (Sta.okF h0)
 obtain ⟨bv,bg,bm,KN⟩:=Zc9 false (L ++ ckB ⟨0,List.replicate M 0,List.replicate M true,[]⟩) (by rw [List.length_append]; simp at hlen; omega)
 have hN:=last_app L h0 (by simp at hlen; omega)
 have hTN : lastT (L ++ ckB ⟨0,List.replicate M 0,List.replicate M true,[]⟩) = ⟨0,List.replicate M 0,List.replicate M true,[]⟩:=by unfold lastT; rw [hN]; rfl
 rw [hTN,hN] at KN
 dsimp only [Option.isSome] at KN
 have KQ2:=Zc5 0 bv bg bm false false true (List.replicate M 0) (List.replicate M true) [] (by simp; omega) (by simp; omega) (by simp)
 have KA:=f_alive2
 have hrl:=Zan L
 dsimp only at *
 generalize hC : ckB ⟨0,List.replicate M 0,List.replicate M true,[]⟩ = C at *
 have hcl2:=Zan C
 have hCl : C.length ≤ 6:=by simp at hlen; omega
 have happ : [] ++ rowsI L ++ rowsI C = rowsI (L ++ C):=by unfold rowsI; rw [List.map_append,List.nil_append]
 clear hC hlen h0 hN hTN hT hF
 generalize List.replicate M (0 : Int) = vs0 at *
 generalize List.replicate M true = gs0 at *
 obtain ⟨sr,sv,sg,sm⟩:=s
 dsimp only at *
 generalize ckB ⟨sr,sv,sg,sm⟩ = B at *
 generalize sv.isEmpty = ev at *
 generalize sg.isEmpty = eg at *
 generalize sm.isEmpty = em at *
 have hrB:=Zan B
 refine Z8 (l:=[.tmp 2]) Try.func5 kRf rfl Try.ntmps5 rfl rfl ?_; simp only [argEnv,P0.d,Nat.reduceAdd,stateP,List.map_cons,List.map_nil]
 repeat' (first|refine wk ?_|((first|refine' w_q rfl rfl ?xa rfl ?_|refine' v_q rfl rfl ?xa rfl ?_|refine' Zn rfl rfl (Zb rfl) rfl ?xa rfl ?_|refine' Zo rfl rfl (Zb rfl) rfl ?xa rfl ?_);case xa=>first|exact Zm KD rfl ⟨Zf (Za rfl),trivial⟩|exact Zm KS rfl ⟨Zf (Za rfl),trivial⟩|exact k_atD 31 rfl (Zm KQ rfl ⟨Zq (Za rfl) ⟨Zd,Zd,Zd,Zd,trivial⟩,Zq (Za rfl) ⟨Zd,Zd,Zd,Zd,trivial⟩,trivial⟩)|exact k_neB rfl rfl rfl rfl|exact k_rem rfl rfl rfl (by decide)|exact Zm KSt rfl ⟨asA_eq (Za rfl) (by rw [hrem]),trivial⟩|exact Zm KB rfl ⟨Zq (Za rfl) ⟨Zd,Zd,Zd,Zd,trivial⟩,trivial⟩|exact Zm KQ2 rfl ⟨Zq (Za rfl) ⟨Zd,Zd,Zd,Zd,trivial⟩,Zq (Za rfl) ⟨Zd,Zd,Zd,Zd,trivial⟩,trivial⟩|exact Zm KBs rfl ⟨Zq (Za rfl) ⟨Zd,Zd,Zd,Zd,trivial⟩,trivial⟩)|((first|refine' w_e rfl ?xa ?xb ?xc ?xe ?_|refine' v_e rfl ?xa ?xb ?xc ?xe ?_);(case xa=>first|exact Ze 21 rfl (Zax (ys:=[.one (row false 1 (rowsI L))]) [] KI rfl rfl ⟨Zf (Za rfl),trivial⟩ rfl rfl)|exact Zl [] tlOk rfl rfl rfl rfl rfl rfl (by simp [AllN]) (by simp)|exact Ze 45 rfl (Zw tlOk rfl rfl rfl rfl rfl rfl Za2 rfl (by simp only [maxLen,List.length_nil];omega) (by simp only [List.length_nil];omega))|exact Ze 48 rfl (Zw tlOk rfl rfl rfl rfl rfl rfl Za2 (by simp) (by simp only [maxLen,List.length_append,List.length_nil];omega) (by simp only [List.length_append,List.length_nil];omega))|exact Ze 49 rfl (Zax (ys:=[.one (row false 1 (rowsI (L ++ C)))]) [] KN rfl rfl ⟨by rw [Za rfl,← happ];exact Zaf (Zj rfl) (by simp),trivial⟩ rfl rfl));(case xb|xc|xe=>rfl);try refine wkD ?_)|(refine wkB ?_ ?_<;>intro hg_<;>try exact wkX)|fail)
 refine Zaa (fun k : Nat=>k + B.length ≤ L.length + 1) (fun k=>mkS 100 [(13,.one (.r true (int k))),(12,.one (.r true (bool (foundF L B k)))),(11,.one (.r true (row false 1 (rowsI B)))),(3,.one (.r true (row false 1 (rowsI L)))),(4,.one (.ptr 4 0 0 0))] [(4,.var 28 [.r true (int sr),.r true (row av 1 (ints sv)),.r true (row ag 1 (bools sg)),.r true (row am 3 (edges sm))])]) (fun k=>L.length + 1 - k) 0 oM (by (refine Zi [] rfl ?_ ?_ <;>exact wkW)) ?_
 intro k hkl
 clear KI KS KQ KBs KB KN KQ2 KSt KD KA
 have hq1 : IntKind.i64.wrap ((k : Int) + ((rowsI B).length : Int)) = ((k + B.length : Nat) : Int):=by rw [hrB,IntWalk.i64_in _ oM]; omega
 by_cases hlt : k + B.length ≤ L.length
 ·have KR:=f_sameRecsG false false ((L.drop k).take B.length) B (by rw [List.length_take,List.length_drop]; omega) oM (fun b hb=>by have:=hLb b (List.mem_of_mem_drop (List.mem_of_mem_take hb)); omega) hbB
  have hpart : ((rowsI L).drop k).take (k + B.length - k) = rowsI ((L.drop k).take B.length):=by rw [Zbo,Nat.add_sub_cancel_left]
  have hF1 : foundF L B (k + 1) = (foundF L B k || decide ((L.drop k).take B.length = B)):=rfl
  have hw : IntKind.i64.wrap ((k : Int) + 1) = ((k + 1 : Nat) : Int):=by rw [IntWalk.i64_in _ oM]; omega
  generalize foundF L B k = f0 at *
  generalize decide ((L.drop k).take B.length = B) = dq at *
  cases f0
  all_goals
   repeat' (first|refine wk ?_|((first|refine' w_q rfl rfl ?xa rfl ?_|refine' v_q rfl rfl ?xa rfl ?_|refine' Zn rfl rfl (Zb rfl) rfl ?xa rfl ?_|refine' Zo rfl rfl (Zb rfl) rfl ?xa rfl ?_);case xa=>first|(refine Zam (a:=k) (b:=k + B.length) tbOk rfl rfl rfl ⟨true,Za rfl⟩ ⟨true,(Za rfl).trans (by rw [hq1])⟩ (Nat.le_add_right _ _) (by rw [hrl];exact hlt))|exact Zm KR rfl ⟨by rw [← hpart];exact Zf (Za rfl),Zf (Za rfl),trivial⟩)|(refine wkB ?_ ?_<;>intro hg_<;>try exact wkX)|fail)
   all_goals first
    | (exfalso; omega)
    | exact ⟨k + 1,by omega,by rw [hF1];(refine Zi [] rfl ?_ ?_<;>repeat' (first|refine wkS ?_ ?_|exact wkE|exact Zt hw)),by omega⟩
 ·have hfd : foundF L B k = true:=foundF_true hp0 k oM
  rw [hfd]
  repeat' (first|refine wk ?_|((first|refine' w_q rfl rfl ?xa rfl ?_|refine' v_q rfl rfl ?xa rfl ?_|refine' Zn rfl rfl (Zb rfl) rfl ?xa rfl ?_|refine' Zo rfl rfl (Zb rfl) rfl ?xa rfl ?_);case xa=>exact Zm KV rfl ⟨Zq (Za rfl) ⟨Zd,Zd,Zd,Zd,trivial⟩,Zf (Za rfl),trivial⟩)|(refine wkB ?_ ?_<;>intro hg_<;>try exact wkX)|fail)
  all_goals first
   | (exfalso; omega)
   | exact Zab rfl (Zr rfl)
theorem f_lawLast (nb : Bool) (code : List Int) (hB : Byte code) (hl : code.length ≤ 1048576) : Fn Try.prog 5 [.one (row nb 1 (bys code))] (.v (.one (bool true))):=by
 obtain ⟨L,⟨hL,hLb⟩,KD⟩:=f_drawLast nb code hB hl
 cases hk : lastCk L with
 | none=>exact last_none nb code hl L hL hLb hk KD
 | some s=>exact last_some nb code hl L hL hLb s hk KD
theorem law_last (nb : Bool) (code : List Int) (hB : Byte code) : Fn Try.prog 5 [.one (row nb 1 (bys code))] (.v (.one (bool true))):=by
 have hlb:=bys_len code
 by_cases hl : code.length ≤ 1048576
 ·exact f_lawLast nb code hB hl
 ·refine Z8 (l:=[.tmp 2]) Try.func5 kRf rfl Try.ntmps5 rfl rfl ?_; simp only [argEnv,P0.d,Nat.reduceAdd]
  repeat' (first|refine wk ?_|(refine wkB ?_ ?_<;>intro hg_<;>try exact wkX)|fail)
  all_goals first
   | exact Zab rfl (Zr rfl)
   | (exfalso; omega)
end Go.Proofs.Ytmkijbfiilpccaa.Abs
