/- FnStateBodies: the draw and the law. -/
import Derived.Lib.Hide
import Derived.Test.YtmkijbfiilpccaaSbTy
import Derived.Test.YtmkijbfiilpccaaSbASbJ
import Derived.Test.YtmkijbfiilpccaaSbAPlain
import Derived.Test.YtmkijbfiilpccaaSbASame
import Derived.Test.YtmkijbfiilpccaaSbADrW
import Derived.Test.YtmkijbfiilpccaaSbASamR
import Derived.Test.YtmkijbfiilpccaaSbGLast
set_option linter.unusedSimpArgs false
set_option linter.unusedVariables false
set_option maxRecDepth 100000
set_option maxHeartbeats 16000000
namespace Go.Proofs.Ytmkijbfiilpccaa.Abs
open Go.RowKit
open R (val row ref)
theorem f_drawStB (nb : Bool) (code : List Int) (hB : Byte code) (hl : code.length ≤ 1048576) :
  ∃ (st : Sta) (nm ng : Bool),(st.vs.length ≤ 17 ∧ st.gs.length ≤ 17 ∧ st.ms.length ≤ 625) ∧ Fn Try.prog 15 [.one (row nb 1 (bys code))] (.v (stateP st.r false st.vs ng st.gs nm st.ms)):=by
 have K0:=f_open nb code hl
 have hB2:=byte_take2 hB 2000
 have hl2 : (code.take 2000).length ≤ 2000:=by rw [List.length_take]; omega
 generalize code.take 2000 = bs at *
 obtain ⟨nE,m,es,k,s,r,p1,⟨_,g2,g3,g4,g5⟩,KT0⟩:=l20Task_ex bs 0 0 oM oM hB2 hl2 oM oM
 have KT:=KT0 false true nb
 obtain ⟨st,nm,ng,p2,⟨s1,s2,s3,s4,s5⟩,KQ0⟩:=l20State_ex bs p1 9 oM oM hB2 hl2 oM oM nE m es k s r g2 g3
 have KQ:=KQ0 false nb
 clear KT0 KQ0
 refine ⟨st,nm,ng,⟨s1,s2,s3⟩,?_⟩
 obtain ⟨r0,vs,gs,ms⟩:=st
 dsimp only at KQ s1 s2 s3 ⊢
 unfold rdH at *
 refine Z7 (l:=[.cell 2 28]) Try.func15 kRf rfl Try.ntmps15 rfl rfl ?_; simp only [argEnv,P0.d,Nat.reduceAdd,stateP,List.map_cons,List.map_nil]
 repeat' (first|refine wk ?_|((first|refine' w_e rfl ?xa ?xb ?xc ?xe ?_|refine' v_e rfl ?xa ?xb ?xc ?xe ?_);(case xa=>first|exact Zg [(2000001,600)] K0 rfl ⟨asE,trivial⟩ trivial rfl|exact Ze 10 rfl (Zg [(1000000000,600)] KT rfl ⟨Zh (Za rfl),asE,trivial⟩ sbH rfl)|exact Ze 16 rfl (Zg [(1000000000,600)] KQ rfl ⟨Zh (Za rfl),by rw [Za rfl];exact asD_agg2,by rw [Za rfl];exact asD_agg3,asE,trivial⟩ sbH rfl));(case xb|xc|xe=>rfl);try refine wkD ?_)|(refine wkB ?_ ?_<;>intro hg_<;>try exact wkX)|fail)
 all_goals first
  | exact ret_v (rv_cell rfl rfl tyF0 rfl rfl rfl (dres_agg (by exact ⟨Zap,Zap,Zap,Zap,trivial⟩)))
theorem stB_bad (nb : Bool) (code : List Int) (hl : code.length ≤ 1048576) (st : Sta) (nm ng : Bool) (h1 : st.vs.length ≤ 17) (h2 : st.gs.length ≤ 17) (h3 : st.ms.length ≤ 625) (hb : st.ok = false)
  (KD : Fn Try.prog 15 [.one (row nb 1 (bys code))] (.v (stateP st.r false st.vs ng st.gs nm st.ms))) : Fn Try.prog 4 [.one (row nb 1 (bys code))] (.v (.one (bool true))):=by
 have hcl:=bys_len code
 have KI:=f_implBodiesBad st hb false ng nm (by simp only [maxLen]; omega) (by simp only [maxLen]; omega) (by simp only [maxLen]; omega)
 have KS:=Zc5 st false ng nm oM oM oM
 rw [hb] at KS
 have KR:=f_sameRecsG true false [] [] (by simp) (by simp) (by simp) (by simp)
 rw [show decide (([] : List (List Int)) = []) = true from rfl] at KR
 have KV:=Zco ((ints st.vs).length : Int) st.r false ng nm st.vs st.gs st.ms (by simp only [maxLen]; omega) (by simp only [maxLen]; omega) (by simp only [maxLen]; omega)
 have hv : stOk ((ints st.vs).length : Int) st.r st.vs st.gs.length st.ms = false:=by rw [Zu]; exact hb
 rw [hv] at KV
 have KA:=f_alive2
 obtain ⟨r,vs,gs,ms⟩:=st
 dsimp only at *
 refine Z7 (l:=[.tmp 2]) Try.func4 kRf rfl Try.ntmps4 rfl rfl ?_; simp only [argEnv,P0.d,Nat.reduceAdd,stateP,List.map_cons,List.map_nil]
 repeat' (first|refine wk ?_|((first|refine' w_q rfl rfl ?xa rfl ?_|refine' v_q rfl rfl ?xa rfl ?_|refine' Zn rfl rfl (Zb rfl) rfl ?xa rfl ?_|refine' Zo rfl rfl (Zb rfl) rfl ?xa rfl ?_);case xa=>first|exact Zm KD rfl ⟨Zf (Za rfl),trivial⟩|exact Zm KI rfl ⟨Zq (Za rfl) ⟨Zd,Zd,Zd,Zd,trivial⟩,trivial⟩|exact Zm KS rfl ⟨Zq (Za rfl) ⟨Zd,Zd,Zd,Zd,trivial⟩,trivial⟩|exact Zm KR rfl ⟨Zf (Za rfl),Zf (Za rfl),trivial⟩|exact Zm KV rfl ⟨Zq (Za rfl) ⟨Zd,Zd,Zd,Zd,trivial⟩,Zf (Za rfl),trivial⟩|exact Zm KA rfl trivial)|(refine wkB ?_ ?_<;>intro hg_<;>try exact wkX)|fail)
 all_goals first
  | exact Zab rfl (Zr rfl)
theorem stB_ok (nb : Bool) (code : List Int) (hl : code.length ≤ 1048576) (st : Sta) (nm ng : Bool) (h1 : st.vs.length ≤ 17) (h2 : st.gs.length ≤ 17) (h3 : st.ms.length ≤ 625) (hb : st.ok = true)
  (KD : Fn Try.prog 15 [.one (row nb 1 (bys code))] (.v (stateP st.r false st.vs ng st.gs nm st.ms))) : Fn Try.prog 4 [.one (row nb 1 (bys code))] (.v (.one (bool true))):=by
 have hcl:=bys_len code
 have hF:=Sta.okF hb
 have hlen:=ckB_len hF
 have hbl : ∀ b ∈ ckB st,b.length ≤ 1048576:=fun b hb=>by have:=ckB_recl hb; omega
 have KI:=f_implBodies st hb false ng nm
 have KS:=Zc5 st false ng nm oM oM oM
 rw [hb] at KS
 simp only [if_true] at KS
 have KR:=f_sameRecsG false false (ckB st) (ckB st) oM oM hbl hbl
 rw [show decide (ckB st = ckB st) = true from decide_eq_true rfl] at KR
 have KV:=Zco ((ints st.vs).length : Int) st.r false ng nm st.vs st.gs st.ms (by simp only [maxLen]; omega) (by simp only [maxLen]; omega) (by simp only [maxLen]; omega)
 have hv : stOk ((ints st.vs).length : Int) st.r st.vs st.gs.length st.ms = true:=by rw [Zu]; exact hb
 rw [hv] at KV
 obtain ⟨av,ag,am,KL⟩:=lastI_plain false (ckB st) oM
 have hL:=last_self hb oM
 have hT : lastT (ckB st) = st:=by unfold lastT; rw [hL]; rfl
 rw [hT,hL] at KL
 obtain ⟨bv,bg,bm,KM⟩:=lastI_plain false ((ckB st).take ((ckB st).length - 1)) (by rw [List.length_take]; omega)
 rw [last_less hb] at KM
 generalize lastT ((ckB st).take ((ckB st).length - 1)) = lt at KM
 have KQ:=f_sameState2 st.r av ag am false ng nm st.vs st.gs st.ms oM oM oM
 have hrl:=Za0 (ckB st)
 have hvl:=Zu st.vs
 have hml:=Zp st.ms
 have q1 : IntKind.i64.wrap (((rowsI (ckB st)).length : Int) - 1) = (((ckB st).length - 1 : Nat) : Int):=by rw [hrl,IntWalk.i64_in _ oM]; omega
 have q2 : IntKind.i64.wrap (((ints st.vs).length : Int) + ((edges st.ms).length : Int)) = ((st.vs.length + st.ms.length : Nat) : Int):=by rw [hvl,hml,IntWalk.i64_in _ oM]; omega
 have q3 : IntKind.i64.wrap (((st.vs.length + st.ms.length : Nat) : Int) + 2) = ((st.vs.length + st.ms.length + 2 : Nat) : Int):=by rw [IntWalk.i64_in _ oM]; omega
 have hpart : ((rowsI (ckB st)).drop 0).take ((ckB st).length - 1 - 0) = rowsI ((ckB st).take ((ckB st).length - 1)):=by rw [Zbj,List.drop_zero,Nat.sub_zero]
 obtain ⟨r,vs,gs,ms⟩:=st
 dsimp only at *
 generalize ckB ⟨r,vs,gs,ms⟩ = C at *
 refine Z7 (l:=[.tmp 2]) Try.func4 kRf rfl Try.ntmps4 rfl rfl ?_; simp only [argEnv,P0.d,Nat.reduceAdd,stateP,List.map_cons,List.map_nil]
 repeat' (first|refine wk ?_|((first|refine' w_q rfl rfl ?xa rfl ?_|refine' v_q rfl rfl ?xa rfl ?_|refine' Zn rfl rfl (Zb rfl) rfl ?xa rfl ?_|refine' Zo rfl rfl (Zb rfl) rfl ?xa rfl ?_);case xa=>first|exact Zm KD rfl ⟨Zf (Za rfl),trivial⟩|exact Zm KI rfl ⟨Zq (Za rfl) ⟨Zd,Zd,Zd,Zd,trivial⟩,trivial⟩|exact Zm KS rfl ⟨Zq (Za rfl) ⟨Zd,Zd,Zd,Zd,trivial⟩,trivial⟩|exact Zm KR rfl ⟨Zf (Za rfl),Zf (Za rfl),trivial⟩|exact Zm KV rfl ⟨Zq (Za rfl) ⟨Zd,Zd,Zd,Zd,trivial⟩,Zf (Za rfl),trivial⟩|exact Zam (a:=0) (b:=C.length - 1) tbOk rfl rfl rfl rfl ⟨_,by rw [← q1];exact Za rfl⟩ oM oM|exact Zm KQ rfl ⟨Zq (Za rfl) ⟨Zd,Zd,Zd,Zd,trivial⟩,Zq (Za rfl) ⟨Zd,Zd,Zd,Zd,trivial⟩,trivial⟩)|((first|refine' w_e rfl ?xa ?xb ?xc ?xe ?_|refine' v_e rfl ?xa ?xb ?xc ?xe ?_);(case xa=>first|exact Ze 35 rfl (Zas (ys:=[.one (row false 1 (rowsI C))]) [] KL rfl rfl ⟨Zf (Za rfl),trivial⟩ rfl rfl)|exact Ze 44 rfl (Zas (ys:=[.one (row false 1 (rowsI (C.take (C.length - 1))))]) [] KM rfl rfl ⟨by rw [← hpart];exact Zf (Za rfl),trivial⟩ rfl rfl));(case xb|xc|xe=>rfl);try refine wkD ?_)|(refine wkB ?_ ?_<;>intro hg_<;>try exact wkX)|fail)
 all_goals first
  | exact Zab rfl (Zr (by simp only [q2,q3,hrl]; simp; omega))
  | (exfalso;first|omega|(simp at hg_;done))
theorem f_lawStB (nb : Bool) (code : List Int) (hB : Byte code) (hl : code.length ≤ 1048576) : Fn Try.prog 4 [.one (row nb 1 (bys code))] (.v (.one (bool true))):=by
 obtain ⟨st,nm,ng,⟨h1,h2,h3⟩,KD⟩:=f_drawStB nb code hB hl
 cases hb : st.ok with
 | false=>exact stB_bad nb code hl st nm ng h1 h2 h3 hb KD
 | true=>exact stB_ok nb code hl st nm ng h1 h2 h3 hb KD
theorem law_stB (nb : Bool) (code : List Int) (hB : Byte code) : Fn Try.prog 4 [.one (row nb 1 (bys code))] (.v (.one (bool true))):=by
 have hlb:=bys_len code
 by_cases hl : code.length ≤ 1048576
 ·exact f_lawStB nb code hB hl
 ·refine Z7 (l:=[.tmp 2]) Try.func4 kRf rfl Try.ntmps4 rfl rfl ?_; simp only [argEnv,P0.d,Nat.reduceAdd]
  repeat' (first|refine wk ?_|(refine wkB ?_ ?_<;>intro hg_<;>try exact wkX)|fail)
  all_goals first
   | exact Zab rfl (Zr rfl)
   | (exfalso; omega)
end Go.Proofs.Ytmkijbfiilpccaa.Abs
