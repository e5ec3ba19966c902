/- Draws of programs by states. No statement of the seat is proved here. -/
import Derived.Lib.Hide
import Derived.Test.YtmkijbfiilpccaaLaTy
import Derived.Test.YtmkijbfiilpccaaLaAProg
set_option linter.unusedSimpArgs false
set_option linter.unusedVariables false
set_option maxRecDepth 100000
set_option maxHeartbeats 8000000
namespace Go.Proofs.Ytmkijbfiilpccaa.Abs
open Go.RowKit
open R (val row ref)
noncomputable def oD (n : Int) : Int:=if 0 < n then 1 else 0
noncomputable def oV (bs : List Int) (q n : Int) : Bool:=if 0 < n then oddV bs q n else false
theorem f_oddZ {bs : List Int} (p : Int) (m1 m2 nb : Bool) : FnS Try.prog 74 [.one (.ptr 1000000000 0 0 0),.one (.r false (int 0))] (rdH 1000000000 m1 m2 nb bs p) (.one (.r true (bool false))) (rdH 1000000000 m1 m2 nb bs p):=by
 unfold rdH
 refine Zad (l:=[.tmp 4]) Try.func74 kRf rfl Try.ntmps74 rfl rfl ?_; simp only [dEnv,Nat.reduceAdd]
 repeat' (first|refine wk ?_|(refine wkB ?_ ?_<;>intro hg_<;>try exact wkX)|fail)
 all_goals first
  | exact Z4 [] rfl sbH (Zbl rfl rfl rfl)
theorem f_oddJ0 {bs : List Int} (p n : Int) (hn : 0 ≤ n) (hn2 : n ≤ 1000000) (hB : Byte bs) (hl : bs.length ≤ 2000) (hp0 : 0 ≤ p) (hp : p ≤ 1000000) (m1 nb : Bool) : FnS Try.prog 74 [.one (.ptr 1000000000 0 0 0),.one (.r false (int n))] (rdH 1000000000 m1 true nb bs p) (.one (.r true (bool (oV bs p n)))) (rdH 1000000000 m1 true nb bs (p + oD n)):=by
 unfold oV oD
 by_cases h : 0 < n
 ·rw [if_pos h,if_pos h]; exact f_odd p n h hn2 hB hl hp0 hp m1 true nb
 ·obtain rfl : n = 0:=by omega
  rw [if_neg h,if_neg h,Int.add_zero]; exact f_oddZ p m1 true nb
theorem oD_in (n : Int) : 0 ≤ oD n ∧ oD n ≤ 1:=by unfold oD; split<;>omega
theorem l20Prog_ex (bs : List Int) (p many n : Int) (hB : Byte bs) (hl : bs.length ≤ 2000) (hp0 : 0 ≤ p) (hp : p ≤ 800000) (hn : 0 ≤ n) (hn2 : n ≤ 1000000) : ∃ k s r p' : Int,(p ≤ p' ∧ p' ≤ p + 20) ∧ ∀ m1 m2 nb,FnS Try.prog 69 [.one (.ptr 1000000000 0 0 0),.one (.r false (int many)),.one (.r false (int n))] (rdH 1000000000 m1 m2 nb bs p) (.agg [.r true (int k),.r true (int s),.r true (int r)]) (rdH 1000000000 m1 true nb bs p'):=by
 have K0:=Zbd p 6 hB hl hp0 oM
 have h0:=Zaz bs p 6
 have KP : ∀ q : Int,0 ≤ q → q ≤ 1000000 → ∀ n m1 nb,FnS Try.prog 67 [.one (.ptr 1000000000 0 0 0),.one (.r false (int n))] (rdH 1000000000 m1 true nb bs q) (.one (.r true (int (pickV bs q n)))) (rdH 1000000000 m1 true nb bs (q + 1)):=fun q h0 h1 n m1 nb=>Zbd q n hB hl h0 h1 m1 true nb
 have KO : ∀ q : Int,0 ≤ q → q ≤ 1000000 → ∀ m1 nb,FnS Try.prog 74 [.one (.ptr 1000000000 0 0 0),.one (.r false (int n))] (rdH 1000000000 m1 true nb bs q) (.one (.r true (bool (oV bs q n)))) (rdH 1000000000 m1 true nb bs (q + oD n)):=fun q h0 h1 m1 nb=>f_oddJ0 q n hn hn2 hB hl h0 h1 m1 nb
 have hoD:=oD_in n
 have hw0 : IntKind.i64.wrap (1 + pickV bs p 6) = 1 + pickV bs p 6:=IntWalk.i64_in _ oM
 have hcls : (pickV bs p 6 = 0 ∨ pickV bs p 6 = 1) ∨ (pickV bs p 6 = 3 ∨ pickV bs p 6 = 5) ∨ (pickV bs p 6 = 2 ∨ pickV bs p 6 = 4):=by omega
 generalize pickV bs p 6 = v0 at *
 rcases hcls with hc | hc | hc
 ·have K1:=KP (p + 1) oM oM (if 1 < many then many else 1)
  generalize pickV bs (p + 1) (if 1 < many then many else 1) = v1 at *
  have KQ:=KO (p + 1 + 1) oM oM
  have K3:=KP (p + 1 + 1 + oD n) oM oM 3
  have h3:=Zaz bs (p + 1 + 1 + oD n) 3
  have K4:=KP (p + 1 + 1 + oD n + 1) oM oM 2
  have h4:=Zaz bs (p + 1 + 1 + oD n + 1) 2
  clear KP KO
  generalize oV bs (p + 1 + 1) n = od at *
  generalize pickV bs (p + 1 + 1 + oD n) 3 = v3 at *
  generalize pickV bs (p + 1 + 1 + oD n + 1) 2 = v4 at *
  cases od with
  | false =>
   refine ⟨1 + v0,v1,0,p + 1 + 1 + oD n,⟨by omega,by omega⟩,fun m1 m2 nb=>?_⟩
   have K0:=K0 m1 m2 nb
   have K1:=K1 m1 nb
   have KQ:=KQ m1 nb
   have K3:=K3 m1 nb
   have K4:=K4 m1 nb
   unfold rdH at *
   refine Zad (l:=[.cell 6 59]) Try.func69 kRf rfl Try.ntmps69 rfl rfl ?_; simp only [dEnv,Nat.reduceAdd]
   repeat' (first|refine wk ?_|((first|refine' w_q rfl rfl ?xa rfl ?_|refine' v_q rfl rfl ?xa rfl ?_|refine' Zn rfl rfl (Zb rfl) rfl ?xa rfl ?_|refine' Zo rfl rfl (Zb rfl) rfl ?xa rfl ?_);case xa=>first|exact Zap tbOk rfl rfl rfl rfl oM (by simp only [List.length_cons,List.length_nil];omega)|exact Zae (xs:=[IntKind.i64.wrap (1 + v1),8,20]) tbOk rfl rfl rfl rfl (by simp only [List.length_cons,List.length_nil];omega)|exact Zae (xs:=[0,7]) tbOk rfl rfl rfl rfl (by simp only [List.length_cons,List.length_nil];omega)|exact Zae (xs:=[-1,16]) tbOk rfl rfl rfl rfl (by simp only [List.length_cons,List.length_nil];omega)|exact Zae (xs:=[-1,21]) tbOk rfl rfl rfl rfl (by simp only [List.length_cons,List.length_nil];omega))|((first|refine' w_e rfl ?xa ?xb ?xc ?xe ?_|refine' v_e rfl ?xa ?xb ?xc ?xe ?_);(case xa=>first|exact Ze 9 rfl (Zg [] K0 rfl ⟨Zh (Za rfl),asE,trivial⟩ sbH rfl)|exact Ze 20 rfl (Zg [] K1 rfl ⟨Zh (Za rfl),asE,trivial⟩ sbH rfl)|exact Ze 26 rfl (Zg [] K1 rfl ⟨Zh (Za rfl),asE,trivial⟩ sbH rfl)|exact Ze 30 rfl (Zg [] K2 rfl ⟨Zh (Za rfl),asE,trivial⟩ sbH rfl)|exact Ze 36 rfl (Zg [] KQ rfl ⟨Zh (Za rfl),asE,trivial⟩ sbH rfl)|exact Ze 38 rfl (Zg [] K3 rfl ⟨Zh (Za rfl),asE,trivial⟩ sbH rfl)|exact Ze 49 rfl (Zg [] K4 rfl ⟨Zh (Za rfl),asE,trivial⟩ sbH rfl)|exact Ze 57 rfl (Zg [] K4 rfl ⟨Zh (Za rfl),asE,trivial⟩ sbH rfl)|exact Ze 41 rfl (Zg [] K4 rfl ⟨Zh (Za rfl),asE,trivial⟩ sbH rfl)|exact Ze 28 rfl (Zl [.tmp 27,.const (.int .i64 8),.const (.int .i64 20)] tlOk rfl rfl rfl rfl rfl rfl (Zak [IntKind.i64.wrap (1 + v1),8,20]) (by simp))|exact Ze 47 rfl (Zl [.const (.int .i64 0),.const (.int .i64 7)] tlOk rfl rfl rfl rfl rfl rfl (Zak [0,7]) (by decide))|exact Ze 55 rfl (Zl [.const (.int .i64 (-1)),.const (.int .i64 16)] tlOk rfl rfl rfl rfl rfl rfl (Zak [-1,16]) (by decide))|exact Ze 39 rfl (Zl [.const (.int .i64 (-1)),.const (.int .i64 21)] tlOk rfl rfl rfl rfl rfl rfl (Zak [-1,21]) (by decide)));(case xb|xc|xe=>rfl);try refine wkD ?_)|(refine wkB ?_ ?_<;>intro hg_<;>try exact wkX)|fail)
   all_goals first
    | (exfalso; omega)
    | exact Z4 [] rfl sbH (Za3 rfl rfl tyF0 rfl rfl rfl (Zac (by simp only [Nat.zero_add,hw0];rfl)))
  | true =>
   have h3' : v3 = 0 ∨ v3 = 1 ∨ v3 = 2:=by omega
   rcases h3' with rfl | rfl | rfl
   ·refine ⟨dV [0,7] v4,v1,0,p + 1 + 1 + oD n + 1 + 1,⟨by omega,by omega⟩,fun m1 m2 nb=>?_⟩
    have K0:=K0 m1 m2 nb
    have K1:=K1 m1 nb
    have KQ:=KQ m1 nb
    have K3:=K3 m1 nb
    have K4:=K4 m1 nb
    unfold rdH at *
    refine Zad (l:=[.cell 6 59]) Try.func69 kRf rfl Try.ntmps69 rfl rfl ?_; simp only [dEnv,Nat.reduceAdd]
    repeat' (first|refine wk ?_|((first|refine' w_q rfl rfl ?xa rfl ?_|refine' v_q rfl rfl ?xa rfl ?_|refine' Zn rfl rfl (Zb rfl) rfl ?xa rfl ?_|refine' Zo rfl rfl (Zb rfl) rfl ?xa rfl ?_);case xa=>first|exact Zap tbOk rfl rfl rfl rfl oM (by simp only [List.length_cons,List.length_nil];omega)|exact Zae (xs:=[IntKind.i64.wrap (1 + v1),8,20]) tbOk rfl rfl rfl rfl (by simp only [List.length_cons,List.length_nil];omega)|exact Zae (xs:=[0,7]) tbOk rfl rfl rfl rfl (by simp only [List.length_cons,List.length_nil];omega)|exact Zae (xs:=[-1,16]) tbOk rfl rfl rfl rfl (by simp only [List.length_cons,List.length_nil];omega)|exact Zae (xs:=[-1,21]) tbOk rfl rfl rfl rfl (by simp only [List.length_cons,List.length_nil];omega))|((first|refine' w_e rfl ?xa ?xb ?xc ?xe ?_|refine' v_e rfl ?xa ?xb ?xc ?xe ?_);(case xa=>first|exact Ze 9 rfl (Zg [] K0 rfl ⟨Zh (Za rfl),asE,trivial⟩ sbH rfl)|exact Ze 20 rfl (Zg [] K1 rfl ⟨Zh (Za rfl),asE,trivial⟩ sbH rfl)|exact Ze 26 rfl (Zg [] K1 rfl ⟨Zh (Za rfl),asE,trivial⟩ sbH rfl)|exact Ze 30 rfl (Zg [] K2 rfl ⟨Zh (Za rfl),asE,trivial⟩ sbH rfl)|exact Ze 36 rfl (Zg [] KQ rfl ⟨Zh (Za rfl),asE,trivial⟩ sbH rfl)|exact Ze 38 rfl (Zg [] K3 rfl ⟨Zh (Za rfl),asE,trivial⟩ sbH rfl)|exact Ze 49 rfl (Zg [] K4 rfl ⟨Zh (Za rfl),asE,trivial⟩ sbH rfl)|exact Ze 57 rfl (Zg [] K4 rfl ⟨Zh (Za rfl),asE,trivial⟩ sbH rfl)|exact Ze 41 rfl (Zg [] K4 rfl ⟨Zh (Za rfl),asE,trivial⟩ sbH rfl)|exact Ze 28 rfl (Zl [.tmp 27,.const (.int .i64 8),.const (.int .i64 20)] tlOk rfl rfl rfl rfl rfl rfl (Zak [IntKind.i64.wrap (1 + v1),8,20]) (by simp))|exact Ze 47 rfl (Zl [.const (.int .i64 0),.const (.int .i64 7)] tlOk rfl rfl rfl rfl rfl rfl (Zak [0,7]) (by decide))|exact Ze 55 rfl (Zl [.const (.int .i64 (-1)),.const (.int .i64 16)] tlOk rfl rfl rfl rfl rfl rfl (Zak [-1,16]) (by decide))|exact Ze 39 rfl (Zl [.const (.int .i64 (-1)),.const (.int .i64 21)] tlOk rfl rfl rfl rfl rfl rfl (Zak [-1,21]) (by decide)));(case xb|xc|xe=>rfl);try refine wkD ?_)|(refine wkB ?_ ?_<;>intro hg_<;>try exact wkX)|fail)
    all_goals first
     | (exfalso; omega)
     | exact Z4 [] rfl sbH (Za3 rfl rfl tyF0 rfl rfl rfl (Zac (by simp only [Nat.zero_add,hw0];rfl)))
   ·refine ⟨1 + v0,dV [-1,16] v4,0,p + 1 + 1 + oD n + 1 + 1,⟨by omega,by omega⟩,fun m1 m2 nb=>?_⟩
    have K0:=K0 m1 m2 nb
    have K1:=K1 m1 nb
    have KQ:=KQ m1 nb
    have K3:=K3 m1 nb
    have K4:=K4 m1 nb
    unfold rdH at *
    refine Zad (l:=[.cell 6 59]) Try.func69 kRf rfl Try.ntmps69 rfl rfl ?_; simp only [dEnv,Nat.reduceAdd]
    repeat' (first|refine wk ?_|((first|refine' w_q rfl rfl ?xa rfl ?_|refine' v_q rfl rfl ?xa rfl ?_|refine' Zn rfl rfl (Zb rfl) rfl ?xa rfl ?_|refine' Zo rfl rfl (Zb rfl) rfl ?xa rfl ?_);case xa=>first|exact Zap tbOk rfl rfl rfl rfl oM (by simp only [List.length_cons,List.length_nil];omega)|exact Zae (xs:=[IntKind.i64.wrap (1 + v1),8,20]) tbOk rfl rfl rfl rfl (by simp only [List.length_cons,List.length_nil];omega)|exact Zae (xs:=[0,7]) tbOk rfl rfl rfl rfl (by simp only [List.length_cons,List.length_nil];omega)|exact Zae (xs:=[-1,16]) tbOk rfl rfl rfl rfl (by simp only [List.length_cons,List.length_nil];omega)|exact Zae (xs:=[-1,21]) tbOk rfl rfl rfl rfl (by simp only [List.length_cons,List.length_nil];omega))|((first|refine' w_e rfl ?xa ?xb ?xc ?xe ?_|refine' v_e rfl ?xa ?xb ?xc ?xe ?_);(case xa=>first|exact Ze 9 rfl (Zg [] K0 rfl ⟨Zh (Za rfl),asE,trivial⟩ sbH rfl)|exact Ze 20 rfl (Zg [] K1 rfl ⟨Zh (Za rfl),asE,trivial⟩ sbH rfl)|exact Ze 26 rfl (Zg [] K1 rfl ⟨Zh (Za rfl),asE,trivial⟩ sbH rfl)|exact Ze 30 rfl (Zg [] K2 rfl ⟨Zh (Za rfl),asE,trivial⟩ sbH rfl)|exact Ze 36 rfl (Zg [] KQ rfl ⟨Zh (Za rfl),asE,trivial⟩ sbH rfl)|exact Ze 38 rfl (Zg [] K3 rfl ⟨Zh (Za rfl),asE,trivial⟩ sbH rfl)|exact Ze 49 rfl (Zg [] K4 rfl ⟨Zh (Za rfl),asE,trivial⟩ sbH rfl)|exact Ze 57 rfl (Zg [] K4 rfl ⟨Zh (Za rfl),asE,trivial⟩ sbH rfl)|exact Ze 41 rfl (Zg [] K4 rfl ⟨Zh (Za rfl),asE,trivial⟩ sbH rfl)|exact Ze 28 rfl (Zl [.tmp 27,.const (.int .i64 8),.const (.int .i64 20)] tlOk rfl rfl rfl rfl rfl rfl (Zak [IntKind.i64.wrap (1 + v1),8,20]) (by simp))|exact Ze 47 rfl (Zl [.const (.int .i64 0),.const (.int .i64 7)] tlOk rfl rfl rfl rfl rfl rfl (Zak [0,7]) (by decide))|exact Ze 55 rfl (Zl [.const (.int .i64 (-1)),.const (.int .i64 16)] tlOk rfl rfl rfl rfl rfl rfl (Zak [-1,16]) (by decide))|exact Ze 39 rfl (Zl [.const (.int .i64 (-1)),.const (.int .i64 21)] tlOk rfl rfl rfl rfl rfl rfl (Zak [-1,21]) (by decide)));(case xb|xc|xe=>rfl);try refine wkD ?_)|(refine wkB ?_ ?_<;>intro hg_<;>try exact wkX)|fail)
    all_goals first
     | (exfalso; omega)
     | exact Z4 [] rfl sbH (Za3 rfl rfl tyF0 rfl rfl rfl (Zac (by simp only [Nat.zero_add,hw0];rfl)))
   ·refine ⟨1 + v0,v1,dV [-1,21] v4,p + 1 + 1 + oD n + 1 + 1,⟨by omega,by omega⟩,fun m1 m2 nb=>?_⟩
    have K0:=K0 m1 m2 nb
    have K1:=K1 m1 nb
    have KQ:=KQ m1 nb
    have K3:=K3 m1 nb
    have K4:=K4 m1 nb
    unfold rdH at *
    refine Zad (l:=[.cell 6 59]) Try.func69 kRf rfl Try.ntmps69 rfl rfl ?_; simp only [dEnv,Nat.reduceAdd]
    repeat' (first|refine wk ?_|((first|refine' w_q rfl rfl ?xa rfl ?_|refine' v_q rfl rfl ?xa rfl ?_|refine' Zn rfl rfl (Zb rfl) rfl ?xa rfl ?_|refine' Zo rfl rfl (Zb rfl) rfl ?xa rfl ?_);case xa=>first|exact Zap tbOk rfl rfl rfl rfl oM (by simp only [List.length_cons,List.length_nil];omega)|exact Zae (xs:=[IntKind.i64.wrap (1 + v1),8,20]) tbOk rfl rfl rfl rfl (by simp only [List.length_cons,List.length_nil];omega)|exact Zae (xs:=[0,7]) tbOk rfl rfl rfl rfl (by simp only [List.length_cons,List.length_nil];omega)|exact Zae (xs:=[-1,16]) tbOk rfl rfl rfl rfl (by simp only [List.length_cons,List.length_nil];omega)|exact Zae (xs:=[-1,21]) tbOk rfl rfl rfl rfl (by simp only [List.length_cons,List.length_nil];omega))|((first|refine' w_e rfl ?xa ?xb ?xc ?xe ?_|refine' v_e rfl ?xa ?xb ?xc ?xe ?_);(case xa=>first|exact Ze 9 rfl (Zg [] K0 rfl ⟨Zh (Za rfl),asE,trivial⟩ sbH rfl)|exact Ze 20 rfl (Zg [] K1 rfl ⟨Zh (Za rfl),asE,trivial⟩ sbH rfl)|exact Ze 26 rfl (Zg [] K1 rfl ⟨Zh (Za rfl),asE,trivial⟩ sbH rfl)|exact Ze 30 rfl (Zg [] K2 rfl ⟨Zh (Za rfl),asE,trivial⟩ sbH rfl)|exact Ze 36 rfl (Zg [] KQ rfl ⟨Zh (Za rfl),asE,trivial⟩ sbH rfl)|exact Ze 38 rfl (Zg [] K3 rfl ⟨Zh (Za rfl),asE,trivial⟩ sbH rfl)|exact Ze 49 rfl (Zg [] K4 rfl ⟨Zh (Za rfl),asE,trivial⟩ sbH rfl)|exact Ze 57 rfl (Zg [] K4 rfl ⟨Zh (Za rfl),asE,trivial⟩ sbH rfl)|exact Ze 41 rfl (Zg [] K4 rfl ⟨Zh (Za rfl),asE,trivial⟩ sbH rfl)|exact Ze 28 rfl (Zl [.tmp 27,.const (.int .i64 8),.const (.int .i64 20)] tlOk rfl rfl rfl rfl rfl rfl (Zak [IntKind.i64.wrap (1 + v1),8,20]) (by simp))|exact Ze 47 rfl (Zl [.const (.int .i64 0),.const (.int .i64 7)] tlOk rfl rfl rfl rfl rfl rfl (Zak [0,7]) (by decide))|exact Ze 55 rfl (Zl [.const (.int .i64 (-1)),.const (.int .i64 16)] tlOk rfl rfl rfl rfl rfl rfl (Zak [-1,16]) (by decide))|exact Ze 39 rfl (Zl [.const (.int .i64 (-1)),.const (.int .i64 21)] tlOk rfl rfl rfl rfl rfl rfl (Zak [-1,21]) (by decide)));(case xb|xc|xe=>rfl);try refine wkD ?_)|(refine wkB ?_ ?_<;>intro hg_<;>try exact wkX)|fail)
    all_goals first
     | (exfalso; omega)
     | exact Z4 [] rfl sbH (Za3 rfl rfl tyF0 rfl rfl rfl (Zac (by simp only [Nat.zero_add,hw0];rfl)))
 ·have K1:=KP (p + 1) oM oM 6
  have h1:=Zaz bs (p + 1) 6
  have K2:=KP (p + 1 + 1) oM oM 3
  have h2:=Zaz bs (p + 1 + 1) 3
  generalize pickV bs (p + 1) 6 = v1 at *
  generalize pickV bs (p + 1 + 1) 3 = v2 at *
  have KQ:=KO (p + 1 + 1 + 1) oM oM
  have K3:=KP (p + 1 + 1 + 1 + oD n) oM oM 3
  have h3:=Zaz bs (p + 1 + 1 + 1 + oD n) 3
  have K4:=KP (p + 1 + 1 + 1 + oD n + 1) oM oM 2
  have h4:=Zaz bs (p + 1 + 1 + 1 + oD n + 1) 2
  clear KP KO
  generalize oV bs (p + 1 + 1 + 1) n = od at *
  generalize pickV bs (p + 1 + 1 + 1 + oD n) 3 = v3 at *
  generalize pickV bs (p + 1 + 1 + 1 + oD n + 1) 2 = v4 at *
  cases od with
  | false =>
   refine ⟨1 + v0,0,dV [IntKind.i64.wrap (1 + v1),8,20] v2,p + 1 + 1 + 1 + oD n,⟨by omega,by omega⟩,fun m1 m2 nb=>?_⟩
   have K0:=K0 m1 m2 nb
   have K1:=K1 m1 nb
   have K2:=K2 m1 nb
   have KQ:=KQ m1 nb
   have K3:=K3 m1 nb
   have K4:=K4 m1 nb
   unfold rdH at *
   refine Zad (l:=[.cell 6 59]) Try.func69 kRf rfl Try.ntmps69 rfl rfl ?_; simp only [dEnv,Nat.reduceAdd]
   repeat' (first|refine wk ?_|((first|refine' w_q rfl rfl ?xa rfl ?_|refine' v_q rfl rfl ?xa rfl ?_|refine' Zn rfl rfl (Zb rfl) rfl ?xa rfl ?_|refine' Zo rfl rfl (Zb rfl) rfl ?xa rfl ?_);case xa=>first|exact Zap tbOk rfl rfl rfl rfl oM (by simp only [List.length_cons,List.length_nil];omega)|exact Zae (xs:=[IntKind.i64.wrap (1 + v1),8,20]) tbOk rfl rfl rfl rfl (by simp only [List.length_cons,List.length_nil];omega)|exact Zae (xs:=[0,7]) tbOk rfl rfl rfl rfl (by simp only [List.length_cons,List.length_nil];omega)|exact Zae (xs:=[-1,16]) tbOk rfl rfl rfl rfl (by simp only [List.length_cons,List.length_nil];omega)|exact Zae (xs:=[-1,21]) tbOk rfl rfl rfl rfl (by simp only [List.length_cons,List.length_nil];omega))|((first|refine' w_e rfl ?xa ?xb ?xc ?xe ?_|refine' v_e rfl ?xa ?xb ?xc ?xe ?_);(case xa=>first|exact Ze 9 rfl (Zg [] K0 rfl ⟨Zh (Za rfl),asE,trivial⟩ sbH rfl)|exact Ze 20 rfl (Zg [] K1 rfl ⟨Zh (Za rfl),asE,trivial⟩ sbH rfl)|exact Ze 26 rfl (Zg [] K1 rfl ⟨Zh (Za rfl),asE,trivial⟩ sbH rfl)|exact Ze 30 rfl (Zg [] K2 rfl ⟨Zh (Za rfl),asE,trivial⟩ sbH rfl)|exact Ze 36 rfl (Zg [] KQ rfl ⟨Zh (Za rfl),asE,trivial⟩ sbH rfl)|exact Ze 38 rfl (Zg [] K3 rfl ⟨Zh (Za rfl),asE,trivial⟩ sbH rfl)|exact Ze 49 rfl (Zg [] K4 rfl ⟨Zh (Za rfl),asE,trivial⟩ sbH rfl)|exact Ze 57 rfl (Zg [] K4 rfl ⟨Zh (Za rfl),asE,trivial⟩ sbH rfl)|exact Ze 41 rfl (Zg [] K4 rfl ⟨Zh (Za rfl),asE,trivial⟩ sbH rfl)|exact Ze 28 rfl (Zl [.tmp 27,.const (.int .i64 8),.const (.int .i64 20)] tlOk rfl rfl rfl rfl rfl rfl (Zak [IntKind.i64.wrap (1 + v1),8,20]) (by simp))|exact Ze 47 rfl (Zl [.const (.int .i64 0),.const (.int .i64 7)] tlOk rfl rfl rfl rfl rfl rfl (Zak [0,7]) (by decide))|exact Ze 55 rfl (Zl [.const (.int .i64 (-1)),.const (.int .i64 16)] tlOk rfl rfl rfl rfl rfl rfl (Zak [-1,16]) (by decide))|exact Ze 39 rfl (Zl [.const (.int .i64 (-1)),.const (.int .i64 21)] tlOk rfl rfl rfl rfl rfl rfl (Zak [-1,21]) (by decide)));(case xb|xc|xe=>rfl);try refine wkD ?_)|(refine wkB ?_ ?_<;>intro hg_<;>try exact wkX)|fail)
   all_goals first
    | (exfalso; omega)
    | exact Z4 [] rfl sbH (Za3 rfl rfl tyF0 rfl rfl rfl (Zac (by simp only [Nat.zero_add,hw0];rfl)))
  | true =>
   have h3' : v3 = 0 ∨ v3 = 1 ∨ v3 = 2:=by omega
   rcases h3' with rfl | rfl | rfl
   ·refine ⟨dV [0,7] v4,0,dV [IntKind.i64.wrap (1 + v1),8,20] v2,p + 1 + 1 + 1 + oD n + 1 + 1,⟨by omega,by omega⟩,fun m1 m2 nb=>?_⟩
    have K0:=K0 m1 m2 nb
    have K1:=K1 m1 nb
    have K2:=K2 m1 nb
    have KQ:=KQ m1 nb
    have K3:=K3 m1 nb
    have K4:=K4 m1 nb
    unfold rdH at *
    refine Zad (l:=[.cell 6 59]) Try.func69 kRf rfl Try.ntmps69 rfl rfl ?_; simp only [dEnv,Nat.reduceAdd]
    repeat' (first|refine wk ?_|((first|refine' w_q rfl rfl ?xa rfl ?_|refine' v_q rfl rfl ?xa rfl ?_|refine' Zn rfl rfl (Zb rfl) rfl ?xa rfl ?_|refine' Zo rfl rfl (Zb rfl) rfl ?xa rfl ?_);case xa=>first|exact Zap tbOk rfl rfl rfl rfl oM (by simp only [List.length_cons,List.length_nil];omega)|exact Zae (xs:=[IntKind.i64.wrap (1 + v1),8,20]) tbOk rfl rfl rfl rfl (by simp only [List.length_cons,List.length_nil];omega)|exact Zae (xs:=[0,7]) tbOk rfl rfl rfl rfl (by simp only [List.length_cons,List.length_nil];omega)|exact Zae (xs:=[-1,16]) tbOk rfl rfl rfl rfl (by simp only [List.length_cons,List.length_nil];omega)|exact Zae (xs:=[-1,21]) tbOk rfl rfl rfl rfl (by simp only [List.length_cons,List.length_nil];omega))|((first|refine' w_e rfl ?xa ?xb ?xc ?xe ?_|refine' v_e rfl ?xa ?xb ?xc ?xe ?_);(case xa=>first|exact Ze 9 rfl (Zg [] K0 rfl ⟨Zh (Za rfl),asE,trivial⟩ sbH rfl)|exact Ze 20 rfl (Zg [] K1 rfl ⟨Zh (Za rfl),asE,trivial⟩ sbH rfl)|exact Ze 26 rfl (Zg [] K1 rfl ⟨Zh (Za rfl),asE,trivial⟩ sbH rfl)|exact Ze 30 rfl (Zg [] K2 rfl ⟨Zh (Za rfl),asE,trivial⟩ sbH rfl)|exact Ze 36 rfl (Zg [] KQ rfl ⟨Zh (Za rfl),asE,trivial⟩ sbH rfl)|exact Ze 38 rfl (Zg [] K3 rfl ⟨Zh (Za rfl),asE,trivial⟩ sbH rfl)|exact Ze 49 rfl (Zg [] K4 rfl ⟨Zh (Za rfl),asE,trivial⟩ sbH rfl)|exact Ze 57 rfl (Zg [] K4 rfl ⟨Zh (Za rfl),asE,trivial⟩ sbH rfl)|exact Ze 41 rfl (Zg [] K4 rfl ⟨Zh (Za rfl),asE,trivial⟩ sbH rfl)|exact Ze 28 rfl (Zl [.tmp 27,.const (.int .i64 8),.const (.int .i64 20)] tlOk rfl rfl rfl rfl rfl rfl (Zak [IntKind.i64.wrap (1 + v1),8,20]) (by simp))|exact Ze 47 rfl (Zl [.const (.int .i64 0),.const (.int .i64 7)] tlOk rfl rfl rfl rfl rfl rfl (Zak [0,7]) (by decide))|exact Ze 55 rfl (Zl [.const (.int .i64 (-1)),.const (.int .i64 16)] tlOk rfl rfl rfl rfl rfl rfl (Zak [-1,16]) (by decide))|exact Ze 39 rfl (Zl [.const (.int .i64 (-1)),.const (.int .i64 21)] tlOk rfl rfl rfl rfl rfl rfl (Zak [-1,21]) (by decide)));(case xb|xc|xe=>rfl);try refine wkD ?_)|(refine wkB ?_ ?_<;>intro hg_<;>try exact wkX)|fail)
    all_goals first
     | (exfalso; omega)
     | exact Z4 [] rfl sbH (Za3 rfl rfl tyF0 rfl rfl rfl (Zac (by simp only [Nat.zero_add,hw0];rfl)))
   ·refine ⟨1 + v0,dV [-1,16] v4,dV [IntKind.i64.wrap (1 + v1),8,20] v2,p + 1 + 1 + 1 + oD n + 1 + 1,⟨by omega,by omega⟩,fun m1 m2 nb=>?_⟩
    have K0:=K0 m1 m2 nb
    have K1:=K1 m1 nb
    have K2:=K2 m1 nb
    have KQ:=KQ m1 nb
    have K3:=K3 m1 nb
    have K4:=K4 m1 nb
    unfold rdH at *
    refine Zad (l:=[.cell 6 59]) Try.func69 kRf rfl Try.ntmps69 rfl rfl ?_; simp only [dEnv,Nat.reduceAdd]
    repeat' (first|refine wk ?_|((first|refine' w_q rfl rfl ?xa rfl ?_|refine' v_q rfl rfl ?xa rfl ?_|refine' Zn rfl rfl (Zb rfl) rfl ?xa rfl ?_|refine' Zo rfl rfl (Zb rfl) rfl ?xa rfl ?_);case xa=>first|exact Zap tbOk rfl rfl rfl rfl oM (by simp only [List.length_cons,List.length_nil];omega)|exact Zae (xs:=[IntKind.i64.wrap (1 + v1),8,20]) tbOk rfl rfl rfl rfl (by simp only [List.length_cons,List.length_nil];omega)|exact Zae (xs:=[0,7]) tbOk rfl rfl rfl rfl (by simp only [List.length_cons,List.length_nil];omega)|exact Zae (xs:=[-1,16]) tbOk rfl rfl rfl rfl (by simp only [List.length_cons,List.length_nil];omega)|exact Zae (xs:=[-1,21]) tbOk rfl rfl rfl rfl (by simp only [List.length_cons,List.length_nil];omega))|((first|refine' w_e rfl ?xa ?xb ?xc ?xe ?_|refine' v_e rfl ?xa ?xb ?xc ?xe ?_);(case xa=>first|exact Ze 9 rfl (Zg [] K0 rfl ⟨Zh (Za rfl),asE,trivial⟩ sbH rfl)|exact Ze 20 rfl (Zg [] K1 rfl ⟨Zh (Za rfl),asE,trivial⟩ sbH rfl)|exact Ze 26 rfl (Zg [] K1 rfl ⟨Zh (Za rfl),asE,trivial⟩ sbH rfl)|exact Ze 30 rfl (Zg [] K2 rfl ⟨Zh (Za rfl),asE,trivial⟩ sbH rfl)|exact Ze 36 rfl (Zg [] KQ rfl ⟨Zh (Za rfl),asE,trivial⟩ sbH rfl)|exact Ze 38 rfl (Zg [] K3 rfl ⟨Zh (Za rfl),asE,trivial⟩ sbH rfl)|exact Ze 49 rfl (Zg [] K4 rfl ⟨Zh (Za rfl),asE,trivial⟩ sbH rfl)|exact Ze 57 rfl (Zg [] K4 rfl ⟨Zh (Za rfl),asE,trivial⟩ sbH rfl)|exact Ze 41 rfl (Zg [] K4 rfl ⟨Zh (Za rfl),asE,trivial⟩ sbH rfl)|exact Ze 28 rfl (Zl [.tmp 27,.const (.int .i64 8),.const (.int .i64 20)] tlOk rfl rfl rfl rfl rfl rfl (Zak [IntKind.i64.wrap (1 + v1),8,20]) (by simp))|exact Ze 47 rfl (Zl [.const (.int .i64 0),.const (.int .i64 7)] tlOk rfl rfl rfl rfl rfl rfl (Zak [0,7]) (by decide))|exact Ze 55 rfl (Zl [.const (.int .i64 (-1)),.const (.int .i64 16)] tlOk rfl rfl rfl rfl rfl rfl (Zak [-1,16]) (by decide))|exact Ze 39 rfl (Zl [.const (.int .i64 (-1)),.const (.int .i64 21)] tlOk rfl rfl rfl rfl rfl rfl (Zak [-1,21]) (by decide)));(case xb|xc|xe=>rfl);try refine wkD ?_)|(refine wkB ?_ ?_<;>intro hg_<;>try exact wkX)|fail)
    all_goals first
     | (exfalso; omega)
     | exact Z4 [] rfl sbH (Za3 rfl rfl tyF0 rfl rfl rfl (Zac (by simp only [Nat.zero_add,hw0];rfl)))
   ·refine ⟨1 + v0,0,dV [-1,21] v4,p + 1 + 1 + 1 + oD n + 1 + 1,⟨by omega,by omega⟩,fun m1 m2 nb=>?_⟩
    have K0:=K0 m1 m2 nb
    have K1:=K1 m1 nb
    have K2:=K2 m1 nb
    have KQ:=KQ m1 nb
    have K3:=K3 m1 nb
    have K4:=K4 m1 nb
    unfold rdH at *
    refine Zad (l:=[.cell 6 59]) Try.func69 kRf rfl Try.ntmps69 rfl rfl ?_; simp only [dEnv,Nat.reduceAdd]
    repeat' (first|refine wk ?_|((first|refine' w_q rfl rfl ?xa rfl ?_|refine' v_q rfl rfl ?xa rfl ?_|refine' Zn rfl rfl (Zb rfl) rfl ?xa rfl ?_|refine' Zo rfl rfl (Zb rfl) rfl ?xa rfl ?_);case xa=>first|exact Zap tbOk rfl rfl rfl rfl oM (by simp only [List.length_cons,List.length_nil];omega)|exact Zae (xs:=[IntKind.i64.wrap (1 + v1),8,20]) tbOk rfl rfl rfl rfl (by simp only [List.length_cons,List.length_nil];omega)|exact Zae (xs:=[0,7]) tbOk rfl rfl rfl rfl (by simp only [List.length_cons,List.length_nil];omega)|exact Zae (xs:=[-1,16]) tbOk rfl rfl rfl rfl (by simp only [List.length_cons,List.length_nil];omega)|exact Zae (xs:=[-1,21]) tbOk rfl rfl rfl rfl (by simp only [List.length_cons,List.length_nil];omega))|((first|refine' w_e rfl ?xa ?xb ?xc ?xe ?_|refine' v_e rfl ?xa ?xb ?xc ?xe ?_);(case xa=>first|exact Ze 9 rfl (Zg [] K0 rfl ⟨Zh (Za rfl),asE,trivial⟩ sbH rfl)|exact Ze 20 rfl (Zg [] K1 rfl ⟨Zh (Za rfl),asE,trivial⟩ sbH rfl)|exact Ze 26 rfl (Zg [] K1 rfl ⟨Zh (Za rfl),asE,trivial⟩ sbH rfl)|exact Ze 30 rfl (Zg [] K2 rfl ⟨Zh (Za rfl),asE,trivial⟩ sbH rfl)|exact Ze 36 rfl (Zg [] KQ rfl ⟨Zh (Za rfl),asE,trivial⟩ sbH rfl)|exact Ze 38 rfl (Zg [] K3 rfl ⟨Zh (Za rfl),asE,trivial⟩ sbH rfl)|exact Ze 49 rfl (Zg [] K4 rfl ⟨Zh (Za rfl),asE,trivial⟩ sbH rfl)|exact Ze 57 rfl (Zg [] K4 rfl ⟨Zh (Za rfl),asE,trivial⟩ sbH rfl)|exact Ze 41 rfl (Zg [] K4 rfl ⟨Zh (Za rfl),asE,trivial⟩ sbH rfl)|exact Ze 28 rfl (Zl [.tmp 27,.const (.int .i64 8),.const (.int .i64 20)] tlOk rfl rfl rfl rfl rfl rfl (Zak [IntKind.i64.wrap (1 + v1),8,20]) (by simp))|exact Ze 47 rfl (Zl [.const (.int .i64 0),.const (.int .i64 7)] tlOk rfl rfl rfl rfl rfl rfl (Zak [0,7]) (by decide))|exact Ze 55 rfl (Zl [.const (.int .i64 (-1)),.const (.int .i64 16)] tlOk rfl rfl rfl rfl rfl rfl (Zak [-1,16]) (by decide))|exact Ze 39 rfl (Zl [.const (.int .i64 (-1)),.const (.int .i64 21)] tlOk rfl rfl rfl rfl rfl rfl (Zak [-1,21]) (by decide)));(case xb|xc|xe=>rfl);try refine wkD ?_)|(refine wkB ?_ ?_<;>intro hg_<;>try exact wkX)|fail)
    all_goals first
     | (exfalso; omega)
     | exact Z4 [] rfl sbH (Za3 rfl rfl tyF0 rfl rfl rfl (Zac (by simp only [Nat.zero_add,hw0];rfl)))
 ·have KQ:=KO (p + 1) oM oM
  have K3:=KP (p + 1 + oD n) oM oM 3
  have h3:=Zaz bs (p + 1 + oD n) 3
  have K4:=KP (p + 1 + oD n + 1) oM oM 2
  have h4:=Zaz bs (p + 1 + oD n + 1) 2
  clear KP KO
  generalize oV bs (p + 1) n = od at *
  generalize pickV bs (p + 1 + oD n) 3 = v3 at *
  generalize pickV bs (p + 1 + oD n + 1) 2 = v4 at *
  cases od with
  | false =>
   refine ⟨1 + v0,0,0,p + 1 + oD n,⟨by omega,by omega⟩,fun m1 m2 nb=>?_⟩
   have K0:=K0 m1 m2 nb
   have KQ:=KQ m1 nb
   have K3:=K3 m1 nb
   have K4:=K4 m1 nb
   unfold rdH at *
   refine Zad (l:=[.cell 6 59]) Try.func69 kRf rfl Try.ntmps69 rfl rfl ?_; simp only [dEnv,Nat.reduceAdd]
   repeat' (first|refine wk ?_|((first|refine' w_q rfl rfl ?xa rfl ?_|refine' v_q rfl rfl ?xa rfl ?_|refine' Zn rfl rfl (Zb rfl) rfl ?xa rfl ?_|refine' Zo rfl rfl (Zb rfl) rfl ?xa rfl ?_);case xa=>first|exact Zap tbOk rfl rfl rfl rfl oM (by simp only [List.length_cons,List.length_nil];omega)|exact Zae (xs:=[IntKind.i64.wrap (1 + v1),8,20]) tbOk rfl rfl rfl rfl (by simp only [List.length_cons,List.length_nil];omega)|exact Zae (xs:=[0,7]) tbOk rfl rfl rfl rfl (by simp only [List.length_cons,List.length_nil];omega)|exact Zae (xs:=[-1,16]) tbOk rfl rfl rfl rfl (by simp only [List.length_cons,List.length_nil];omega)|exact Zae (xs:=[-1,21]) tbOk rfl rfl rfl rfl (by simp only [List.length_cons,List.length_nil];omega))|((first|refine' w_e rfl ?xa ?xb ?xc ?xe ?_|refine' v_e rfl ?xa ?xb ?xc ?xe ?_);(case xa=>first|exact Ze 9 rfl (Zg [] K0 rfl ⟨Zh (Za rfl),asE,trivial⟩ sbH rfl)|exact Ze 20 rfl (Zg [] K1 rfl ⟨Zh (Za rfl),asE,trivial⟩ sbH rfl)|exact Ze 26 rfl (Zg [] K1 rfl ⟨Zh (Za rfl),asE,trivial⟩ sbH rfl)|exact Ze 30 rfl (Zg [] K2 rfl ⟨Zh (Za rfl),asE,trivial⟩ sbH rfl)|exact Ze 36 rfl (Zg [] KQ rfl ⟨Zh (Za rfl),asE,trivial⟩ sbH rfl)|exact Ze 38 rfl (Zg [] K3 rfl ⟨Zh (Za rfl),asE,trivial⟩ sbH rfl)|exact Ze 49 rfl (Zg [] K4 rfl ⟨Zh (Za rfl),asE,trivial⟩ sbH rfl)|exact Ze 57 rfl (Zg [] K4 rfl ⟨Zh (Za rfl),asE,trivial⟩ sbH rfl)|exact Ze 41 rfl (Zg [] K4 rfl ⟨Zh (Za rfl),asE,trivial⟩ sbH rfl)|exact Ze 28 rfl (Zl [.tmp 27,.const (.int .i64 8),.const (.int .i64 20)] tlOk rfl rfl rfl rfl rfl rfl (Zak [IntKind.i64.wrap (1 + v1),8,20]) (by simp))|exact Ze 47 rfl (Zl [.const (.int .i64 0),.const (.int .i64 7)] tlOk rfl rfl rfl rfl rfl rfl (Zak [0,7]) (by decide))|exact Ze 55 rfl (Zl [.const (.int .i64 (-1)),.const (.int .i64 16)] tlOk rfl rfl rfl rfl rfl rfl (Zak [-1,16]) (by decide))|exact Ze 39 rfl (Zl [.const (.int .i64 (-1)),.const (.int .i64 21)] tlOk rfl rfl rfl rfl rfl rfl (Zak [-1,21]) (by decide)));(case xb|xc|xe=>rfl);try refine wkD ?_)|(refine wkB ?_ ?_<;>intro hg_<;>try exact wkX)|fail)
   all_goals first
    | (exfalso; omega)
    | exact Z4 [] rfl sbH (Za3 rfl rfl tyF0 rfl rfl rfl (Zac (by simp only [Nat.zero_add,hw0];rfl)))
  | true =>
   have h3' : v3 = 0 ∨ v3 = 1 ∨ v3 = 2:=by omega
   rcases h3' with rfl | rfl | rfl
   ·refine ⟨dV [0,7] v4,0,0,p + 1 + oD n + 1 + 1,⟨by omega,by omega⟩,fun m1 m2 nb=>?_⟩
    have K0:=K0 m1 m2 nb
    have KQ:=KQ m1 nb
    have K3:=K3 m1 nb
    have K4:=K4 m1 nb
    unfold rdH at *
    refine Zad (l:=[.cell 6 59]) Try.func69 kRf rfl Try.ntmps69 rfl rfl ?_; simp only [dEnv,Nat.reduceAdd]
    repeat' (first|refine wk ?_|((first|refine' w_q rfl rfl ?xa rfl ?_|refine' v_q rfl rfl ?xa rfl ?_|refine' Zn rfl rfl (Zb rfl) rfl ?xa rfl ?_|refine' Zo rfl rfl (Zb rfl) rfl ?xa rfl ?_);case xa=>first|exact Zap tbOk rfl rfl rfl rfl oM (by simp only [List.length_cons,List.length_nil];omega)|exact Zae (xs:=[IntKind.i64.wrap (1 + v1),8,20]) tbOk rfl rfl rfl rfl (by simp only [List.length_cons,List.length_nil];omega)|exact Zae (xs:=[0,7]) tbOk rfl rfl rfl rfl (by simp only [List.length_cons,List.length_nil];omega)|exact Zae (xs:=[-1,16]) tbOk rfl rfl rfl rfl (by simp only [List.length_cons,List.length_nil];omega)|exact Zae (xs:=[-1,21]) tbOk rfl rfl rfl rfl (by simp only [List.length_cons,List.length_nil];omega))|((first|refine' w_e rfl ?xa ?xb ?xc ?xe ?_|refine' v_e rfl ?xa ?xb ?xc ?xe ?_);(case xa=>first|exact Ze 9 rfl (Zg [] K0 rfl ⟨Zh (Za rfl),asE,trivial⟩ sbH rfl)|exact Ze 20 rfl (Zg [] K1 rfl ⟨Zh (Za rfl),asE,trivial⟩ sbH rfl)|exact Ze 26 rfl (Zg [] K1 rfl ⟨Zh (Za rfl),asE,trivial⟩ sbH rfl)|exact Ze 30 rfl (Zg [] K2 rfl ⟨Zh (Za rfl),asE,trivial⟩ sbH rfl)|exact Ze 36 rfl (Zg [] KQ rfl ⟨Zh (Za rfl),asE,trivial⟩ sbH rfl)|exact Ze 38 rfl (Zg [] K3 rfl ⟨Zh (Za rfl),asE,trivial⟩ sbH rfl)|exact Ze 49 rfl (Zg [] K4 rfl ⟨Zh (Za rfl),asE,trivial⟩ sbH rfl)|exact Ze 57 rfl (Zg [] K4 rfl ⟨Zh (Za rfl),asE,trivial⟩ sbH rfl)|exact Ze 41 rfl (Zg [] K4 rfl ⟨Zh (Za rfl),asE,trivial⟩ sbH rfl)|exact Ze 28 rfl (Zl [.tmp 27,.const (.int .i64 8),.const (.int .i64 20)] tlOk rfl rfl rfl rfl rfl rfl (Zak [IntKind.i64.wrap (1 + v1),8,20]) (by simp))|exact Ze 47 rfl (Zl [.const (.int .i64 0),.const (.int .i64 7)] tlOk rfl rfl rfl rfl rfl rfl (Zak [0,7]) (by decide))|exact Ze 55 rfl (Zl [.const (.int .i64 (-1)),.const (.int .i64 16)] tlOk rfl rfl rfl rfl rfl rfl (Zak [-1,16]) (by decide))|exact Ze 39 rfl (Zl [.const (.int .i64 (-1)),.const (.int .i64 21)] tlOk rfl rfl rfl rfl rfl rfl (Zak [-1,21]) (by decide)));(case xb|xc|xe=>rfl);try refine wkD ?_)|(refine wkB ?_ ?_<;>intro hg_<;>try exact wkX)|fail)
    all_goals first
     | (exfalso; omega)
     | exact Z4 [] rfl sbH (Za3 rfl rfl tyF0 rfl rfl rfl (Zac (by simp only [Nat.zero_add,hw0];rfl)))
   ·refine ⟨1 + v0,dV [-1,16] v4,0,p + 1 + oD n + 1 + 1,⟨by omega,by omega⟩,fun m1 m2 nb=>?_⟩
    have K0:=K0 m1 m2 nb
    have KQ:=KQ m1 nb
    have K3:=K3 m1 nb
    have K4:=K4 m1 nb
    unfold rdH at *
    refine Zad (l:=[.cell 6 59]) Try.func69 kRf rfl Try.ntmps69 rfl rfl ?_; simp only [dEnv,Nat.reduceAdd]
    repeat' (first|refine wk ?_|((first|refine' w_q rfl rfl ?xa rfl ?_|refine' v_q rfl rfl ?xa rfl ?_|refine' Zn rfl rfl (Zb rfl) rfl ?xa rfl ?_|refine' Zo rfl rfl (Zb rfl) rfl ?xa rfl ?_);case xa=>first|exact Zap tbOk rfl rfl rfl rfl oM (by simp only [List.length_cons,List.length_nil];omega)|exact Zae (xs:=[IntKind.i64.wrap (1 + v1),8,20]) tbOk rfl rfl rfl rfl (by simp only [List.length_cons,List.length_nil];omega)|exact Zae (xs:=[0,7]) tbOk rfl rfl rfl rfl (by simp only [List.length_cons,List.length_nil];omega)|exact Zae (xs:=[-1,16]) tbOk rfl rfl rfl rfl (by simp only [List.length_cons,List.length_nil];omega)|exact Zae (xs:=[-1,21]) tbOk rfl rfl rfl rfl (by simp only [List.length_cons,List.length_nil];omega))|((first|refine' w_e rfl ?xa ?xb ?xc ?xe ?_|refine' v_e rfl ?xa ?xb ?xc ?xe ?_);(case xa=>first|exact Ze 9 rfl (Zg [] K0 rfl ⟨Zh (Za rfl),asE,trivial⟩ sbH rfl)|exact Ze 20 rfl (Zg [] K1 rfl ⟨Zh (Za rfl),asE,trivial⟩ sbH rfl)|exact Ze 26 rfl (Zg [] K1 rfl ⟨Zh (Za rfl),asE,trivial⟩ sbH rfl)|exact Ze 30 rfl (Zg [] K2 rfl ⟨Zh (Za rfl),asE,trivial⟩ sbH rfl)|exact Ze 36 rfl (Zg [] KQ rfl ⟨Zh (Za rfl),asE,trivial⟩ sbH rfl)|exact Ze 38 rfl (Zg [] K3 rfl ⟨Zh (Za rfl),asE,trivial⟩ sbH rfl)|exact Ze 49 rfl (Zg [] K4 rfl ⟨Zh (Za rfl),asE,trivial⟩ sbH rfl)|exact Ze 57 rfl (Zg [] K4 rfl ⟨Zh (Za rfl),asE,trivial⟩ sbH rfl)|exact Ze 41 rfl (Zg [] K4 rfl ⟨Zh (Za rfl),asE,trivial⟩ sbH rfl)|exact Ze 28 rfl (Zl [.tmp 27,.const (.int .i64 8),.const (.int .i64 20)] tlOk rfl rfl rfl rfl rfl rfl (Zak [IntKind.i64.wrap (1 + v1),8,20]) (by simp))|exact Ze 47 rfl (Zl [.const (.int .i64 0),.const (.int .i64 7)] tlOk rfl rfl rfl rfl rfl rfl (Zak [0,7]) (by decide))|exact Ze 55 rfl (Zl [.const (.int .i64 (-1)),.const (.int .i64 16)] tlOk rfl rfl rfl rfl rfl rfl (Zak [-1,16]) (by decide))|exact Ze 39 rfl (Zl [.const (.int .i64 (-1)),.const (.int .i64 21)] tlOk rfl rfl rfl rfl rfl rfl (Zak [-1,21]) (by decide)));(case xb|xc|xe=>rfl);try refine wkD ?_)|(refine wkB ?_ ?_<;>intro hg_<;>try exact wkX)|fail)
    all_goals first
     | (exfalso; omega)
     | exact Z4 [] rfl sbH (Za3 rfl rfl tyF0 rfl rfl rfl (Zac (by simp only [Nat.zero_add,hw0];rfl)))
   ·refine ⟨1 + v0,0,dV [-1,21] v4,p + 1 + oD n + 1 + 1,⟨by omega,by omega⟩,fun m1 m2 nb=>?_⟩
    have K0:=K0 m1 m2 nb
    have KQ:=KQ m1 nb
    have K3:=K3 m1 nb
    have K4:=K4 m1 nb
    unfold rdH at *
    refine Zad (l:=[.cell 6 59]) Try.func69 kRf rfl Try.ntmps69 rfl rfl ?_; simp only [dEnv,Nat.reduceAdd]
    repeat' (first|refine wk ?_|((first|refine' w_q rfl rfl ?xa rfl ?_|refine' v_q rfl rfl ?xa rfl ?_|refine' Zn rfl rfl (Zb rfl) rfl ?xa rfl ?_|refine' Zo rfl rfl (Zb rfl) rfl ?xa rfl ?_);case xa=>first|exact Zap tbOk rfl rfl rfl rfl oM (by simp only [List.length_cons,List.length_nil];omega)|exact Zae (xs:=[IntKind.i64.wrap (1 + v1),8,20]) tbOk rfl rfl rfl rfl (by simp only [List.length_cons,List.length_nil];omega)|exact Zae (xs:=[0,7]) tbOk rfl rfl rfl rfl (by simp only [List.length_cons,List.length_nil];omega)|exact Zae (xs:=[-1,16]) tbOk rfl rfl rfl rfl (by simp only [List.length_cons,List.length_nil];omega)|exact Zae (xs:=[-1,21]) tbOk rfl rfl rfl rfl (by simp only [List.length_cons,List.length_nil];omega))|((first|refine' w_e rfl ?xa ?xb ?xc ?xe ?_|refine' v_e rfl ?xa ?xb ?xc ?xe ?_);(case xa=>first|exact Ze 9 rfl (Zg [] K0 rfl ⟨Zh (Za rfl),asE,trivial⟩ sbH rfl)|exact Ze 20 rfl (Zg [] K1 rfl ⟨Zh (Za rfl),asE,trivial⟩ sbH rfl)|exact Ze 26 rfl (Zg [] K1 rfl ⟨Zh (Za rfl),asE,trivial⟩ sbH rfl)|exact Ze 30 rfl (Zg [] K2 rfl ⟨Zh (Za rfl),asE,trivial⟩ sbH rfl)|exact Ze 36 rfl (Zg [] KQ rfl ⟨Zh (Za rfl),asE,trivial⟩ sbH rfl)|exact Ze 38 rfl (Zg [] K3 rfl ⟨Zh (Za rfl),asE,trivial⟩ sbH rfl)|exact Ze 49 rfl (Zg [] K4 rfl ⟨Zh (Za rfl),asE,trivial⟩ sbH rfl)|exact Ze 57 rfl (Zg [] K4 rfl ⟨Zh (Za rfl),asE,trivial⟩ sbH rfl)|exact Ze 41 rfl (Zg [] K4 rfl ⟨Zh (Za rfl),asE,trivial⟩ sbH rfl)|exact Ze 28 rfl (Zl [.tmp 27,.const (.int .i64 8),.const (.int .i64 20)] tlOk rfl rfl rfl rfl rfl rfl (Zak [IntKind.i64.wrap (1 + v1),8,20]) (by simp))|exact Ze 47 rfl (Zl [.const (.int .i64 0),.const (.int .i64 7)] tlOk rfl rfl rfl rfl rfl rfl (Zak [0,7]) (by decide))|exact Ze 55 rfl (Zl [.const (.int .i64 (-1)),.const (.int .i64 16)] tlOk rfl rfl rfl rfl rfl rfl (Zak [-1,16]) (by decide))|exact Ze 39 rfl (Zl [.const (.int .i64 (-1)),.const (.int .i64 21)] tlOk rfl rfl rfl rfl rfl rfl (Zak [-1,21]) (by decide)));(case xb|xc|xe=>rfl);try refine wkD ?_)|(refine wkB ?_ ?_<;>intro hg_<;>try exact wkX)|fail)
    all_goals first
     | (exfalso; omega)
     | exact Z4 [] rfl sbH (Za3 rfl rfl tyF0 rfl rfl rfl (Zac (by simp only [Nat.zero_add,hw0];rfl)))
end Go.Proofs.Ytmkijbfiilpccaa.Abs
