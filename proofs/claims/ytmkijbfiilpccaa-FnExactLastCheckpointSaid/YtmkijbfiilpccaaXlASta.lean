/- Valid states by states: both texts. No statement of the seat is proved here. -/
import Derived.Lib.Hide
import Derived.Test.YtmkijbfiilpccaaXlTy
import Derived.Test.YtmkijbfiilpccaaXlAbsX
import Derived.Test.YtmkijbfiilpccaaXlAGraph
import Derived.Test.YtmkijbfiilpccaaXlGStaCk
import Derived.Test.YtmkijbfiilpccaaXlACallV
set_option linter.unusedSimpArgs false
set_option linter.unusedVariables false
set_option maxRecDepth 100000
set_option maxHeartbeats 8000000
namespace Go.Proofs.Ytmkijbfiilpccaa.Abs
open Go.RowKit
open R (val row ref)
theorem allN_3 {sz : Nat} {a b c : P0} (h1 : a.n = sz) (h2 : b.n = sz) (h3 : c.n = sz) : AllN sz [a,b,c]:=fun i x hx=>by
 match i with
 | 0=>simp at hx; subst hx; exact h1
 | 1=>simp at hx; subst hx; exact h2
 | 2=>simp at hx; subst hx; exact h3
 | n + 3=>simp at hx
theorem asA_own0M {H : Nat → Option Ob} {k n sz : Nat} {E : TypeId} {els : List P0} {new : Bool} {ev : Operand → D} {x : Operand} (h : ev x = .one (.own k 0 n sz)) (hk : H k = some (.sl E sz new els)) (hn : n = els.length) : AsArg H (ev x) (.one (row false sz els)):=by
 have h2:=asA_own h hk oM
 rwa [List.drop_zero,List.take_of_length_le oM] at h2
theorem f_isNaN (a : Int) : Fn Try.prog 102 [iP a] (.v (.one (bool false))):=by
 refine Zy (l:=[.tmp 2]) Try.func102 kRf rfl Try.ntmps102 rfl rfl ?_; simp only [argEnv,P0.d,Nat.reduceAdd]
 repeat' (first|refine wk ?_|(refine wkB ?_ ?_<;>intro hg_<;>try exact wkX)|fail)
 all_goals exact Zt rfl (Zo (by simp))
theorem f_compareI (a b : Int) : Fn Try.prog 96 [iP a,iP b] (.v (iP (cmpI a b))):=by
 have K:=fun a=>f_isNaN a
 refine Zy (l:=[.tmp 4]) Try.func96 kRf rfl Try.ntmps96 rfl rfl ?_; simp only [argEnv,P0.d,Nat.reduceAdd]
 repeat' (first|refine wk ?_|((first|refine' w_q rfl rfl ?xa rfl ?_|refine' v_q rfl rfl ?xa rfl ?_|refine' Zh rfl rfl (Zb rfl) rfl ?xa rfl ?_|refine' Zi rfl rfl (Zb rfl) rfl ?xa rfl ?_);case xa=>exact Ze (K _) rfl ⟨Zd (Za rfl),trivial⟩)|(refine wkB ?_ ?_<;>intro hg_<;>try exact wkX)|fail)
 all_goals first
  | (exfalso; simp_all; done)
  | exact Zt rfl (Z4 (by unfold cmpI; simp_all; done))
  | exact Zt rfl (Z4 (by unfold cmpI; split<;>(try split)<;>simp_all<;>omega))
theorem f_orI (nil : Bool) (xs : List Int) (hl : xs.length ≤ 1000) : Fn Try.prog 95 [.one (row nil 1 (ints xs))] (.v (iP (orI xs))):=by
 have hlen:=Zp xs
 refine Zy (l:=[.tmp 2]) Try.func95 kRf rfl Try.ntmps95 rfl rfl ?_; simp only [argEnv,P0.d,Nat.reduceAdd]
 repeat' (first|refine wk ?_|(refine wkB ?_ ?_<;>intro hg_<;>try exact wkX)|fail)
 refine Z7 (fun k : Nat=>k ≤ xs.length ∧ orI xs = orI (xs.drop k)) (fun k=>mkS 18 [(8,.one (.r true (int (k : Int)))),(7,.one (.r true (int (xs.length : Int)))),(6,.one (.r false (row nil 1 (ints xs)))),(3,.one (.r true (int 0)))] []) (fun k=>xs.length - k) 0 ⟨Nat.zero_le _,rfl⟩ (by (refine Zg [] rfl ?_ ?_<;>repeat' (first|refine wkS ?_ ?_|exact wkE|exact Zq (by rw [hlen])))) ?_
 rintro k ⟨hk,HP⟩
 repeat' (first|refine wk ?_|((first|refine' w_q rfl rfl ?xa rfl ?_|refine' v_q rfl rfl ?xa rfl ?_|refine' Zh rfl rfl (Zb rfl) rfl ?xa rfl ?_|refine' Zi rfl rfl (Zb rfl) rfl ?xa rfl ?_);case xa=>exact Zn tbOk rfl rfl rfl rfl oM (ints_at oM))|(refine wkB ?_ ?_<;>intro hg_<;>try exact wkX)|fail)
 ·exact Zt rfl (Z4 (by rw [HP,List.drop_eq_getElem_cons oM,orI]; simp_all))
 ·exact ⟨k + 1,⟨by omega,by rw [HP,List.drop_eq_getElem_cons oM,orI];simp_all⟩,by (refine Zg [] rfl ?_ ?_ <;>exact wkW),by omega⟩
 ·exact Zt rfl (Z4 (by rw [HP,List.drop_eq_nil_of_le oM,orI]))
theorem f_compareMessages (a b : E3) : Fn Try.prog 80 [edgeP a,edgeP b] (.v (iP (cmpM a b))):=by
 obtain ⟨a1,a2,a3⟩:=a
 obtain ⟨b1,b2,b3⟩:=b
 have K1:=f_compareI a1 b1
 have K2:=f_compareI a2 b2
 have K3:=f_compareI a3 b3
 have KO : Fn Try.prog 95 [P0.one (row false 1 [P0.one (int (cmpI a1 b1)),P0.one (int (cmpI a2 b2)),P0.one (int (cmpI a3 b3))])] (.v (iP (orI [cmpI a1 b1,cmpI a2 b2,cmpI a3 b3]))):=f_orI false [cmpI a1 b1,cmpI a2 b2,cmpI a3 b3] (by simp)
 have e : cmpM (a1,a2,a3) (b1,b2,b3) = orI [cmpI a1 b1,cmpI a2 b2,cmpI a3 b3]:=rfl
 rw [e]
 clear e
 generalize orI [cmpI a1 b1,cmpI a2 b2,cmpI a3 b3] = q at *
 generalize cmpI a1 b1 = x1 at *
 generalize cmpI a2 b2 = x2 at *
 generalize cmpI a3 b3 = x3 at *
 refine Zy (l:=[.tmp 4]) Try.func80 kRf rfl Try.ntmps80 rfl rfl ?_; simp only [argEnv,P0.d,Nat.reduceAdd,edgeP,List.map_cons,List.map_nil]
 repeat' (first|refine wk ?_|((first|refine' w_q rfl rfl ?xa rfl ?_|refine' v_q rfl rfl ?xa rfl ?_|refine' Zh rfl rfl (Zb rfl) rfl ?xa rfl ?_|refine' Zi rfl rfl (Zb rfl) rfl ?xa rfl ?_);case xa=>first|exact Ze K1 rfl ⟨Zd (Za rfl),Zd (Za rfl),trivial⟩|exact Ze K2 rfl ⟨Zd (Za rfl),Zd (Za rfl),trivial⟩|exact Ze K3 rfl ⟨Zd (Za rfl),Zd (Za rfl),trivial⟩|exact Ze KO rfl ⟨asA_own0M (Za rfl) (Zf rfl) rfl,trivial⟩)|((first|refine' w_e rfl ?xa ?xb ?xc ?xe ?_|refine' v_e rfl ?xa ?xb ?xc ?xe ?_);(case xa=>exact Z0 [.tmp 9,.tmp 14,.tmp 19] tlOk rfl rfl rfl rfl rfl rfl (allN_3 rfl rfl rfl) (by simp));(case xb|xc|xe=>rfl);try refine wkD ?_)|(refine wkB ?_ ?_<;>intro hg_<;>try exact wkX)|fail)
 all_goals first
  | exact Zt rfl (Z4 rfl)
theorem f_l9Before (a b : E3) : Fn Try.prog 51 [edgeP a,edgeP b] (.v (.one (bool (bef a b)))):=by
 refine Zy (l:=[.tmp 4]) Try.func51 kRf rfl Try.ntmps51 rfl rfl ?_; simp only [argEnv,P0.d,Nat.reduceAdd,edgeP,List.map_cons,List.map_nil]
 repeat' (first|refine wk ?_|(refine wkB ?_ ?_<;>intro hg_<;>try exact wkX)|fail)
 all_goals exact Zt rfl (Zo (by unfold bef;(first|(simp_all;done)|(rw [Bool.eq_iff_iff];simp_all;done)|(rw [Bool.eq_iff_iff];simp_all;omega)|(rw [Bool.eq_iff_iff];simp;omega))))
theorem f_l11Message (m : E3) (many : Int) : Fn Try.prog 50 [edgeP m,iP many] (.v (.one (bool (msgIn (IntKind.i64.wrap (many - 1)) m)))):=by
 refine Zy (l:=[.tmp 4]) Try.func50 kRf rfl Try.ntmps50 rfl rfl ?_; simp only [argEnv,P0.d,Nat.reduceAdd,edgeP,List.map_cons,List.map_nil]
 repeat' (first|refine wk ?_|((first|refine' w_q rfl rfl ?xa rfl ?_|refine' v_q rfl rfl ?xa rfl ?_|refine' Zh rfl rfl (Zb rfl) rfl ?xa rfl ?_|refine' Zi rfl rfl (Zb rfl) rfl ?xa rfl ?_);case xa=>exact Ze (f_l1In _ _ _) rfl ⟨Zd (Za rfl),Zd (Za rfl),Zd (Za rfl),trivial⟩)|(refine wkB ?_ ?_<;>intro hg_<;>try exact wkX)|fail)
 all_goals exact Zt rfl (Zo (by unfold msgIn; simp_all))
theorem f_valueFits (v : Int) : Fn Try.prog 78 [iP v] (.v (.one (bool (valIn v)))):=by
 refine Zy (l:=[.tmp 2]) Try.func78 kRf rfl Try.ntmps78 rfl rfl ?_; simp only [argEnv,P0.d,Nat.reduceAdd]
 repeat' (first|refine wk ?_|(refine wkB ?_ ?_<;>intro hg_<;>try exact wkX)|fail)
 all_goals exact Zt rfl (Zo (by unfold valIn inR; rw [Bool.eq_iff_iff]; simp_all; try omega))
theorem f_roundFits (v : Int) : Fn Try.prog 56 [iP v] (.v (.one (bool (inR 0 100 v)))):=by
 refine Zy (l:=[.tmp 2]) Try.func56 kRf rfl Try.ntmps56 rfl rfl ?_; simp only [argEnv,P0.d,Nat.reduceAdd]
 repeat' (first|refine wk ?_|(refine wkB ?_ ?_<;>intro hg_<;>try exact wkX)|fail)
 all_goals exact Zt rfl (Zo (by unfold inR; rw [Bool.eq_iff_iff]; simp_all; try omega))
def msgFit (many : Int) (m : E3) : Bool:=decide (0 ≤ m.1 ∧ m.1 < many ∧ 0 ≤ m.2.2 ∧ m.2.2 < many ∧ 0 ≤ m.2.1 ∧ m.2.1 < 1000000)
theorem msgFit_in (many : Int) (m : E3) : msgFit many m = msgIn (many - 1) m:=by
 unfold msgFit msgIn inR
 rw [Bool.eq_iff_iff]; simp only [Bool.and_eq_true,decide_eq_true_eq]; omega
theorem f_messageFits (m : E3) (many : Int) : Fn Try.prog 81 [edgeP m,iP many] (.v (.one (bool (msgFit many m)))):=by
 refine Zy (l:=[.tmp 4]) Try.func81 kRf rfl Try.ntmps81 rfl rfl ?_; simp only [argEnv,P0.d,Nat.reduceAdd,edgeP,List.map_cons,List.map_nil]
 repeat' (first|refine wk ?_|(refine wkB ?_ ?_<;>intro hg_<;>try exact wkX)|fail)
 all_goals exact Zt rfl (Zo (by unfold msgFit; rw [Bool.eq_iff_iff]; simp_all<;>omega))
theorem f_valuesFit (nil : Bool) (xs : List Int) (hl : xs.length ≤ maxLen) : Fn Try.prog 57 [.one (row nil 1 (ints xs))] (.v (.one (bool (xs.all valIn)))):=by
 have hlen:=Zp xs
 have hml : xs.length ≤ 9223372036854775807:=hl
 have K:=fun v=>f_valueFits v
 refine Zy (l:=[.tmp 2]) Try.func57 kRf rfl Try.ntmps57 rfl rfl ?_; simp only [argEnv,P0.d,Nat.reduceAdd]
 repeat' (first|refine wk ?_|(refine wkB ?_ ?_<;>intro hg_<;>try exact wkX)|fail)
 refine Z7 (fun k : Nat=>k ≤ xs.length ∧ xs.all valIn = (xs.drop k).all valIn) (fun k=>mkS 15 [(7,.one (.r true (int (k : Int)))),(6,.one (.r true (int (xs.length : Int)))),(5,.one (.r false (row nil 1 (ints xs))))] []) (fun k=>xs.length - k) 0 ⟨Nat.zero_le _,rfl⟩ (by (refine Zg [] rfl ?_ ?_<;>repeat' (first|refine wkS ?_ ?_|exact wkE|exact Zq (by rw [hlen])))) ?_
 rintro k ⟨hk,HP⟩
 repeat' (first|refine wk ?_|((first|refine' w_q rfl rfl ?xa rfl ?_|refine' v_q rfl rfl ?xa rfl ?_|refine' Zh rfl rfl (Zb rfl) rfl ?xa rfl ?_|refine' Zi rfl rfl (Zb rfl) rfl ?xa rfl ?_);case xa=>first|exact Zn tbOk rfl rfl rfl rfl oM (ints_at oM)|exact Ze (K _) rfl ⟨Zd (Za rfl),trivial⟩)|(refine wkB ?_ ?_<;>intro hg_<;>try exact wkX)|fail)
 all_goals first
  | exact Zt rfl (Zo (by rw [HP,all_step oM]; simp_all; done))
  | exact ⟨k + 1,⟨by omega,by rw [HP,all_step oM];simp_all⟩,by (refine Zg [] rfl ?_ ?_ <;>exact wkW),by omega⟩
  | exact Zt rfl (Zo (by rw [HP,List.drop_eq_nil_of_le oM]; rfl))
theorem f_isSorted (nil : Bool) (ms : List E3) (hl : ms.length ≤ maxLen) : Fn Try.prog 79 [.one (row nil 3 (edges ms)), .one (R.val (Value.func (.func 80) #[] #[]))] (.v (.one (bool (srt ms)))) := by
  have hlen := Zv ms
  have hml : ms.length ≤ 9223372036854775807 := hl
  have KC := fun a b => f_compareMessages a b
  refine Zy (l := [.tmp 4]) Try.func79 kRf rfl Try.ntmps79 rfl rfl ?_; simp only [argEnv, P0.d, Nat.reduceAdd]
  repeat' (first|refine wk ?_|(refine wkB ?_ ?_<;>intro hg_<;>try exact wkX)|fail)
  obtain ⟨F, hF⟩ : ∃ F : Nat → St, ∀ k, F k = mkS 25 [(5, .one (.r true (int (((ms.length - k : Nat) : Int) - 1)))), (1, .one (.r false (R.val (Value.func (.func 80) #[] #[])))), (0, .one (.r false (row nil 3 (edges ms))))] [] := ⟨_, fun _ => rfl⟩
  refine Z7 (fun k : Nat => (k ≤ ms.length) ∧ ∀ j (h : j + 1 < ms.length), ms.length - k ≤ j + 1 → bef ms[j + 1] ms[j] = false) F (fun k => ms.length - k) 0 ⟨Nat.zero_le _, fun j h h2 => by omega⟩ (by rw [hF];(refine Zg [] rfl ?_ ?_ <;> repeat' (first|refine wkS ?_ ?_|exact wkE|exact Zq (by rw [hlen, IntWalk.i64_in _ oM];omega)))) ?_
  rintro k ⟨hk, HP⟩
  rw [hF]
  by_cases hlt : k + 1 < ms.length
  · obtain ⟨i, hi⟩ : ∃ i : Nat, i + 1 + k + 1 = ms.length := ⟨ms.length - k - 2, by omega⟩
    have e1 : ((ms.length - k : Nat) : Int) - 1 = ((i + 1 : Nat) : Int) := by omega
    have e2 : IntKind.i64.wrap (((i + 1 : Nat) : Int) - 1) = (i : Int) := by rw [IntWalk.i64_in _ oM]; omega
    rw [e1]
    have KCh := KC ms[i + 1] ms[i]
    have hneg := cmpM_neg ms[i + 1] ms[i]
    have hat1 := edges_at (es := ms) (k := i + 1) oM
    have hat0 := edges_at (es := ms) (k := i) oM
    have hfin : ∀ s' : St, Weak s' (F (k + 1)) → bef ms[i + 1] ms[i] = false → ∃ x' : Nat, (x' ≤ ms.length ∧ ∀ j (h : j + 1 < ms.length), ms.length - x' ≤ j + 1 → bef ms[j + 1] ms[j] = false) ∧ Weak s' (F x') ∧ ms.length - x' < ms.length - k := fun s' hs hb => ⟨k + 1, ⟨by omega, fun j h h2 => by
      by_cases hj : j = i
      · subst hj; exact hb
      · exact HP j h oM⟩, hs, by omega⟩
    have hno : bef ms[i + 1] ms[i] = true → srt ms = false := fun hb => by
      rw [Bool.eq_false_iff]
      intro hs
      have := (srt_iff ms).1 hs i oM
      rw [hb] at this; cases this
    rw [← e2] at hat0
    have h0 : (0 : Int) ≤ IntKind.i64.wrap (((i + 1 : Nat) : Int) - 1) := by rw [e2]; omega
    have e3 : IntKind.i64.wrap (((i + 1 : Nat) : Int) - 1) = ((ms.length - (k + 1) : Nat) : Int) - 1 := by rw [e2]; omega
    rw [hF] at hfin
    clear hF HP KC
    generalize bef ms[i + 1] ms[i] = bb at *
    generalize ms[i + 1] = p at *
    generalize ms[i] = q at *
    obtain ⟨p1, p2, p3⟩ := p
    obtain ⟨q1, q2, q3⟩ := q
    generalize cmpM (p1, p2, p3) (q1, q2, q3) = c at *
    repeat' (first|refine wk ?_|((first|refine' w_q rfl rfl ?xa rfl ?_|refine' v_q rfl rfl ?xa rfl ?_|refine' Zh rfl rfl (Zb rfl) rfl ?xa rfl ?_|refine' Zi rfl rfl (Zb rfl) rfl ?xa rfl ?_);case xa => first|exact Zn tbOk rfl rfl rfl rfl (by first|exact h0|omega) (by first|exact hat0|exact hat1)|exact k_callV KCh rfl rfl ⟨Zw (Za rfl) ⟨Zk, Zk, Zk, trivial⟩, Zw (Za rfl) ⟨Zk, Zk, Zk, trivial⟩, trivial⟩)|(refine wkB ?_ ?_<;>intro hg_<;>try exact wkX)|fail)
    all_goals first
      | exact Zt rfl (Zo (hno (by rw [← hneg]; simp; omega)).symm)
      | (refine hfin _ ?_ (by rw [← hneg]; simp; omega)
         (refine Zg [] rfl ?_ ?_ <;> repeat' (first|refine wkS ?_ ?_|exact wkE|exact Zq e3)))
      | (exfalso; omega)
  · have hs : srt ms = true := (srt_iff ms).2 fun j h => HP j h oM
    have e1 : ¬ (((ms.length - k : Nat) : Int) - 1 > 0) := by omega
    rw [hs]
    clear hF HP
    generalize ((ms.length - k : Nat) : Int) - 1 = z at *
    repeat' (first|refine wk ?_|(refine wkB ?_ ?_<;>intro hg_<;>try exact wkX)|fail)
    all_goals first
      | (exfalso; omega)
      | exact Zt rfl (Zo rfl)
def fitsIn (many : Int) (ms : List E3) : Bool:=decide (ms.length ≤ 2000) && srt ms && ms.all (msgFit many)
theorem fitsIn_eq (many : Int) (ms : List E3) : fitsIn many ms = (decide (ms.length ≤ 2000) && msOk (many - 1) none ms):=by
 unfold fitsIn
 rw [msOk_none,show msgFit many = msgIn (many - 1) from funext (msgFit_in many),Bool.and_assoc]
theorem f_inboxFits (nil : Bool) (ms : List E3) (many : Int) (hl : ms.length ≤ maxLen) : Fn Try.prog 58 [.one (row nil 3 (edges ms)),iP many] (.v (.one (bool (fitsIn many ms)))):=by
 have hlen:=Zv ms
 have hml : ms.length ≤ 9223372036854775807:=hl
 have KS:=f_isSorted nil ms hl
 have K:=fun m=>f_messageFits m many
 refine Zy (l:=[.tmp 4]) Try.func58 kRf rfl Try.ntmps58 rfl rfl ?_; simp only [argEnv,P0.d,Nat.reduceAdd]
 repeat' (first|refine wk ?_|((first|refine' w_q rfl rfl ?xa rfl ?_|refine' v_q rfl rfl ?xa rfl ?_|refine' Zh rfl rfl (Zb rfl) rfl ?xa rfl ?_|refine' Zi rfl rfl (Zb rfl) rfl ?xa rfl ?_);case xa=>exact Ze KS rfl ⟨Zd (Za rfl),Zd (Za rfl),trivial⟩)|(refine wkB ?_ ?_<;>intro hg_<;>try exact wkX)|fail)
 ·exact Zt rfl (Zo (by unfold fitsIn; simp_all; try omega))
 ·exact Zt rfl (Zo (by unfold fitsIn; simp [*]))
 refine Z7 (fun k : Nat=>k ≤ ms.length ∧ fitsIn many ms = (ms.drop k).all (msgFit many)) (fun k=>mkS 26 [(17,.one (.r true (int (k : Int)))),(16,.one (.r true (int (ms.length : Int)))),(15,.one (.r false (row nil 3 (edges ms)))),(1,.one (.r false (int many)))] []) (fun k=>ms.length - k) 0 ⟨Nat.zero_le _,by unfold fitsIn;simp_all;try omega⟩ (by (refine Zg [] rfl ?_ ?_<;>repeat' (first|refine wkS ?_ ?_|exact wkE|exact Zq (by rw [hlen])))) ?_
 rintro k ⟨hk,HP⟩
 repeat' (first|refine wk ?_|((first|refine' w_q rfl rfl ?xa rfl ?_|refine' v_q rfl rfl ?xa rfl ?_|refine' Zh rfl rfl (Zb rfl) rfl ?xa rfl ?_|refine' Zi rfl rfl (Zb rfl) rfl ?xa rfl ?_);case xa=>first|exact Zn tbOk rfl rfl rfl rfl oM (edges_at oM)|exact Ze (K (_,_,_)) rfl ⟨Zw (Za rfl) ⟨Zk,Zk,Zk,trivial⟩,Zd (Za rfl),trivial⟩)|(refine wkB ?_ ?_<;>intro hg_<;>try exact wkX)|fail)
 all_goals first
  | exact Zt rfl (Zo (by rw [HP,all_step oM]; simp_all; done))
  | exact ⟨k + 1,⟨by omega,by rw [HP,all_step oM];simp_all⟩,by (refine Zg [] rfl ?_ ?_ <;>exact wkW),by omega⟩
  | exact Zt rfl (Zo (by rw [HP,List.drop_eq_nil_of_le oM]; rfl))
theorem f_implStateValid (many r : Int) (nv ng nm : Bool) (vs : List Int) (gs : List Bool) (ms : List E3) (hv : vs.length ≤ maxLen) (hg : gs.length ≤ maxLen) (hl : ms.length ≤ maxLen) : Fn Try.prog 24 [stateP r nv vs ng gs nm ms,iP many] (.v (.one (bool (stOk many r vs gs.length ms)))):=by
 have hlenV:=Zp vs
 have hlenG:=Zab gs
 have hlenM:=Zv ms
 have K1:=f_roundFits r
 have K2:=f_valuesFit nv vs hv
 have K3:=f_inboxFits nm ms many hl
 have E : stOk many r vs gs.length ms = (inR 0 16 many && inR 0 100 r && decide ((vs.length : Int) = many) && decide ((gs.length : Int) = many) && (vs.all valIn && fitsIn many ms)):=by
  unfold stOk; rw [fitsIn_eq]
  cases decide (ms.length ≤ 2000)<;>cases vs.all valIn<;>cases msOk (many - 1) none ms<;>simp
 have E2 : inR 0 16 many = decide (0 ≤ many ∧ many ≤ 16):=rfl
 rw [E,E2]
 clear E E2
 generalize fitsIn many ms = b3 at *
 generalize vs.all valIn = b2 at *
 generalize inR 0 100 r = b1 at *
 refine Zy (l:=[.tmp 4]) Try.func24 kRf rfl Try.ntmps24 rfl rfl ?_; simp only [argEnv,P0.d,Nat.reduceAdd,stateP,List.map_cons,List.map_nil]
 repeat' (first|refine wk ?_|((first|refine' w_q rfl rfl ?xa rfl ?_|refine' v_q rfl rfl ?xa rfl ?_|refine' Zh rfl rfl (Zb rfl) rfl ?xa rfl ?_|refine' Zi rfl rfl (Zb rfl) rfl ?xa rfl ?_);case xa=>first|exact Ze K1 rfl ⟨Zd (Za rfl),trivial⟩|exact Ze K2 rfl ⟨Zd (Za rfl),trivial⟩|exact Ze K3 rfl ⟨Zd (Za rfl),Zd (Za rfl),trivial⟩)|(refine wkB ?_ ?_<;>intro hg_<;>try exact wkX)|fail)
 all_goals first
  | exact Zt rfl (Zo (by first|(simp_all;done)|(simp_all;intros;omega)|(simp_all;omega)))
theorem f_specStateValid (many r : Int) (nv ng nm : Bool) (vs : List Int) (gs : List Bool) (ms : List E3) (hv : vs.length ≤ maxLen) (hg : gs.length ≤ maxLen) (hl : ms.length ≤ maxLen) : Fn Try.prog 19 [stateP r nv vs ng gs nm ms,iP many] (.v (.one (bool (stOk many r vs gs.length ms)))):=by
 have hlenV:=Zp vs
 have hlenG:=Zab gs
 have hlenM:=Zv ms
 have hmv : vs.length ≤ 9223372036854775807:=hv
 have hml : ms.length ≤ 9223372036854775807:=hl
 have KB:=fun a b=>f_l9Before a b
 have KM:=fun m=>f_l11Message m many
 have KI:=fun a b c=>f_l1In a b c
 rw [stOk_spec]
 obtain ⟨u,hu⟩ : ∃ u,u = IntKind.i64.wrap (many - 1):=⟨_,rfl⟩
 rw [← hu] at KM ⊢
 clear hu
 obtain ⟨B1,hB1⟩ : ∃ b,b = vs.all valIn:=⟨_,rfl⟩
 obtain ⟨B2,hB2⟩ : ∃ b,b = msOk u none ms:=⟨_,rfl⟩
 rw [← hB1,← hB2]
 refine Zy (l:=[.tmp 4]) Try.func19 kRf rfl Try.ntmps19 rfl rfl ?_; simp only [argEnv,P0.d,Nat.reduceAdd,stateP,List.map_cons,List.map_nil]
 repeat' (first|refine wk ?_|(refine wkB ?_ ?_<;>intro hg_<;>try exact wkX)|fail)
 refine Z7 (fun k : Nat=>k ≤ vs.length ∧ B1 = (vs.drop k).all valIn) (fun k=>mkS 81 [(5,.one (.r true (int (k : Int)))),(2,.one (.ptr 2 0 0 0)),(1,.one (.r false (int many)))] [(2,.var 28 [.r false (int r),.r false (row nv 1 (ints vs)),.r false (row ng 1 (bools gs)),.r false (row nm 3 (edges ms))])]) (fun k=>vs.length - k) 0 ⟨Nat.zero_le _,hB1⟩ (by (refine Zg [] rfl ?_ ?_ <;>exact wkW)) ?_
 rintro k ⟨hk,HP⟩
 repeat' (first|refine wk ?_|((first|refine' w_q rfl rfl ?xa rfl ?_|refine' v_q rfl rfl ?xa rfl ?_|refine' Zh rfl rfl (Zb rfl) rfl ?xa rfl ?_|refine' Zi rfl rfl (Zb rfl) rfl ?xa rfl ?_);case xa=>first|exact Zn tbOk rfl rfl rfl rfl oM (ints_at oM)|exact Ze (KI _ _ _) rfl ⟨Zd (Za rfl),Zd (Za rfl),Zd (Za rfl),trivial⟩)|(refine wkB ?_ ?_<;>intro hg_<;>try exact wkX)|fail)
 ·exact Zt rfl (Zo (by rw [HP,all_step oM]; unfold valIn; simp_all))
 ·exact ⟨k + 1,⟨by omega,by rw [HP,all_step oM];unfold valIn;simp_all⟩,by (refine Zg [] rfl ?_ ?_ <;>exact wkW),by omega⟩
 have hT : B1 = true:=by rw [HP,List.drop_eq_nil_of_le oM]; rfl
 rw [hT]
 clear HP hB1 hT
 refine Z7 (fun k : Nat=>k ≤ ms.length ∧ B2 = msOk u (prevE ms k) (ms.drop k)) (fun k=>mkS 81 [(6,.one (.r true (int (k : Int)))),(2,.one (.ptr 2 0 0 0)),(1,.one (.r false (int many)))] [(2,.var 28 [.r false (int r),.r false (row nv 1 (ints vs)),.r false (row ng 1 (bools gs)),.r false (row nm 3 (edges ms))])]) (fun k=>ms.length - k) 0 ⟨Nat.zero_le _,hB2⟩ (by (refine Zg [] rfl ?_ ?_ <;>exact wkW)) ?_
 clear hB2
 rintro j ⟨hj,HP⟩
 have hixp : ∀ h : 0 < j,j ≤ ms.length → (edges ms)[(IntKind.i64.wrap ((j : Int) - 1)).toNat]? = some (edgeP (ms[j-1]'oM)):=fun h h'=>by
  rw [IntWalk.i64_in _ oM,show ((j : Int) - 1).toNat = j - 1 by omega]; exact edges_get oM
 have hw1 : 0 < j → 0 ≤ IntKind.i64.wrap ((j : Int) - 1):=fun h=>by rw [IntWalk.i64_in _ oM]; omega
 repeat' (first|refine wk ?_|((first|refine' w_q rfl rfl ?xa rfl ?_|refine' v_q rfl rfl ?xa rfl ?_|refine' Zh rfl rfl (Zb rfl) rfl ?xa rfl ?_|refine' Zi rfl rfl (Zb rfl) rfl ?xa rfl ?_);case xa=>first|exact Zn tbOk rfl rfl rfl rfl (by first|omega|exact hw1 oM) (by first|exact edges_at oM|exact hixp oM oM)|exact Ze (KI _ _ _) rfl ⟨Zd (Za rfl),Zd (Za rfl),Zd (Za rfl),trivial⟩|exact Ze (KM (_,_,_)) rfl ⟨Zw (Za rfl) ⟨Zk,Zk,Zk,trivial⟩,Zd (Za rfl),trivial⟩|exact Ze (KB (_,_,_) (_,_,_)) rfl ⟨Zw (Za rfl) ⟨Zk,Zk,Zk,trivial⟩,Zw (Za rfl) ⟨Zk,Zk,Zk,trivial⟩,trivial⟩)|(refine wkB ?_ ?_<;>intro hg_<;>try exact wkX)|fail)
 ·exact Zt rfl (Zo (by rw [HP,msOk_step oM]; simp_all))
 ·exact Zt rfl (Zo (by rw [HP,msOk_step oM,prevE_pos oM hj]; simp_all [befP]))
 ·exact ⟨j + 1,⟨by omega,by rw [HP,msOk_step oM,prevE_pos oM hj];simp_all [befP]⟩,by (refine Zg [] rfl ?_ ?_ <;>exact wkW),by omega⟩
 ·obtain rfl : j = 0:=by omega
  exact ⟨1,⟨by omega,by rw [HP,msOk_step oM];simp_all [befP,prevE]⟩,by (refine Zg [] rfl ?_ ?_ <;>exact wkW),by omega⟩
 all_goals
  have hT : B2 = true:=by rw [HP,List.drop_eq_nil_of_le oM]; simp [msOk]
  rw [hT]
  clear HP hixp hw1
  first
   | exact Zt rfl (Zo (by first|(simp_all;done)|(simp_all;omega)))
end Go.Proofs.Ytmkijbfiilpccaa.Abs
