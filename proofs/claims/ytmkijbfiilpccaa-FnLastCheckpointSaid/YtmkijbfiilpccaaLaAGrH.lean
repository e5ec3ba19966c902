/- Graphs by states: the reference's AddEdge, its row handed over. No statement of the seat is proved here. -/
import Derived.Lib.Hide
import Derived.Test.YtmkijbfiilpccaaLaTy
import Derived.Test.YtmkijbfiilpccaaLaAbsX
import Derived.Test.YtmkijbfiilpccaaLaADrwI
import Derived.Test.YtmkijbfiilpccaaLaAGraph
import Derived.Test.YtmkijbfiilpccaaLaGAdd
set_option linter.unusedSimpArgs false
set_option linter.unusedVariables false
set_option maxRecDepth 100000
set_option maxHeartbeats 8000000
namespace Go.Proofs.Ytmkijbfiilpccaa.Abs
open Go.RowKit
open R (val row ref)
theorem Zag (xs : List E3) (x : E3) : edges (xs ++ [x]) = edges xs ++ [edgeP x]:=by unfold edges; rw [List.map_append]; rfl
theorem Zbg (es : List E3) : ∀ e ∈ edges es,plain1 e = true:=fun e he=>by
 obtain ⟨x,_,rfl⟩:=List.mem_map.1 he
 rfl
theorem Za6 (a b c : Int) : ∀ x ∈ [P0.agg [int a,int b,int c]],plain1 x = true:=fun x hx=>by
 obtain rfl : x = P0.agg [int a,int b,int c]:=by simpa using hx
 rfl
theorem f_ownGraph (m : Int) (nil : Bool) (es : List E3) (hl : es.length ≤ 1048576) : Fn Try.prog 89 [graphP m nil es] (.v (graphP m false es)):=by
 have hlen:=Zp es
 refine Z8 (l:=[.cell 2 57]) Try.func89 kRf rfl Try.ntmps89 rfl rfl ?_; simp only [argEnv,P0.d,Nat.reduceAdd,graphP,List.map_cons,List.map_nil]
 repeat' (first|refine wk ?_|((first|refine' w_e rfl ?xa ?xb ?xc ?xe ?_|refine' v_e rfl ?xa ?xb ?xc ?xe ?_);(case xa=>first|exact Zl [] tlOk rfl rfl rfl rfl rfl rfl (by simp [AllN]) (by simp)|exact Zw tlOk rfl rfl rfl rfl rfl rfl (Z6 Za2 (Zbg _)) rfl (by simp only [maxLen,List.length_nil];omega) (by simp only [List.length_nil];omega));(case xb|xc|xe=>rfl);try refine wkD ?_)|(refine wkB ?_ ?_<;>intro hg_<;>try exact wkX)|fail)
 all_goals first
  | exact ret_v (Za8 rfl rfl tyF0 rfl rfl rfl (Za7 (by refine ⟨Za5,?_,trivial⟩<;>exact Z5 (Zj rfl) (by simp only [List.length_nil,Nat.zero_add,List.nil_append]))))
theorem gvar2 {E : TypeId} {a b a' b' : Cell} (h1 : a = a') (h2 : b = b') : Ob.var E [a,b] = .var E [a',b']:=by rw [h1,h2]
theorem list2 {α : Type} {a b a' b' : α} (h1 : a = a') (h2 : b = b') : [a,b] = [a',b']:=by rw [h1,h2]
theorem cAr_ownE {H : Nat → Option Ob} {k n sz : Nat} {E : TypeId} {els els' : List P0} {new : Bool} (hk : H k = some (.sl E sz new els)) (hn : n = els.length) (he : els = els') : CAr H (.own k 0 n sz) (row false sz els'):=he ▸ Zaf hk hn
theorem Zc6 (m : Int) (nil : Bool) (es : List E3) (e : E3) (hg : gOk m es = true) :
    FnS Try.prog 87 [.agg [.r false (int m), .r false (row nil 3 (edges es))], .agg [.r false (int e.1), .r false (int e.2.1), .r false (int e.2.2)]] [] (.tups [(true, [.r true (int m), .own 2000001 0 (addE m es e).1.length 3]), (false, [.r true (bool (addE m es e).2)])]) [(2000001, .sl 73 3 true (edges (addE m es e).1))] := by
  have hl40 := Za1 hg
  have K1 := f_ownGraph m nil es oM
  have K2 := Zcj m false es (by simp only [maxLen]; omega)
  rw [hg] at K2
  have hN := ins_len e es
  have K3 := Zcj m false (ins e es) (by simp only [maxLen]; omega)
  have hlen := Zp es
  have hlN := Zp (ins e es)
  unfold addE
  obtain ⟨e1, e2, e3⟩ := e
  dsimp only
  generalize gOk m (ins (e1, e2, e3) es) = b at *
  obtain ⟨X, hX⟩ : ∃ X : List E3, X = ins (e1, e2, e3) es := ⟨_, rfl⟩
  rw [← hX] at K3 hN hlN ⊢
  refine Zad (l := [.cell 4 57, .tmp 5]) Try.func87 kRf rfl Try.ntmps87 rfl rfl ?_; simp only [dEnv, Nat.reduceAdd]
  repeat' (first|refine wk ?_|((first|refine' w_q rfl rfl ?xa rfl ?_|refine' v_q rfl rfl ?xa rfl ?_|refine' Zn rfl rfl (Zb rfl) rfl ?xa rfl ?_|refine' Zo rfl rfl (Zb rfl) rfl ?xa rfl ?_);case xa => first|exact Zm K1 rfl ⟨Zq (Za rfl) ⟨Zd, Zd, trivial⟩, trivial⟩|exact Zm K2 rfl ⟨Zq (Za rfl) ⟨Zd, Zd, trivial⟩, trivial⟩)|(refine wkB ?_ ?_<;>intro hg_<;>try exact wkX)|fail)
  obtain ⟨S0, hS0⟩ : ∃ S0 : St, S0 = mkS 82 [(8, .one (.r true (int 0))), (7, .one (.r true (bool false))), (6, .one (.ptr 6 0 0 0)), (4, .one (.ptr 4 0 0 0)), (3, .one (.ptr 3 0 0 0)), (2, .one (.ptr 2 0 0 0))] [(6, .var 57 [.r true (int m), .r true (row true 0 [])]), (4, .var 57 [.r true (int 0), .r true (row true 0 [])]), (3, .var 73 [.r false (int e1), .r false (int e2), .r false (int e3)]), (2, .var 57 [.r true (int m), .r true (row false 3 (edges es))])] := ⟨_, rfl⟩
  obtain ⟨S1, hS1⟩ : ∃ S1 : Nat → St, ∀ k : Nat, S1 k = mkS 82 [(8, .one (.r true (int ((k + 1 : Nat) : Int)))), (7, .one (.r true (bool (insF (e1, e2, e3) (es.take (k + 1))).2))), (6, .one (.ptr 6 0 0 0)), (4, .one (.ptr 4 0 0 0)), (3, .one (.ptr 3 0 0 0)), (2, .one (.ptr 2 0 0 0))] [(6, .var 57 [.r true (int m), .own 100 0 (insF (e1, e2, e3) (es.take (k + 1))).1.length 3]), (100, .sl 73 3 true (edges (insF (e1, e2, e3) (es.take (k + 1))).1)), (4, .var 57 [.r true (int 0), .r true (row true 0 [])]), (3, .var 73 [.r false (int e1), .r false (int e2), .r false (int e3)]), (2, .var 57 [.r true (int m), .r true (row false 3 (edges es))])] := ⟨_, fun _ => rfl⟩
  obtain ⟨F, hF0, hF1⟩ : ∃ F : Nat → St, F 0 = S0 ∧ ∀ k : Nat, F (k + 1) = S1 k := ⟨fun k => Nat.rec S0 (fun k _ => S1 k) k, rfl, fun _ => rfl⟩
  refine Zaa (fun k : Nat => k ≤ es.length) F (fun k => es.length - k) 0 (Nat.zero_le _) ?_ ?_
  · rw [hF0, hS0]
    (refine Zi [] rfl ?_ ?_ <;>exact wkW)
  · intro k hk
    cases k with
    | zero =>
      rw [hF0, hS0]
      by_cases hlt : 0 < es.length
      · have hix := Zbq hlt
        have hs := insF_take (e := (e1, e2, e3)) hlt
        have hw : IntKind.i64.wrap ((0 : Int) + 1) = ((0 + 1 : Nat) : Int) := by decide
        have hrow : (1 : Nat) = 1 := rfl
        have hbnd : (1 : Nat) ≤ 1 := Nat.le_refl _
        rw [show insF (e1, e2, e3) (es.take 0) = ([], false) by rfl] at hs
        have hfin : ∀ s' : St, Weak s' (S1 0) → ∃ x', x' ≤ es.length ∧ Weak s' (F x') ∧ es.length - x' < es.length - 0 := fun s' h => ⟨1, hlt, by rw [hF1]; exact h, by omega⟩
        generalize es[0] = o at *
        obtain ⟨o1, o2, o3⟩ := o
        have K4 := f_l4Before (o1, o2, o3) (e1, e2, e3)
        rw [hS1] at hfin
        rw [hs] at hfin
        clear hs hF0 hF1 hS0 hS1 K1 K2 K3
        unfold insStep at hfin
        generalize before (o1, o2, o3) (e1, e2, e3) = bf at *
        dsimp only at hfin
        cases bf <;> by_cases hq1 : o1 = e1 <;> by_cases hq2 : o2 = e2
        all_goals
          (try subst hq1); (try subst hq2)
          (try simp only [hq1] at hfin); (try simp only [hq2] at hfin)
          simp only [and_self, and_true, true_and, and_false, false_and, if_true, if_false, reduceCtorEq, Bool.true_eq_false, Bool.false_eq_true] at hfin
          repeat' (first|refine wk ?_|((first|refine' w_q rfl rfl ?xa rfl ?_|refine' v_q rfl rfl ?xa rfl ?_|refine' Zn rfl rfl (Zb rfl) rfl ?xa rfl ?_|refine' Zo rfl rfl (Zb rfl) rfl ?xa rfl ?_);case xa => first|exact Zx tbOk rfl rfl rfl rfl oM (by exact hix)|exact Zm K4 rfl ⟨Zq (Za rfl) ⟨Zd, Zd, Zd, trivial⟩, Zq (Za rfl) ⟨Zd, Zd, Zd, trivial⟩, trivial⟩)|((first|refine' w_e rfl ?xa ?xb ?xc ?xe ?_|refine' v_e rfl ?xa ?xb ?xc ?xe ?_);(case xa => first|exact Zl [.tmp 41] tlOk rfl rfl rfl rfl rfl rfl (Zy rfl) (by simp)|exact Zl [.tmp 59] tlOk rfl rfl rfl rfl rfl rfl (Zy rfl) (by simp)|exact Zas tlOk rfl rfl rfl rfl rfl (Z6 (Z0 (Zj rfl) rfl) (Za6 _ _ _)) (by simp) (by simp only [maxLen, List.length_cons, List.length_nil];omega) (by simp only [List.length_cons, List.length_nil];omega)|exact Zw tlOk rfl rfl rfl rfl rfl rfl (Z6 (Z0 (Zj rfl) rfl) (Za6 _ _ _)) (by first|rfl|exact hrow|(simp only [List.length_append, List.length_cons, List.length_nil];done)|(simp only [List.length_append, List.length_cons, List.length_nil] at *;omega)) (by simp only [maxLen, List.length_cons, List.length_nil, List.length_append] at *;omega) (by simp only [List.length_cons, List.length_nil, List.length_append] at *;omega));(case xb|xc|xe=>rfl);try refine wkD ?_)|(refine wkB ?_ ?_<;>intro hg_<;>try exact wkX)|fail)
          all_goals first
            | (exfalso;first|contradiction|omega|(simp at *;done)|(simp at *;omega))
            | (refine hfin _ ?_
               first
                 | ((refine Zi [(100, 61)] rfl ?_ ?_ <;> repeat' (first|refine wkS ?_ ?_|exact wkE|exact Zt hw|exact gvar2 rfl (Zaj (by first|rfl|(simp only [List.length_cons, List.length_nil, List.length_append, Zp, Nat.zero_add];done)|(simp only [List.length_cons, List.length_nil, List.length_append, Zp, Nat.zero_add] <;> omega)))|exact Zz rfl (by rw [Zag, Zag] <;> rfl)|exact Zz rfl (by rw [Zag] <;> rfl)));done)
                 | ((refine Zi [(100, 43)] rfl ?_ ?_ <;> repeat' (first|refine wkS ?_ ?_|exact wkE|exact Zt hw|exact gvar2 rfl (Zaj (by first|rfl|(simp only [List.length_cons, List.length_nil, List.length_append, Zp, Nat.zero_add];done)|(simp only [List.length_cons, List.length_nil, List.length_append, Zp, Nat.zero_add] <;> omega)))|exact Zz rfl (by rw [Zag] <;> rfl)));done))
      · have hes : es = [] := List.eq_nil_of_length_eq_zero oM
        have hE : [P0.agg [int e1, int e2, int e3]] = edges X := by rw [hX, hes]; rfl
        have hE2 := hE
        have hrow : (1 : Nat) = 1 := rfl
        clear hF0 hF1 hS0 hS1 K1 K2 hX
        cases b
        all_goals
          (try simp only [if_true, if_false, Bool.false_eq_true])
          repeat' (first|refine wk ?_|((first|refine' w_q rfl rfl ?xa rfl ?_|refine' v_q rfl rfl ?xa rfl ?_|refine' Zn rfl rfl (Zb rfl) rfl ?xa rfl ?_|refine' Zo rfl rfl (Zb rfl) rfl ?xa rfl ?_);case xa => first|exact Zm K3 rfl ⟨Zq (Za rfl) ⟨Zd, cAr_ownE (Zj rfl) (by first|rfl|exact hrow|(simp only [List.length_append, List.length_cons, List.length_nil];done)) hE, trivial⟩, trivial⟩|exact Zm K3 rfl ⟨Zq (Za rfl) ⟨Zd, cAr_ownE (Zj rfl) (by first|rfl|exact hrow|(simp only [List.length_append, List.length_cons, List.length_nil];done)) hE, trivial⟩, trivial⟩)|((first|refine' w_e rfl ?xa ?xb ?xc ?xe ?_|refine' v_e rfl ?xa ?xb ?xc ?xe ?_);(case xa => first|exact Zl [.tmp 67] tlOk rfl rfl rfl rfl rfl rfl (Zy rfl) (by simp)|exact Zl [] tlOk rfl rfl rfl rfl rfl rfl (by simp [AllN]) (by simp)|exact Zas tlOk rfl rfl rfl rfl rfl (Z6 (Z0 (Zj rfl) rfl) (Za6 _ _ _)) (by simp) (by simp only [maxLen, List.length_cons, List.length_nil];omega) (by simp only [List.length_cons, List.length_nil];omega)|exact Zw tlOk rfl rfl rfl rfl rfl rfl (Z6 (Z0 (Zj rfl) rfl) (Za6 _ _ _)) hrow (by simp only [maxLen, List.length_cons, List.length_nil, List.length_append] at *;omega) (by simp only [List.length_cons, List.length_nil, List.length_append] at *;omega)|exact Zw tlOk rfl rfl rfl rfl rfl rfl (Z6 Za2 (Zbg _)) rfl (by simp only [maxLen, List.length_nil];omega) (by simp only [List.length_nil];omega));(case xb|xc|xe=>rfl);try refine wkD ?_)|(refine wkB ?_ ?_<;>intro hg_<;>try exact wkX)|fail)
          all_goals first
            | (exfalso;first|contradiction|omega|(simp at *;done)|(simp at *;omega))
            | exact Z4 [(2000001, 69)] rfl (by (repeat' (first|exact trivial|refine Zb2 rfl ?_ ?_|rfl|exact Zz rfl hE))) (Zau (x := (true, _)) (y := (false, [_])) (Zaq rfl rfl tyF0 rfl rfl rfl) rfl (Zat rfl) rfl (Zac (tups2 (list2 rfl (Zaj (by have h := congrArg List.length hE;simp only [List.length_append, List.length_cons, List.length_nil, Zp] at *;omega))) rfl)))
            | exact Z4 [(2000001, 100)] rfl (by (repeat' (first|exact trivial|refine Zb2 rfl ?_ ?_|rfl|exact Zz rfl hE))) (Zau (x := (true, _)) (y := (false, [_])) (Zaq rfl rfl tyF0 rfl rfl rfl) rfl (Zat rfl) rfl (Zac (tups2 (list2 rfl (Zaj (by have h := congrArg List.length hE;simp only [List.length_append, List.length_cons, List.length_nil, Zp] at *;omega))) rfl)))
            | exact Z4 [(2000001, 79)] rfl sbH (Zau (x := (true, _)) (y := (false, [_])) (Zaq rfl rfl tyF0 rfl rfl rfl) rfl (Zat rfl) rfl (Zac (tups2 (list2 rfl (Zaj (by simp only [List.length_append, List.length_cons, List.length_nil, Zp] at *;omega))) rfl)))
    | succ k =>
      rw [hF1, hS1]
      by_cases hlt : k + 1 < es.length
      · have hix := Zbq hlt
        have hs := insF_take (e := (e1, e2, e3)) hlt
        have hw : IntKind.i64.wrap (((k + 1 : Nat) : Int) + 1) = ((k + 1 + 1 : Nat) : Int) := by rw [IntWalk.i64_in _ oM]; omega
        have hfin : ∀ s' : St, Weak s' (S1 (k + 1)) → ∃ x', x' ≤ es.length ∧ Weak s' (F x') ∧ es.length - x' < es.length - (k + 1) := fun s' h => ⟨k + 1 + 1, hlt, by rw [hF1]; exact h, by omega⟩
        have hbnd := (insF_len (e1, e2, e3) (es.take (k + 1))).1
        rw [List.length_take] at hbnd
        have hbnd : (insF (e1, e2, e3) (es.take (k + 1))).1.length ≤ 42 := by split at hbnd <;> omega
        generalize es[k + 1] = o at *
        generalize insF (e1, e2, e3) (es.take (k + 1)) = r at *
        obtain ⟨xs, pl⟩ := r
        dsimp only at hbnd ⊢
        have hrow := (Zp xs).symm
        obtain ⟨o1, o2, o3⟩ := o
        have K4 := f_l4Before (o1, o2, o3) (e1, e2, e3)
        rw [hS1] at hfin
        rw [hs] at hfin
        clear hs hF0 hF1 hS0 hS1 K1 K2 K3
        unfold insStep at hfin
        generalize before (o1, o2, o3) (e1, e2, e3) = bf at *
        dsimp only at hfin
        cases pl <;> cases bf <;> by_cases hq1 : o1 = e1 <;> by_cases hq2 : o2 = e2
        all_goals
          (try subst hq1); (try subst hq2)
          (try simp only [hq1] at hfin); (try simp only [hq2] at hfin)
          simp only [and_self, and_true, true_and, and_false, false_and, if_true, if_false, reduceCtorEq, Bool.true_eq_false, Bool.false_eq_true] at hfin
          repeat' (first|refine wk ?_|((first|refine' w_q rfl rfl ?xa rfl ?_|refine' v_q rfl rfl ?xa rfl ?_|refine' Zn rfl rfl (Zb rfl) rfl ?xa rfl ?_|refine' Zo rfl rfl (Zb rfl) rfl ?xa rfl ?_);case xa => first|exact Zx tbOk rfl rfl rfl rfl oM (by exact hix)|exact Zm K4 rfl ⟨Zq (Za rfl) ⟨Zd, Zd, Zd, trivial⟩, Zq (Za rfl) ⟨Zd, Zd, Zd, trivial⟩, trivial⟩)|((first|refine' w_e rfl ?xa ?xb ?xc ?xe ?_|refine' v_e rfl ?xa ?xb ?xc ?xe ?_);(case xa => first|exact Zl [.tmp 41] tlOk rfl rfl rfl rfl rfl rfl (Zy rfl) (by simp)|exact Zl [.tmp 59] tlOk rfl rfl rfl rfl rfl rfl (Zy rfl) (by simp)|exact Zas tlOk rfl rfl rfl rfl rfl (Z6 (Z0 (Zj rfl) rfl) (Za6 _ _ _)) (by simp) (by simp only [maxLen, List.length_cons, List.length_nil];omega) (by simp only [List.length_cons, List.length_nil];omega)|exact Zw tlOk rfl rfl rfl rfl rfl rfl (Z6 (Z0 (Zj rfl) rfl) (Za6 _ _ _)) (by first|rfl|exact hrow|(simp only [List.length_append, List.length_cons, List.length_nil];done)|(simp only [List.length_append, List.length_cons, List.length_nil] at *;omega)) (by simp only [maxLen, List.length_cons, List.length_nil, List.length_append] at *;omega) (by simp only [List.length_cons, List.length_nil, List.length_append] at *;omega));(case xb|xc|xe=>rfl);try refine wkD ?_)|(refine wkB ?_ ?_<;>intro hg_<;>try exact wkX)|fail)
          all_goals first
            | (exfalso;first|contradiction|omega|(simp at *;done)|(simp at *;omega))
            | (refine hfin _ ?_
               first
                 | ((refine Zi [(100, 61)] rfl ?_ ?_ <;> repeat' (first|refine wkS ?_ ?_|exact wkE|exact Zt hw|exact gvar2 rfl (Zaj (by first|rfl|(simp only [List.length_cons, List.length_nil, List.length_append, Zp, Nat.zero_add];done)|(simp only [List.length_cons, List.length_nil, List.length_append, Zp, Nat.zero_add] <;> omega)))|exact Zz rfl (by rw [Zag, Zag] <;> rfl)|exact Zz rfl (by rw [Zag] <;> rfl)));done)
                 | ((refine Zi [(100, 43)] rfl ?_ ?_ <;> repeat' (first|refine wkS ?_ ?_|exact wkE|exact Zt hw|exact gvar2 rfl (Zaj (by first|rfl|(simp only [List.length_cons, List.length_nil, List.length_append, Zp, Nat.zero_add];done)|(simp only [List.length_cons, List.length_nil, List.length_append, Zp, Nat.zero_add] <;> omega)))|exact Zz rfl (by rw [Zag] <;> rfl)));done))
      · have hke : k + 1 = es.length := by omega
        have hX2 : X = if (insF (e1, e2, e3) (es.take (k + 1))).2 = true then (insF (e1, e2, e3) (es.take (k + 1))).1 else (insF (e1, e2, e3) (es.take (k + 1))).1 ++ [(e1, e2, e3)] := by rw [hX, hke, List.take_length]; rfl
        have hbnd := (insF_len (e1, e2, e3) (es.take (k + 1))).1
        rw [List.length_take] at hbnd
        have hbnd : (insF (e1, e2, e3) (es.take (k + 1))).1.length ≤ 42 := by split at hbnd <;> omega
        clear hF0 hF1 hS0 hS1 K1 K2 hX
        generalize insF (e1, e2, e3) (es.take (k + 1)) = r at *
        obtain ⟨xs, pl⟩ := r
        dsimp only at hbnd hX2 ⊢
        have hrow := (Zp xs).symm
        have hE : pl = true → edges xs = edges X := fun h => by rw [hX2, if_pos h]
        have hE2 : pl = false → edges xs ++ [P0.agg [int e1, int e2, int e3]] = edges X := fun h => by rw [hX2, if_neg (by rw [h]; simp), Zag]
        clear hX2
        cases b <;> cases pl
        all_goals
          (try simp only [if_true, if_false, Bool.false_eq_true])
          repeat' (first|refine wk ?_|((first|refine' w_q rfl rfl ?xa rfl ?_|refine' v_q rfl rfl ?xa rfl ?_|refine' Zn rfl rfl (Zb rfl) rfl ?xa rfl ?_|refine' Zo rfl rfl (Zb rfl) rfl ?xa rfl ?_);case xa => first|exact Zm K3 rfl ⟨Zq (Za rfl) ⟨Zd, cAr_ownE (Zj rfl) (by first|rfl|exact hrow|(simp only [List.length_append, List.length_cons, List.length_nil];done)) (hE2 rfl), trivial⟩, trivial⟩|exact Zm K3 rfl ⟨Zq (Za rfl) ⟨Zd, cAr_ownE (Zj rfl) (by first|rfl|exact hrow|(simp only [List.length_append, List.length_cons, List.length_nil];done)) (hE rfl), trivial⟩, trivial⟩)|((first|refine' w_e rfl ?xa ?xb ?xc ?xe ?_|refine' v_e rfl ?xa ?xb ?xc ?xe ?_);(case xa => first|exact Zl [.tmp 67] tlOk rfl rfl rfl rfl rfl rfl (Zy rfl) (by simp)|exact Zl [] tlOk rfl rfl rfl rfl rfl rfl (by simp [AllN]) (by simp)|exact Zas tlOk rfl rfl rfl rfl rfl (Z6 (Z0 (Zj rfl) rfl) (Za6 _ _ _)) (by simp) (by simp only [maxLen, List.length_cons, List.length_nil];omega) (by simp only [List.length_cons, List.length_nil];omega)|exact Zw tlOk rfl rfl rfl rfl rfl rfl (Z6 (Z0 (Zj rfl) rfl) (Za6 _ _ _)) hrow (by simp only [maxLen, List.length_cons, List.length_nil, List.length_append] at *;omega) (by simp only [List.length_cons, List.length_nil, List.length_append] at *;omega)|exact Zw tlOk rfl rfl rfl rfl rfl rfl (Z6 Za2 (Zbg _)) rfl (by simp only [maxLen, List.length_nil];omega) (by simp only [List.length_nil];omega));(case xb|xc|xe=>rfl);try refine wkD ?_)|(refine wkB ?_ ?_<;>intro hg_<;>try exact wkX)|fail)
          all_goals first
            | (exfalso;first|contradiction|omega|(simp at *;done)|(simp at *;omega))
            | exact Z4 [(2000001, 69)] rfl (by (repeat' (first|exact trivial|refine Zb2 rfl ?_ ?_|rfl|exact Zz rfl (hE2 rfl)))) (Zau (x := (true, _)) (y := (false, [_])) (Zaq rfl rfl tyF0 rfl rfl rfl) rfl (Zat rfl) rfl (Zac (tups2 (list2 rfl (Zaj (by have h := congrArg List.length (hE2 rfl);simp only [List.length_append, List.length_cons, List.length_nil, Zp] at *;omega))) rfl)))
            | exact Z4 [(2000001, 100)] rfl (by (repeat' (first|exact trivial|refine Zb2 rfl ?_ ?_|rfl|exact Zz rfl (hE rfl)))) (Zau (x := (true, _)) (y := (false, [_])) (Zaq rfl rfl tyF0 rfl rfl rfl) rfl (Zat rfl) rfl (Zac (tups2 (list2 rfl (Zaj (by have h := congrArg List.length (hE rfl);simp only [List.length_append, List.length_cons, List.length_nil, Zp] at *;omega))) rfl)))
            | exact Z4 [(2000001, 79)] rfl sbH (Zau (x := (true, _)) (y := (false, [_])) (Zaq rfl rfl tyF0 rfl rfl rfl) rfl (Zat rfl) rfl (Zac (tups2 (list2 rfl (Zaj (by simp only [List.length_append, List.length_cons, List.length_nil, Zp] at *;omega))) rfl)))
end Go.Proofs.Ytmkijbfiilpccaa.Abs
set_option linter.unusedSimpArgs false
set_option linter.unusedVariables false
namespace Go.Proofs.Ytmkijbfiilpccaa.Abs
open Go.RowKit
open R (val row ref)
noncomputable def edgV (bs : List Int) (p m : Int) : E3:=(pickV bs p (if 1 < m then m else 1),pickV bs (p + 1) (if 1 < m then m else 1),dV [pickV bs (p + 1 + 1) 6,0,1,20] (pickV bs (p + 1 + 1 + 1) 4))
theorem Za4 (xs : List Int) : AllN 1 (ints xs):=fun i e he=>by
 obtain ⟨x,_,rfl⟩:=List.mem_map.1 (List.mem_of_getElem? he)
 rfl
theorem f_l20Edge {bs : List Int} (p m : Int) (hm : -100 ≤ m ∧ m ≤ 100) (hB : Byte bs) (hl : bs.length ≤ 2000) (hp0 : 0 ≤ p) (hp : p ≤ 900000) (m1 m2 nb : Bool) :
  FnS Try.prog 88 [.one (.ptr 1000000000 0 0 0),.one (.r false (int m))] (rdH 1000000000 m1 m2 nb bs p) (.agg [.r true (int (edgV bs p m).1),.r true (int (edgV bs p m).2.1),.r true (int (edgV bs p m).2.2)]) (rdH 1000000000 m1 true nb bs (p + 1 + 1 + 1 + 1)):=by
 have K1:=Zbd p (if 1 < m then m else 1) hB hl hp0 oM m1 m2 nb
 have K2:=Zbd (p + 1) (if 1 < m then m else 1) hB hl oM oM m1 true nb
 have K3:=Zbd (p + 1 + 1) 6 hB hl oM oM m1 true nb
 have K4:=Zbd (p + 1 + 1 + 1) 4 hB hl oM oM m1 true nb
 have h4:=Zaz bs (p + 1 + 1 + 1) 4
 unfold edgV
 generalize pickV bs (p + 1 + 1 + 1) 4 = v4 at *
 generalize pickV bs (p + 1 + 1) 6 = v3 at *
 generalize hM : (if 1 < m then m else 1) = M at *
 generalize pickV bs (p + 1) M = v2 at *
 generalize pickV bs p M = v1 at *
 unfold rdH at *
 dsimp only
 refine Zad (l:=[.cell 4 73]) Try.func88 kRf rfl Try.ntmps88 rfl rfl ?_; simp only [dEnv,Nat.reduceAdd]
 repeat' (first|refine wk ?_|((first|refine' w_q rfl rfl ?xa rfl ?_|refine' v_q rfl rfl ?xa rfl ?_|refine' Zn rfl rfl (Zb rfl) rfl ?xa rfl ?_|refine' Zo rfl rfl (Zb rfl) rfl ?xa rfl ?_);case xa=>first|exact Zap tbOk rfl rfl rfl rfl oM (by simp only [List.length_cons,List.length_nil];omega)|exact Zae (xs:=[v3,0,1,20]) tbOk rfl rfl rfl rfl (by simp only [List.length_cons,List.length_nil];omega))|((first|refine' w_e rfl ?xa ?xb ?xc ?xe ?_|refine' v_e rfl ?xa ?xb ?xc ?xe ?_);(case xa=>first|exact Ze 8 rfl (Zg [] K1 rfl ⟨Zh (Za rfl),by rw [Za rfl,hM];exact asD_r rfl,trivial⟩ sbH rfl)|exact Ze 12 rfl (Zg [] K2 rfl ⟨Zh (Za rfl),by rw [Za rfl,hM];exact asD_r rfl,trivial⟩ sbH rfl)|exact Zg [] K3 rfl ⟨Zh (Za rfl),asE,trivial⟩ sbH rfl|exact Zg [] K4 rfl ⟨Zh (Za rfl),asE,trivial⟩ sbH rfl|exact Zl [.tmp 14,.const (.int .i64 0),.const (.int .i64 1),.const (.int .i64 20)] tlOk rfl rfl rfl rfl rfl rfl (Za4 [v3,0,1,20]) (by simp));(case xb|xc|xe=>rfl);try refine wkD ?_)|(refine wkB ?_ ?_<;>intro hg_<;>try exact wkX)|fail)
 all_goals first
  | exact Z4 [] rfl sbH (Za3 rfl rfl tyF0 rfl rfl rfl (Zac (by simp only [Nat.zero_add];rfl)))
noncomputable def manyV (bs : List Int) (p : Int) : Int:=dV [pickV bs p 9,2 + pickV bs (p + 1) 7,16,0] (dV [0,1,1,1,1,1,2,3] (pickV bs (p + 1 + 1) 8))
theorem manyV_in (bs : List Int) (p : Int) : 0 ≤ manyV bs p ∧ manyV bs p ≤ 16:=by
 have h1:=Zaz bs p 9
 have h2:=Zaz bs (p + 1) 7
 have h3:=Zaz bs (p + 1 + 1) 8
 unfold manyV
 generalize pickV bs p 9 = a at *
 generalize pickV bs (p + 1) 7 = b at *
 generalize pickV bs (p + 1 + 1) 8 = c at *
 have hc : c = 0 ∨ c = 1 ∨ c = 2 ∨ c = 3 ∨ c = 4 ∨ c = 5 ∨ c = 6 ∨ c = 7:=by omega
 rcases hc with rfl | rfl | rfl | rfl | rfl | rfl | rfl | rfl<;>simp [dV]<;>omega
noncomputable def esAt (bs : List Int) (p m : Int) : Nat → List E3
 | 0=>[]
 | i + 1=>(addE m (esAt bs p m i) (edgV bs (p + 4 * (i : Int)) m)).1
theorem esAt_ok (bs : List Int) (p : Int) {m : Int} (h0 : 0 ≤ m) (h1 : m ≤ 16) : ∀ i,gOk m (esAt bs p m i) = true
 | 0=>gOk_nil h0 h1
 | i + 1=>addE_ok (esAt_ok bs p h0 h1 i) _
theorem imp_gnil {a : Cell} : DImp (.agg [a,.r true (row true 0 [])]) (.agg [a,.r true (row true 3 [])]):=fun ι base c v ⟨vs,h1,h2,h3⟩=>⟨vs,h1,h2,fun j x hj=>by
 match j,hj with
 | 0,hj=>exact h3 0 x hj
 | 1,hj =>
  obtain rfl : Cell.r true (row true 3 []) = x:=by simpa using hj
  obtain ⟨u,hu,hp⟩:=h3 1 _ rfl
  exact ⟨u,hu,imp_nil (sz:=0) (m:=true) ι base c u hp⟩
 | j + 2,hj=>simp at hj⟩
theorem Zao {P : Program} {n T : Nat} {m' : Int} {es' : List E3} {E0 : TypeId} {f1 f2 : Bool} {x1 x2 : R} (hT : tyOf P T = some (true,2)) : (Exit.ret = Exit.ret ∨ Exit.ret = Exit.normal) ∧ ∃ s2,Weak (mkS n [(4,.one (.ptr 4 0 0 0))] [(4,.var 57 [.r true (int m'),.own 100 0 es'.length 3]),(100,.sl 73 3 true (edges es')),(1000000000,.var E0 [.r f1 x1,.r f2 x2])]) s2 ∧ ∃ ρ,EndD P s2 [.cell 4 T] ρ (.agg [.r true (int m'),.r true (row false 3 (edges es'))]) [(1000000000,.var E0 [.r f1 x1,.r f2 x2])]:=by
 have hb : Nat.ble (0 + es'.length) (edges es').length = true:=by rw [Zp]; simp
 have ht : ((edges es').drop 0).take es'.length = edges es':=by rw [List.drop_zero,List.take_of_length_le (by rw [Zp]; exact Nat.le_refl _)]
 have hw:=Za9 (n:=n) (l:=[(4,.one (.ptr 4 0 0 0))]) (h:=[(4,.var 57 [.r true (int m'),.own 100 0 es'.length 3]),(100,.sl 73 3 true (edges es')),(1000000000,.var E0 [.r f1 x1,.r f2 x2])]) 100 rfl
 have e1 : frL 100 3 true (edges es') [(4,.one (.ptr 4 0 0 0))] = [(4,.one (.ptr 4 0 0 0))]:=rfl
 have e2 : frH 100 3 true (edges es') [(4,.var 57 [.r true (int m'),.own 100 0 es'.length 3]),(100,.sl 73 3 true (edges es')),(1000000000,.var E0 [.r f1 x1,.r f2 x2])] = [(4,.var 57 [.r true (int m'),.r true (row false 3 (edges es'))]),(1000000000,.var E0 [.r f1 x1,.r f2 x2])]:=by
  have e3 : frC 100 3 true (edges es') (.own 100 0 es'.length 3) = .r true (row false 3 (edges es')):=by
   show (bif Nat.beq 100 100 then (bif Nat.beq 3 3 && Nat.ble (0 + es'.length) (edges es').length then Cell.r true (row false 3 (((edges es').drop 0).take es'.length)) else .any) else .own 100 0 es'.length 3) = _
   rw [hb,ht]; rfl
  show [(4,Ob.var _ [Cell.r true (int m'),frC 100 3 true (edges es') (.own 100 0 es'.length 3)]),(1000000000,Ob.var E0 [Cell.r f1 x1,Cell.r f2 x2])] = _
  rw [e3]
 rw [e1,e2] at hw
 exact Zal hw (Z4 [] rfl sbH (Za3 rfl rfl hT rfl rfl rfl (Zac rfl)))
theorem Zb9 {H : Nat → Option Ob} {m nil : Bool} {sz sz' : Nat} : SlD H (.one (.r m (row nil sz' []))) sz m []:=fun ι base w own v hH hv=>Za2 (sz:=sz) (els:=[]) ι base w own v hH (imp_nil ι base _ v hv)
noncomputable def odV (bs : List Int) (p n : Int) : Bool:=decide (0 < n) && oddV bs p n
def odE (p n : Int) : Int:=if 0 < n then p + 1 else p
theorem f_odd0 {bs : List Int} (p n : Int) (hn : 0 ≤ n) (hn2 : n ≤ 1000000) (hB : Byte bs) (hl : bs.length ≤ 2000) (hp0 : 0 ≤ p) (hp : p ≤ 1000000) (m1 nb : Bool) : FnS Try.prog 74 [.one (.ptr 1000000000 0 0 0),.one (.r false (int n))] (rdH 1000000000 m1 true nb bs p) (.one (.r true (bool (odV bs p n)))) (rdH 1000000000 m1 true nb bs (odE p n)):=by
 by_cases h : 0 < n
 ·have:=f_odd p n h hn2 hB hl hp0 hp m1 true nb
  unfold odV odE
  rw [if_pos h]
  simpa [h] using this
 ·obtain rfl : n = 0:=by omega
  unfold odV odE
  rw [if_neg h]
  simp only [h,decide_false,Bool.false_and]
  unfold rdH
  refine Zad (l:=[.tmp 4]) Try.func74 kRf rfl Try.ntmps74 rfl rfl ?_; simp only [dEnv,Nat.reduceAdd]
  repeat' (first|refine wk ?_|(refine wkB ?_ ?_<;>intro hg_<;>try exact wkX)|fail)
  all_goals first
   | exact Z4 [] rfl sbH (Zbl rfl rfl rfl)
theorem odE_in (p n : Int) : p ≤ odE p n ∧ odE p n ≤ p + 1:=by unfold odE; split<;>omega
noncomputable def geM (o : Bool) (q b M : Int) : Int:=if o = true ∧ q = 0 then dV [-1,17] b else M
def geE (o : Bool) (q : Int) (es : List E3) : List E3:=if o = true then (if q = 0 then es else if q = 1 then es ++ [(0,0,0)] else if q = 2 then es ++ [(0,1,21)] else (15,0,0) :: es) else es
def geP (o : Bool) (q p : Int) : Int:=if o = true then (if q = 0 then p + 1 + 1 else p + 1) else p
def geN (C : Nat) (o : Bool) (q : Int) : Bool:=decide (C = 0) && !(o && !decide (q = 0))
theorem ge_facts {C : Nat} {o : Bool} {q b M p p2 : Int} {es : List E3} (h0 : C = 0 → es = []) (hM : 0 ≤ M ∧ M ≤ 16) (hb : 0 ≤ b ∧ (b < 2 ∨ b = 0)) (hl : es.length ≤ 40) (h1 : p ≤ p2) (h2 : p2 ≤ p + 92) :
  (geN C o q = true → geE o q es = []) ∧ -1 ≤ geM o q b M ∧ geM o q b M ≤ 17 ∧ (geE o q es).length ≤ 41 ∧ p ≤ geP o q p2 ∧ geP o q p2 ≤ p + 100:=by
 have hbb : b = 0 ∨ b = 1:=by omega
 unfold geN geE geM geP
 cases o
 ·simp only [Bool.false_eq_true,if_false,false_and,Bool.false_and,Bool.not_false,Bool.and_true,decide_eq_true_eq]
  exact ⟨h0,by omega,by omega,by omega,by omega,by omega⟩
 ·by_cases q0 : q = 0
  ·subst q0
   simp only [if_true,true_and,and_self,decide_true,Bool.not_true,Bool.and_false,Bool.not_false,Bool.and_true,decide_eq_true_eq]
   refine ⟨h0,?_,?_,by omega,by omega,by omega⟩<;>rcases hbb with rfl | rfl<;>simp [dV]
  ·simp only [q0,if_true,if_false,and_false,decide_false,Bool.not_false,Bool.and_true,Bool.true_and,Bool.not_true,Bool.and_false,Bool.false_eq_true,false_implies,true_and]
   refine ⟨by omega,by omega,?_,by omega,by omega⟩
   (repeat' split)<;>simp<;>omega
theorem f_l20Graph0 {bs : List Int} (p n : Int) (hn : 0 ≤ n) (hn2 : n ≤ 1000000) (hB : Byte bs) (hl : bs.length ≤ 2000) (hp0 : 0 ≤ p) (hp : p ≤ 800000) :
    ∃ (nE : Bool) (m : Int) (es : List E3) (p' : Int), ((nE = true → es = []) ∧ -1 ≤ m ∧ m ≤ 17 ∧ es.length ≤ 41 ∧ p ≤ p' ∧ p' ≤ p + 100 ∧ (n = 0 → gOk m es = true)) ∧ ∀ m1 m2 nb, FnS Try.prog 66 [.one (.ptr 1000000000 0 0 0), .one (.r false (int n))] (rdH 1000000000 m1 m2 nb bs p) (.agg [.r true (int m), .r true (row nE 3 (edges es))]) (rdH 1000000000 m1 true nb bs p') := by
  have hM := manyV_in bs p
  have h7 := Zaz bs (p + 1) 7
  have h8 := Zaz bs (p + 1 + 1) 8
  have hc := Zaz bs (p + 1 + 1 + 1) 14
  have hcN : ((pickV bs (p + 1 + 1 + 1) 14).toNat : Int) = pickV bs (p + 1 + 1 + 1) 14 := Int.toNat_of_nonneg hc.1
  have K00 := fun m1 m2 nb => Zbd p 9 hB hl hp0 oM m1 m2 nb
  have K10 := fun m1 nb => Zbd (p + 1) 7 hB hl oM oM m1 true nb
  have K20 := fun m1 nb => Zbd (p + 1 + 1) 8 hB hl oM oM m1 true nb
  have K30 := fun m1 nb => Zbd (p + 1 + 1 + 1) 14 hB hl oM oM m1 true nb
  obtain ⟨C, hC⟩ : ∃ C : Nat, C = (pickV bs (p + 1 + 1 + 1) 14).toNat := ⟨_, rfl⟩
  have hC14 : C ≤ 14 := by omega
  rw [← hcN, ← hC] at K30
  obtain ⟨p1, hp1⟩ : ∃ p1 : Int, p1 = p + 1 + 1 + 1 := ⟨_, rfl⟩
  obtain ⟨p2, hp2⟩ : ∃ p2 : Int, p2 = p1 + 1 + 4 * (C : Int) := ⟨_, rfl⟩
  have hoe := odE_in p2 n
  have ho0 : n = 0 → odV bs p2 n = false := fun h => by unfold odV; rw [h]; rfl
  have hq := Zaz bs (odE p2 n) 4
  have hb := Zaz bs (odE p2 n + 1) 2
  have hok := esAt_ok bs (p1 + 1) hM.1 hM.2
  have KO0 := fun m1 nb => f_odd0 p2 n hn hn2 hB hl oM oM m1 nb
  have KQ0 := fun m1 nb => Zbd (odE p2 n) 4 hB hl oM oM m1 true nb
  have KB0 := fun m1 nb => Zbd (odE p2 n + 1) 2 hB hl oM oM m1 true nb
  have hmv : manyV bs p = dV [pickV bs p 9, 2 + pickV bs (p + 1) 7, 16, 0] (dV [0, 1, 1, 1, 1, 1, 2, 3] (pickV bs (p + 1 + 1) 8)) := rfl
  generalize manyV bs p = M at *
  generalize odV bs p2 n = o at *
  generalize odE p2 n = pe at *
  generalize pickV bs pe 4 = q at *
  generalize pickV bs (pe + 1) 2 = b at *
  generalize pickV bs p 9 = a9 at *
  generalize pickV bs (p + 1) 7 = a7 at *
  generalize pickV bs (p + 1 + 1) 8 = a8 at *
  clear hC hcN hc
  have hgf := ge_facts (C := C) (o := o) (q := q) (b := b) (M := M) (p := p) (p2 := pe) (es := esAt bs (p1 + 1) M C) (fun h => by rw [h]; rfl) hM hb (Za1 (hok C)) oM oM
  refine ⟨geN C o q, geM o q b M, geE o q (esAt bs (p1 + 1) M C), geP o q pe, ⟨hgf.1, hgf.2.1, hgf.2.2.1, hgf.2.2.2.1, hgf.2.2.2.2.1, hgf.2.2.2.2.2, fun h => by rw [ho0 h]; exact hok C⟩, ?_⟩
  clear hgf ho0
  intro m1 m2 nb
  have K0 := K00 m1 m2 nb
  have K1 := K10 m1 nb
  have K2 := K20 m1 nb
  have K3 := K30 m1 nb
  have KO := KO0 m1 nb
  have KQ := KQ0 m1 nb
  have KB := KB0 m1 nb
  clear K00 K10 K20 K30 KO0 KQ0 KB0
  have hw7 : IntKind.i64.wrap (2 + a7) = 2 + a7 := IntWalk.i64_in _ oM
  have ha8 : 0 ≤ dV [0, 1, 1, 1, 1, 1, 2, 3] a8 ∧ dV [0, 1, 1, 1, 1, 1, 2, 3] a8 < 4 := by
    have hc : a8 = 0 ∨ a8 = 1 ∨ a8 = 2 ∨ a8 = 3 ∨ a8 = 4 ∨ a8 = 5 ∨ a8 = 6 ∨ a8 = 7 := by omega
    rcases hc with rfl | rfl | rfl | rfl | rfl | rfl | rfl | rfl <;> simp [dV]
  have hix8 : 0 + (([0, 1, 1, 1, 1, 1, 2, 3] : List Int).getD (0 + a8.toNat) 0).toNat < 4 := by
    have h := ha8
    unfold dV at h
    rw [Nat.zero_add (a8.toNat)]
    omega
  unfold rdH at K0 K1 K2 K3 ⊢
  refine Zad (l := [.cell 4 57]) Try.func66 kRf rfl Try.ntmps66 rfl rfl ?_; simp only [dEnv, Nat.reduceAdd]
  refine Zbk ?_
  repeat' (first|refine wkN ?_|(refine wkB ?_ ?_<;>intro hg_<;>try exact wkX)|fail)
  refine Zbk ?_
  repeat' (first|refine wkN ?_|((first|refine' w_q rfl rfl ?xa rfl ?_|refine' v_q rfl rfl ?xa rfl ?_|refine' Zn rfl rfl (Zb rfl) rfl ?xa rfl ?_|refine' Zo rfl rfl (Zb rfl) rfl ?xa rfl ?_);case xa => first|exact Zap tbOk rfl rfl rfl rfl oM (by show _ < ((8 : Nat) : Int);omega)|exact Zae (xs := [0, 1, 1, 1, 1, 1, 2, 3]) tbOk rfl rfl rfl rfl (by simp only [List.length_cons, List.length_nil];omega)|exact Zap tbOk rfl rfl rfl rfl (by rw [Nat.zero_add];exact ha8.1) (by show _ < ((4 : Nat) : Int);rw [Nat.zero_add];exact ha8.2)|exact Zae (xs := [a9, IntKind.i64.wrap (2 + a7), 16, 0]) tbOk rfl rfl rfl rfl (by exact hix8))|((first|refine' w_e rfl ?xa ?xb ?xc ?xe ?_|refine' v_e rfl ?xa ?xb ?xc ?xe ?_);(case xa => first|exact Zg [] K0 rfl ⟨Zh (Za rfl), asE, trivial⟩ sbH rfl|exact Zg [] K1 rfl ⟨Zh (Za rfl), asE, trivial⟩ sbH rfl|exact Zg [] K2 rfl ⟨Zh (Za rfl), asE, trivial⟩ sbH rfl|exact Zl [.tmp 8, .tmp 11, .const (.int .i64 16), .const (.int .i64 0)] tlOk rfl rfl rfl rfl rfl rfl (Za4 [a9, IntKind.i64.wrap (2 + a7), 16, 0]) (by simp)|exact Zl [.const (.int .i64 0), .const (.int .i64 1), .const (.int .i64 1), .const (.int .i64 1), .const (.int .i64 1), .const (.int .i64 1), .const (.int .i64 2), .const (.int .i64 3)] tlOk rfl rfl rfl rfl rfl rfl (Za4 [0, 1, 1, 1, 1, 1, 2, 3]) (by simp));(case xb|xc|xe=>rfl);try refine wkD ?_)|(refine wkB ?_ ?_<;>intro hg_<;>try exact wkX)|fail)
  obtain ⟨S0, hS0⟩ : ∃ S0 : St, S0 = mkS 72 [(6, .one (.r true (int (C : Int)))), (5, .one (.ptr 5 0 0 0)), (4, .one (.ptr 4 0 0 0)), (1, .one (.r false (int n))), (0, .one (.ptr 1000000000 0 0 0))] [(1000000000, .var 90 [.r m1 (row nb 1 (bys bs)), .r true (int (p1 + 1 + 4 * ((0 : Nat) : Int)))]), (5, .var 57 [.r true (int M), .r true (row true 0 [])]), (4, .var 57 [.r true (int 0), .r true (row true 0 [])])] := ⟨_, rfl⟩
  obtain ⟨S1, hS1⟩ : ∃ S1 : Nat → St, ∀ k : Nat, S1 k = mkS 72 [(6, .one (.r true (int ((C : Int) - ((k + 1 : Nat) : Int))))), (5, .one (.ptr 5 0 0 0)), (4, .one (.ptr 4 0 0 0)), (1, .one (.r false (int n))), (0, .one (.ptr 1000000000 0 0 0))] [(1000000000, .var 90 [.r m1 (row nb 1 (bys bs)), .r true (int (p1 + 1 + 4 * ((k + 1 : Nat) : Int)))]), (5, .var 57 [.r true (int M), .own 100 0 (esAt bs (p1 + 1) M (k + 1)).length 3]), (100, .sl 73 3 true (edges (esAt bs (p1 + 1) M (k + 1)))), (4, .var 57 [.r true (int 0), .r true (row true 0 [])])] := ⟨_, fun _ => rfl⟩
  obtain ⟨F, hF0, hF1⟩ : ∃ F : Nat → St, F 0 = S0 ∧ ∀ k : Nat, F (k + 1) = S1 k := ⟨fun k => Nat.rec S0 (fun k _ => S1 k) k, rfl, fun _ => rfl⟩
  repeat' (first|refine wk ?_|((first|refine' w_e rfl ?xa ?xb ?xc ?xe ?_|refine' v_e rfl ?xa ?xb ?xc ?xe ?_);(case xa => exact Zg [] K3 rfl ⟨Zh (Za rfl), asE, trivial⟩ sbH rfl);(case xb|xc|xe=>rfl);try refine wkD ?_)|(refine wkB ?_ ?_<;>intro hg_<;>try exact wkX)|fail)
  refine Zaa (fun k : Nat => k ≤ C) F (fun k => C - k) 0 (Nat.zero_le _) ?_ ?_
  · rw [hF0, hS0]
    first
      | (refine Zi [] rfl ?_ ?_ <;> repeat' (first|refine wkS ?_ ?_|exact wkE|exact Zt oM|exact gvar2 (Zbm (by rw [hmv, Nat.zero_add, Nat.zero_add, hw7];rfl)) rfl|exact gvar2 rfl (Zbm oM)))
  · intro k hk
    cases k with
    | zero =>
      rw [hF0, hS0]
      by_cases hlt : 0 < C
      · skip
        have KE := f_l20Edge (bs := bs) (p1 + 1 + 4 * (((0 : Nat)) : Int)) M oM hB hl oM oM m1 true nb
        have KA := Zc6 M true (esAt bs (p1 + 1) M 0) (edgV bs (p1 + 1 + 4 * (((0 : Nat)) : Int)) M) (hok 0)
        have hnx : esAt bs (p1 + 1) M (0 + 1) = (addE M (esAt bs (p1 + 1) M 0) (edgV bs (p1 + 1 + 4 * (((0 : Nat)) : Int)) M)).1 := by first|rfl|(rw [esAt];congr 3 <;> omega)
        have hfin : ∀ s' : St, Weak s' (S1 0) → ∃ x', x' ≤ C ∧ Weak s' (F x') ∧ C - x' < C - 0 := fun s' h => ⟨0 + 1, by omega, by rw [hF1]; exact h, by omega⟩
        rw [hS1, hnx] at hfin
        clear hF0 hF1 hS0 hS1 K0 K1 K2 K3 KO KQ KB hnx
        generalize edgV bs (p1 + 1 + 4 * (((0 : Nat)) : Int)) M = e at *
        generalize addE M (esAt bs (p1 + 1) M 0) e = r at *
        rw [show esAt bs (p1 + 1) M 0 = [] from rfl] at KA
        obtain ⟨e1, e2, e3⟩ := e
        obtain ⟨xs, rb⟩ := r
        unfold rdH at *
        dsimp only at KE KA hfin
        repeat' (first|refine wk ?_|((first|refine' w_e rfl ?xa ?xb ?xc ?xe ?_|refine' v_e rfl ?xa ?xb ?xc ?xe ?_);(case xa => first|exact Zg [] KE rfl ⟨Zh (Za rfl), asE, trivial⟩ sbH rfl|exact Zax (ys := [graphP M true [], edgeP (e1, e2, e3)]) [(2000001, 501)] KA rfl rfl ⟨Zq (Za rfl) ⟨Zd, Zav, trivial⟩, Zq (Za rfl) ⟨Zd, Zd, Zd, trivial⟩, trivial⟩ rfl rfl);(case xb|xc|xe=>rfl);try refine wkD ?_)|(refine wkB ?_ ?_<;>intro hg_<;>try exact wkX)|fail)
        all_goals first
          | (refine hfin _ ?_
             (refine Zi [(100, 501)] rfl ?_ ?_ <;> repeat' (first|refine wkS ?_ ?_|exact wkE|exact Zt (by rw [IntWalk.i64_in _ oM] <;> omega)|exact gvar2 rfl (Zbm oM))))
      · skip
        have hes : esAt bs (p1 + 1) M 0 = [] := rfl
        have hrow : (1 : Nat) = 1 := rfl
        have hC0 : C = 0 := by omega
        subst hC0
        subst hp2
        rw [hes]
        clear hF0 hF1 hS0 hS1 K0 K1 K2 K3 hes
        unfold geM geE geP geN
        unfold rdH at *
        cases o
        · (try simp only [Bool.false_eq_true, if_false, if_true, false_and, decide_true, decide_false, Bool.false_and, Bool.not_false, Bool.and_true, Bool.true_and, reduceCtorEq, Nat.add_one_ne_zero])
          repeat' (first|refine wk ?_|((first|refine' w_q rfl rfl ?xa rfl ?_|refine' v_q rfl rfl ?xa rfl ?_|refine' Zn rfl rfl (Zb rfl) rfl ?xa rfl ?_|refine' Zo rfl rfl (Zb rfl) rfl ?xa rfl ?_);case xa => first|exact Zap tbOk rfl rfl rfl rfl oM (by show _ < ((2 : Nat) : Int);omega)|exact Zae (xs := [-1, 17]) tbOk rfl rfl rfl rfl (by simp only [List.length_cons, List.length_nil];omega))|((first|refine' w_e rfl ?xa ?xb ?xc ?xe ?_|refine' v_e rfl ?xa ?xb ?xc ?xe ?_);(case xa => first|exact Zg [] KQ rfl ⟨Zh (Za rfl), asE, trivial⟩ sbH rfl|exact Zg [] KB rfl ⟨Zh (Za rfl), asE, trivial⟩ sbH rfl|exact Zg [] KO rfl ⟨Zh (Za rfl), asE, trivial⟩ sbH rfl|exact Zl [.const (.int .i64 (-1)), .const (.int .i64 17)] tlOk rfl rfl rfl rfl rfl rfl (Za4 [-1, 17]) (by simp)|exact Zl [.tmp 59] tlOk rfl rfl rfl rfl rfl rfl (Zy rfl) (by simp)|exact Zl [.tmp 67] tlOk rfl rfl rfl rfl rfl rfl (Zy rfl) (by simp)|exact Zl [.tmp 41] tlOk rfl rfl rfl rfl rfl rfl (Zy rfl) (by simp)|exact Zas tlOk rfl rfl rfl rfl rfl (Z0 (Zj rfl) rfl) (by simp) (by simp only [maxLen, List.length_cons, List.length_nil];omega) (by simp only [List.length_cons, List.length_nil];omega)|exact Zw tlOk rfl rfl rfl rfl rfl rfl (Z0 (Zj rfl) (by first|rfl|exact hrow)) (by first|rfl|exact hrow) (by simp only [maxLen, List.length_cons, List.length_nil] at *;omega) (by simp only [List.length_cons, List.length_nil] at *;omega)|exact Zw tlOk rfl rfl rfl rfl rfl rfl Zb9 rfl (by simp only [maxLen, List.length_cons, List.length_nil] at *;omega) (by simp only [List.length_cons, List.length_nil] at *;omega));(case xb|xc|xe=>rfl);try refine wkD ?_)|(refine wkB ?_ ?_<;>intro hg_<;>try exact wkX)|fail)
          all_goals first
            | exact Z4 [] rfl sbH (Za3 rfl rfl tyF0 rfl rfl rfl imp_gnil)
            | (refine Zal (s2 := mkS 72 [(4, .one (.ptr 4 0 0 0))] [(4, .var 57 [.r true (int _), .own 100 0 _ 3]), (100, .sl 73 3 true (edges _)), (1000000000, .var 90 [.r m1 (row nb 1 (bys bs)), .r true (int _)])]) ?_ (Zao tyF0);(refine Zi [(100, 61)] rfl ?_ ?_ <;> repeat' (first|refine wkS ?_ ?_|exact wkE|exact gvar2 rfl (Zaj (by first|rfl|(simp only [List.length_cons, List.length_nil, List.length_append, Zp, Nat.zero_add];done)|(simp only [List.length_cons, List.length_nil, List.length_append, Zp, Nat.zero_add] <;> omega)))|exact Zz rfl (by first|rfl|(rw [Zag] <;> rfl))));done)
            | (refine Zal (s2 := mkS 72 [(4, .one (.ptr 4 0 0 0))] [(4, .var 57 [.r true (int _), .own 100 0 _ 3]), (100, .sl 73 3 true (edges _)), (1000000000, .var 90 [.r m1 (row nb 1 (bys bs)), .r true (int _)])]) ?_ (Zao tyF0);(refine Zi [(100, 69)] rfl ?_ ?_ <;> repeat' (first|refine wkS ?_ ?_|exact wkE|exact gvar2 rfl (Zaj (by first|rfl|(simp only [List.length_cons, List.length_nil, List.length_append, Zp, Nat.zero_add];done)|(simp only [List.length_cons, List.length_nil, List.length_append, Zp, Nat.zero_add] <;> omega)))|exact Zz rfl (by first|rfl|(rw [Zag] <;> rfl))));done)
            | (refine Zal (s2 := mkS 72 [(4, .one (.ptr 4 0 0 0))] [(4, .var 57 [.r true (int _), .own 100 0 _ 3]), (100, .sl 73 3 true (edges _)), (1000000000, .var 90 [.r m1 (row nb 1 (bys bs)), .r true (int _)])]) ?_ (Zao tyF0);(refine Zi [(100, 45)] rfl ?_ ?_ <;> repeat' (first|refine wkS ?_ ?_|exact wkE|exact gvar2 rfl (Zaj (by first|rfl|(simp only [List.length_cons, List.length_nil, List.length_append, Zp, Nat.zero_add];done)|(simp only [List.length_cons, List.length_nil, List.length_append, Zp, Nat.zero_add] <;> omega)))|exact Zz rfl (by first|rfl|(rw [Zag] <;> rfl))));done)
        · by_cases q0 : q = 0
          · (try simp only [q0, if_true, and_self, true_and, decide_true, decide_false, Bool.not_true, Bool.and_false, Bool.not_false, Bool.and_true, Bool.true_and, reduceCtorEq, Nat.add_one_ne_zero])
            subst q0
            repeat' (first|refine wk ?_|((first|refine' w_q rfl rfl ?xa rfl ?_|refine' v_q rfl rfl ?xa rfl ?_|refine' Zn rfl rfl (Zb rfl) rfl ?xa rfl ?_|refine' Zo rfl rfl (Zb rfl) rfl ?xa rfl ?_);case xa => first|exact Zap tbOk rfl rfl rfl rfl oM (by show _ < ((2 : Nat) : Int);omega)|exact Zae (xs := [-1, 17]) tbOk rfl rfl rfl rfl (by simp only [List.length_cons, List.length_nil];omega))|((first|refine' w_e rfl ?xa ?xb ?xc ?xe ?_|refine' v_e rfl ?xa ?xb ?xc ?xe ?_);(case xa => first|exact Zg [] KQ rfl ⟨Zh (Za rfl), asE, trivial⟩ sbH rfl|exact Zg [] KB rfl ⟨Zh (Za rfl), asE, trivial⟩ sbH rfl|exact Zg [] KO rfl ⟨Zh (Za rfl), asE, trivial⟩ sbH rfl|exact Zl [.const (.int .i64 (-1)), .const (.int .i64 17)] tlOk rfl rfl rfl rfl rfl rfl (Za4 [-1, 17]) (by simp)|exact Zl [.tmp 59] tlOk rfl rfl rfl rfl rfl rfl (Zy rfl) (by simp)|exact Zl [.tmp 67] tlOk rfl rfl rfl rfl rfl rfl (Zy rfl) (by simp)|exact Zl [.tmp 41] tlOk rfl rfl rfl rfl rfl rfl (Zy rfl) (by simp)|exact Zas tlOk rfl rfl rfl rfl rfl (Z0 (Zj rfl) rfl) (by simp) (by simp only [maxLen, List.length_cons, List.length_nil];omega) (by simp only [List.length_cons, List.length_nil];omega)|exact Zw tlOk rfl rfl rfl rfl rfl rfl (Z0 (Zj rfl) (by first|rfl|exact hrow)) (by first|rfl|exact hrow) (by simp only [maxLen, List.length_cons, List.length_nil] at *;omega) (by simp only [List.length_cons, List.length_nil] at *;omega)|exact Zw tlOk rfl rfl rfl rfl rfl rfl Zb9 rfl (by simp only [maxLen, List.length_cons, List.length_nil] at *;omega) (by simp only [List.length_cons, List.length_nil] at *;omega));(case xb|xc|xe=>rfl);try refine wkD ?_)|(refine wkB ?_ ?_<;>intro hg_<;>try exact wkX)|fail)
            all_goals first
              | (exfalso; omega)
              | (refine Zal (s2 := mkS 72 [(4, .one (.ptr 4 0 0 0))] [(4, .var 57 [.r true (int (dV [-1, 17] b)), .r true (row true 0 [])]), (1000000000, .var 90 [.r m1 (row nb 1 (bys bs)), .r true (int _)])]) ?_ (Z4 [] rfl sbH (Za3 rfl rfl tyF0 rfl rfl rfl imp_gnil));(refine Zi [] rfl ?_ ?_ <;> repeat' (first|refine wkS ?_ ?_|exact wkE|exact gvar2 (Zbm (by rw [Nat.zero_add];rfl)) rfl));done)
              | exact Z4 [] rfl sbH (Za3 rfl rfl tyF0 rfl rfl rfl imp_gnil)
              | (refine Zal (s2 := mkS 72 [(4, .one (.ptr 4 0 0 0))] [(4, .var 57 [.r true (int _), .own 100 0 _ 3]), (100, .sl 73 3 true (edges _)), (1000000000, .var 90 [.r m1 (row nb 1 (bys bs)), .r true (int _)])]) ?_ (Zao tyF0);(refine Zi [(100, 61)] rfl ?_ ?_ <;> repeat' (first|refine wkS ?_ ?_|exact wkE|exact gvar2 rfl (Zaj (by first|rfl|(simp only [List.length_cons, List.length_nil, List.length_append, Zp, Nat.zero_add];done)|(simp only [List.length_cons, List.length_nil, List.length_append, Zp, Nat.zero_add] <;> omega)))|exact Zz rfl (by first|rfl|(rw [Zag] <;> rfl))));done)
              | (refine Zal (s2 := mkS 72 [(4, .one (.ptr 4 0 0 0))] [(4, .var 57 [.r true (int _), .own 100 0 _ 3]), (100, .sl 73 3 true (edges _)), (1000000000, .var 90 [.r m1 (row nb 1 (bys bs)), .r true (int _)])]) ?_ (Zao tyF0);(refine Zi [(100, 69)] rfl ?_ ?_ <;> repeat' (first|refine wkS ?_ ?_|exact wkE|exact gvar2 rfl (Zaj (by first|rfl|(simp only [List.length_cons, List.length_nil, List.length_append, Zp, Nat.zero_add];done)|(simp only [List.length_cons, List.length_nil, List.length_append, Zp, Nat.zero_add] <;> omega)))|exact Zz rfl (by first|rfl|(rw [Zag] <;> rfl))));done)
              | (refine Zal (s2 := mkS 72 [(4, .one (.ptr 4 0 0 0))] [(4, .var 57 [.r true (int _), .own 100 0 _ 3]), (100, .sl 73 3 true (edges _)), (1000000000, .var 90 [.r m1 (row nb 1 (bys bs)), .r true (int _)])]) ?_ (Zao tyF0);(refine Zi [(100, 45)] rfl ?_ ?_ <;> repeat' (first|refine wkS ?_ ?_|exact wkE|exact gvar2 rfl (Zaj (by first|rfl|(simp only [List.length_cons, List.length_nil, List.length_append, Zp, Nat.zero_add];done)|(simp only [List.length_cons, List.length_nil, List.length_append, Zp, Nat.zero_add] <;> omega)))|exact Zz rfl (by first|rfl|(rw [Zag] <;> rfl))));done)
          · by_cases q1 : q = 1
            · subst q1
              (try simp (decide := true) only [if_true, if_false, and_false, true_and, decide_true, decide_false, Bool.not_true, Bool.and_false, Bool.not_false, Bool.and_true, Bool.true_and, reduceCtorEq, Nat.add_one_ne_zero])
              repeat' (first|refine wk ?_|((first|refine' w_q rfl rfl ?xa rfl ?_|refine' v_q rfl rfl ?xa rfl ?_|refine' Zn rfl rfl (Zb rfl) rfl ?xa rfl ?_|refine' Zo rfl rfl (Zb rfl) rfl ?xa rfl ?_);case xa => first|exact Zap tbOk rfl rfl rfl rfl oM (by show _ < ((2 : Nat) : Int);omega)|exact Zae (xs := [-1, 17]) tbOk rfl rfl rfl rfl (by simp only [List.length_cons, List.length_nil];omega))|((first|refine' w_e rfl ?xa ?xb ?xc ?xe ?_|refine' v_e rfl ?xa ?xb ?xc ?xe ?_);(case xa => first|exact Zg [] KQ rfl ⟨Zh (Za rfl), asE, trivial⟩ sbH rfl|exact Zg [] KB rfl ⟨Zh (Za rfl), asE, trivial⟩ sbH rfl|exact Zg [] KO rfl ⟨Zh (Za rfl), asE, trivial⟩ sbH rfl|exact Zl [.const (.int .i64 (-1)), .const (.int .i64 17)] tlOk rfl rfl rfl rfl rfl rfl (Za4 [-1, 17]) (by simp)|exact Zl [.tmp 59] tlOk rfl rfl rfl rfl rfl rfl (Zy rfl) (by simp)|exact Zl [.tmp 67] tlOk rfl rfl rfl rfl rfl rfl (Zy rfl) (by simp)|exact Zl [.tmp 41] tlOk rfl rfl rfl rfl rfl rfl (Zy rfl) (by simp)|exact Zas tlOk rfl rfl rfl rfl rfl (Z0 (Zj rfl) rfl) (by simp) (by simp only [maxLen, List.length_cons, List.length_nil];omega) (by simp only [List.length_cons, List.length_nil];omega)|exact Zw tlOk rfl rfl rfl rfl rfl rfl (Z0 (Zj rfl) (by first|rfl|exact hrow)) (by first|rfl|exact hrow) (by simp only [maxLen, List.length_cons, List.length_nil] at *;omega) (by simp only [List.length_cons, List.length_nil] at *;omega)|exact Zw tlOk rfl rfl rfl rfl rfl rfl Zb9 rfl (by simp only [maxLen, List.length_cons, List.length_nil] at *;omega) (by simp only [List.length_cons, List.length_nil] at *;omega));(case xb|xc|xe=>rfl);try refine wkD ?_)|(refine wkB ?_ ?_<;>intro hg_<;>try exact wkX)|fail)
              all_goals first
                | (exfalso; omega)
                | (refine Zal (s2 := mkS 72 [(4, .one (.ptr 4 0 0 0))] [(4, .var 57 [.r true (int _), .own 100 0 _ 3]), (100, .sl 73 3 true (edges _)), (1000000000, .var 90 [.r m1 (row nb 1 (bys bs)), .r true (int _)])]) ?_ (Zao tyF0);(refine Zi [(100, 61)] rfl ?_ ?_ <;> repeat' (first|refine wkS ?_ ?_|exact wkE|exact gvar2 rfl (Zaj (by first|rfl|(simp only [List.length_cons, List.length_nil, List.length_append, Zp, Nat.zero_add];done)|(simp only [List.length_cons, List.length_nil, List.length_append, Zp, Nat.zero_add] <;> omega)))|exact Zz rfl (by first|rfl|(rw [Zag] <;> rfl))));done)
                | (refine Zal (s2 := mkS 72 [(4, .one (.ptr 4 0 0 0))] [(4, .var 57 [.r true (int _), .own 100 0 _ 3]), (100, .sl 73 3 true (edges _)), (1000000000, .var 90 [.r m1 (row nb 1 (bys bs)), .r true (int _)])]) ?_ (Zao tyF0);(refine Zi [(100, 69)] rfl ?_ ?_ <;> repeat' (first|refine wkS ?_ ?_|exact wkE|exact gvar2 rfl (Zaj (by first|rfl|(simp only [List.length_cons, List.length_nil, List.length_append, Zp, Nat.zero_add];done)|(simp only [List.length_cons, List.length_nil, List.length_append, Zp, Nat.zero_add] <;> omega)))|exact Zz rfl (by first|rfl|(rw [Zag] <;> rfl))));done)
                | (refine Zal (s2 := mkS 72 [(4, .one (.ptr 4 0 0 0))] [(4, .var 57 [.r true (int _), .own 100 0 _ 3]), (100, .sl 73 3 true (edges _)), (1000000000, .var 90 [.r m1 (row nb 1 (bys bs)), .r true (int _)])]) ?_ (Zao tyF0);(refine Zi [(100, 45)] rfl ?_ ?_ <;> repeat' (first|refine wkS ?_ ?_|exact wkE|exact gvar2 rfl (Zaj (by first|rfl|(simp only [List.length_cons, List.length_nil, List.length_append, Zp, Nat.zero_add];done)|(simp only [List.length_cons, List.length_nil, List.length_append, Zp, Nat.zero_add] <;> omega)))|exact Zz rfl (by first|rfl|(rw [Zag] <;> rfl))));done)
            · by_cases q2 : q = 2
              · subst q2
                (try simp (decide := true) only [if_true, if_false, and_false, true_and, decide_true, decide_false, Bool.not_true, Bool.and_false, Bool.not_false, Bool.and_true, Bool.true_and, reduceCtorEq, Nat.add_one_ne_zero])
                repeat' (first|refine wk ?_|((first|refine' w_q rfl rfl ?xa rfl ?_|refine' v_q rfl rfl ?xa rfl ?_|refine' Zn rfl rfl (Zb rfl) rfl ?xa rfl ?_|refine' Zo rfl rfl (Zb rfl) rfl ?xa rfl ?_);case xa => first|exact Zap tbOk rfl rfl rfl rfl oM (by show _ < ((2 : Nat) : Int);omega)|exact Zae (xs := [-1, 17]) tbOk rfl rfl rfl rfl (by simp only [List.length_cons, List.length_nil];omega))|((first|refine' w_e rfl ?xa ?xb ?xc ?xe ?_|refine' v_e rfl ?xa ?xb ?xc ?xe ?_);(case xa => first|exact Zg [] KQ rfl ⟨Zh (Za rfl), asE, trivial⟩ sbH rfl|exact Zg [] KB rfl ⟨Zh (Za rfl), asE, trivial⟩ sbH rfl|exact Zg [] KO rfl ⟨Zh (Za rfl), asE, trivial⟩ sbH rfl|exact Zl [.const (.int .i64 (-1)), .const (.int .i64 17)] tlOk rfl rfl rfl rfl rfl rfl (Za4 [-1, 17]) (by simp)|exact Zl [.tmp 59] tlOk rfl rfl rfl rfl rfl rfl (Zy rfl) (by simp)|exact Zl [.tmp 67] tlOk rfl rfl rfl rfl rfl rfl (Zy rfl) (by simp)|exact Zl [.tmp 41] tlOk rfl rfl rfl rfl rfl rfl (Zy rfl) (by simp)|exact Zas tlOk rfl rfl rfl rfl rfl (Z0 (Zj rfl) rfl) (by simp) (by simp only [maxLen, List.length_cons, List.length_nil];omega) (by simp only [List.length_cons, List.length_nil];omega)|exact Zw tlOk rfl rfl rfl rfl rfl rfl (Z0 (Zj rfl) (by first|rfl|exact hrow)) (by first|rfl|exact hrow) (by simp only [maxLen, List.length_cons, List.length_nil] at *;omega) (by simp only [List.length_cons, List.length_nil] at *;omega)|exact Zw tlOk rfl rfl rfl rfl rfl rfl Zb9 rfl (by simp only [maxLen, List.length_cons, List.length_nil] at *;omega) (by simp only [List.length_cons, List.length_nil] at *;omega));(case xb|xc|xe=>rfl);try refine wkD ?_)|(refine wkB ?_ ?_<;>intro hg_<;>try exact wkX)|fail)
                all_goals first
                  | (exfalso; omega)
                  | (refine Zal (s2 := mkS 72 [(4, .one (.ptr 4 0 0 0))] [(4, .var 57 [.r true (int _), .own 100 0 _ 3]), (100, .sl 73 3 true (edges _)), (1000000000, .var 90 [.r m1 (row nb 1 (bys bs)), .r true (int _)])]) ?_ (Zao tyF0);(refine Zi [(100, 61)] rfl ?_ ?_ <;> repeat' (first|refine wkS ?_ ?_|exact wkE|exact gvar2 rfl (Zaj (by first|rfl|(simp only [List.length_cons, List.length_nil, List.length_append, Zp, Nat.zero_add];done)|(simp only [List.length_cons, List.length_nil, List.length_append, Zp, Nat.zero_add] <;> omega)))|exact Zz rfl (by first|rfl|(rw [Zag] <;> rfl))));done)
                  | (refine Zal (s2 := mkS 72 [(4, .one (.ptr 4 0 0 0))] [(4, .var 57 [.r true (int _), .own 100 0 _ 3]), (100, .sl 73 3 true (edges _)), (1000000000, .var 90 [.r m1 (row nb 1 (bys bs)), .r true (int _)])]) ?_ (Zao tyF0);(refine Zi [(100, 69)] rfl ?_ ?_ <;> repeat' (first|refine wkS ?_ ?_|exact wkE|exact gvar2 rfl (Zaj (by first|rfl|(simp only [List.length_cons, List.length_nil, List.length_append, Zp, Nat.zero_add];done)|(simp only [List.length_cons, List.length_nil, List.length_append, Zp, Nat.zero_add] <;> omega)))|exact Zz rfl (by first|rfl|(rw [Zag] <;> rfl))));done)
                  | (refine Zal (s2 := mkS 72 [(4, .one (.ptr 4 0 0 0))] [(4, .var 57 [.r true (int _), .own 100 0 _ 3]), (100, .sl 73 3 true (edges _)), (1000000000, .var 90 [.r m1 (row nb 1 (bys bs)), .r true (int _)])]) ?_ (Zao tyF0);(refine Zi [(100, 45)] rfl ?_ ?_ <;> repeat' (first|refine wkS ?_ ?_|exact wkE|exact gvar2 rfl (Zaj (by first|rfl|(simp only [List.length_cons, List.length_nil, List.length_append, Zp, Nat.zero_add];done)|(simp only [List.length_cons, List.length_nil, List.length_append, Zp, Nat.zero_add] <;> omega)))|exact Zz rfl (by first|rfl|(rw [Zag] <;> rfl))));done)
              · (try simp only [q0, q1, q2, if_true, if_false, and_false, true_and, decide_true, decide_false, Bool.not_true, Bool.and_false, Bool.not_false, Bool.and_true, Bool.true_and, reduceCtorEq, Nat.add_one_ne_zero])
                repeat' (first|refine wk ?_|((first|refine' w_q rfl rfl ?xa rfl ?_|refine' v_q rfl rfl ?xa rfl ?_|refine' Zn rfl rfl (Zb rfl) rfl ?xa rfl ?_|refine' Zo rfl rfl (Zb rfl) rfl ?xa rfl ?_);case xa => first|exact Zap tbOk rfl rfl rfl rfl oM (by show _ < ((2 : Nat) : Int);omega)|exact Zae (xs := [-1, 17]) tbOk rfl rfl rfl rfl (by simp only [List.length_cons, List.length_nil];omega))|((first|refine' w_e rfl ?xa ?xb ?xc ?xe ?_|refine' v_e rfl ?xa ?xb ?xc ?xe ?_);(case xa => first|exact Zg [] KQ rfl ⟨Zh (Za rfl), asE, trivial⟩ sbH rfl|exact Zg [] KB rfl ⟨Zh (Za rfl), asE, trivial⟩ sbH rfl|exact Zg [] KO rfl ⟨Zh (Za rfl), asE, trivial⟩ sbH rfl|exact Zl [.const (.int .i64 (-1)), .const (.int .i64 17)] tlOk rfl rfl rfl rfl rfl rfl (Za4 [-1, 17]) (by simp)|exact Zl [.tmp 59] tlOk rfl rfl rfl rfl rfl rfl (Zy rfl) (by simp)|exact Zl [.tmp 67] tlOk rfl rfl rfl rfl rfl rfl (Zy rfl) (by simp)|exact Zl [.tmp 41] tlOk rfl rfl rfl rfl rfl rfl (Zy rfl) (by simp)|exact Zas tlOk rfl rfl rfl rfl rfl (Z0 (Zj rfl) rfl) (by simp) (by simp only [maxLen, List.length_cons, List.length_nil];omega) (by simp only [List.length_cons, List.length_nil];omega)|exact Zw tlOk rfl rfl rfl rfl rfl rfl (Z0 (Zj rfl) (by first|rfl|exact hrow)) (by first|rfl|exact hrow) (by simp only [maxLen, List.length_cons, List.length_nil] at *;omega) (by simp only [List.length_cons, List.length_nil] at *;omega)|exact Zw tlOk rfl rfl rfl rfl rfl rfl Zb9 rfl (by simp only [maxLen, List.length_cons, List.length_nil] at *;omega) (by simp only [List.length_cons, List.length_nil] at *;omega));(case xb|xc|xe=>rfl);try refine wkD ?_)|(refine wkB ?_ ?_<;>intro hg_<;>try exact wkX)|fail)
                all_goals first
                  | (exfalso; omega)
                  | (refine Zal (s2 := mkS 72 [(4, .one (.ptr 4 0 0 0))] [(4, .var 57 [.r true (int _), .own 100 0 _ 3]), (100, .sl 73 3 true (edges _)), (1000000000, .var 90 [.r m1 (row nb 1 (bys bs)), .r true (int _)])]) ?_ (Zao tyF0);(refine Zi [(100, 61)] rfl ?_ ?_ <;> repeat' (first|refine wkS ?_ ?_|exact wkE|exact gvar2 rfl (Zaj (by first|rfl|(simp only [List.length_cons, List.length_nil, List.length_append, Zp, Nat.zero_add];done)|(simp only [List.length_cons, List.length_nil, List.length_append, Zp, Nat.zero_add] <;> omega)))|exact Zz rfl (by first|rfl|(rw [Zag] <;> rfl))));done)
                  | (refine Zal (s2 := mkS 72 [(4, .one (.ptr 4 0 0 0))] [(4, .var 57 [.r true (int _), .own 100 0 _ 3]), (100, .sl 73 3 true (edges _)), (1000000000, .var 90 [.r m1 (row nb 1 (bys bs)), .r true (int _)])]) ?_ (Zao tyF0);(refine Zi [(100, 69)] rfl ?_ ?_ <;> repeat' (first|refine wkS ?_ ?_|exact wkE|exact gvar2 rfl (Zaj (by first|rfl|(simp only [List.length_cons, List.length_nil, List.length_append, Zp, Nat.zero_add];done)|(simp only [List.length_cons, List.length_nil, List.length_append, Zp, Nat.zero_add] <;> omega)))|exact Zz rfl (by first|rfl|(rw [Zag] <;> rfl))));done)
                  | (refine Zal (s2 := mkS 72 [(4, .one (.ptr 4 0 0 0))] [(4, .var 57 [.r true (int _), .own 100 0 _ 3]), (100, .sl 73 3 true (edges _)), (1000000000, .var 90 [.r m1 (row nb 1 (bys bs)), .r true (int _)])]) ?_ (Zao tyF0);(refine Zi [(100, 45)] rfl ?_ ?_ <;> repeat' (first|refine wkS ?_ ?_|exact wkE|exact gvar2 rfl (Zaj (by first|rfl|(simp only [List.length_cons, List.length_nil, List.length_append, Zp, Nat.zero_add];done)|(simp only [List.length_cons, List.length_nil, List.length_append, Zp, Nat.zero_add] <;> omega)))|exact Zz rfl (by first|rfl|(rw [Zag] <;> rfl))));done)
    | succ k =>
      rw [hF1, hS1]
      by_cases hlt : k + 1 < C
      · skip
        have KE := f_l20Edge (bs := bs) (p1 + 1 + 4 * (((k + 1 : Nat)) : Int)) M oM hB hl oM oM m1 true nb
        have KA := Zc6 M false (esAt bs (p1 + 1) M (k + 1)) (edgV bs (p1 + 1 + 4 * (((k + 1 : Nat)) : Int)) M) (hok (k + 1))
        have hnx : esAt bs (p1 + 1) M (k + 1 + 1) = (addE M (esAt bs (p1 + 1) M (k + 1)) (edgV bs (p1 + 1 + 4 * (((k + 1 : Nat)) : Int)) M)).1 := by first|rfl|(rw [esAt];congr 3 <;> omega)
        have hfin : ∀ s' : St, Weak s' (S1 (k + 1)) → ∃ x', x' ≤ C ∧ Weak s' (F x') ∧ C - x' < C - (k + 1) := fun s' h => ⟨k + 1 + 1, by omega, by rw [hF1]; exact h, by omega⟩
        rw [hS1, hnx] at hfin
        clear hF0 hF1 hS0 hS1 K0 K1 K2 K3 KO KQ KB hnx
        generalize edgV bs (p1 + 1 + 4 * (((k + 1 : Nat)) : Int)) M = e at *
        generalize addE M (esAt bs (p1 + 1) M (k + 1)) e = r at *
        generalize esAt bs (p1 + 1) M (k + 1) = es at *
        obtain ⟨e1, e2, e3⟩ := e
        obtain ⟨xs, rb⟩ := r
        unfold rdH at *
        dsimp only at KE KA hfin
        repeat' (first|refine wk ?_|((first|refine' w_e rfl ?xa ?xb ?xc ?xe ?_|refine' v_e rfl ?xa ?xb ?xc ?xe ?_);(case xa => first|exact Zg [] KE rfl ⟨Zh (Za rfl), asE, trivial⟩ sbH rfl|exact Zax (ys := [graphP M false es, edgeP (e1, e2, e3)]) [(2000001, 501)] KA rfl rfl ⟨Zq (Za rfl) ⟨Zd, Zaf (Zj rfl) (Zp _).symm, trivial⟩, Zq (Za rfl) ⟨Zd, Zd, Zd, trivial⟩, trivial⟩ rfl rfl);(case xb|xc|xe=>rfl);try refine wkD ?_)|(refine wkB ?_ ?_<;>intro hg_<;>try exact wkX)|fail)
        all_goals first
          | (refine hfin _ ?_
             (refine Zi [(100, 501)] rfl ?_ ?_ <;> repeat' (first|refine wkS ?_ ?_|exact wkE|exact Zt (by rw [IntWalk.i64_in _ oM] <;> omega)|exact gvar2 rfl (Zbm oM))))
      · skip
        have hke : k + 1 = C := by omega
        subst hke
        subst hp2
        have hlen := Za1 (hok (k + 1))
        clear hF0 hF1 hS0 hS1 K0 K1 K2 K3
        generalize esAt bs (p1 + 1) M (k + 1) = es at *
        have hrow := (Zp es).symm
        unfold geM geE geP geN
        unfold rdH at *
        cases o
        · (try simp only [Bool.false_eq_true, if_false, if_true, false_and, decide_true, decide_false, Bool.false_and, Bool.not_false, Bool.and_true, Bool.true_and, reduceCtorEq, Nat.add_one_ne_zero])
          repeat' (first|refine wk ?_|((first|refine' w_q rfl rfl ?xa rfl ?_|refine' v_q rfl rfl ?xa rfl ?_|refine' Zn rfl rfl (Zb rfl) rfl ?xa rfl ?_|refine' Zo rfl rfl (Zb rfl) rfl ?xa rfl ?_);case xa => first|exact Zap tbOk rfl rfl rfl rfl oM (by show _ < ((2 : Nat) : Int);omega)|exact Zae (xs := [-1, 17]) tbOk rfl rfl rfl rfl (by simp only [List.length_cons, List.length_nil];omega))|((first|refine' w_e rfl ?xa ?xb ?xc ?xe ?_|refine' v_e rfl ?xa ?xb ?xc ?xe ?_);(case xa => first|exact Zg [] KQ rfl ⟨Zh (Za rfl), asE, trivial⟩ sbH rfl|exact Zg [] KB rfl ⟨Zh (Za rfl), asE, trivial⟩ sbH rfl|exact Zg [] KO rfl ⟨Zh (Za rfl), asE, trivial⟩ sbH rfl|exact Zl [.const (.int .i64 (-1)), .const (.int .i64 17)] tlOk rfl rfl rfl rfl rfl rfl (Za4 [-1, 17]) (by simp)|exact Zl [.tmp 59] tlOk rfl rfl rfl rfl rfl rfl (Zy rfl) (by simp)|exact Zl [.tmp 67] tlOk rfl rfl rfl rfl rfl rfl (Zy rfl) (by simp)|exact Zl [.tmp 41] tlOk rfl rfl rfl rfl rfl rfl (Zy rfl) (by simp)|exact Zas tlOk rfl rfl rfl rfl rfl (Z0 (Zj rfl) rfl) (by simp) (by simp only [maxLen, List.length_cons, List.length_nil];omega) (by simp only [List.length_cons, List.length_nil];omega)|exact Zw tlOk rfl rfl rfl rfl rfl rfl (Z0 (Zj rfl) (by first|rfl|exact hrow)) (by first|rfl|exact hrow) (by simp only [maxLen, List.length_cons, List.length_nil] at *;omega) (by simp only [List.length_cons, List.length_nil] at *;omega)|exact Zw tlOk rfl rfl rfl rfl rfl rfl Zb9 rfl (by simp only [maxLen, List.length_cons, List.length_nil] at *;omega) (by simp only [List.length_cons, List.length_nil] at *;omega));(case xb|xc|xe=>rfl);try refine wkD ?_)|(refine wkB ?_ ?_<;>intro hg_<;>try exact wkX)|fail)
          all_goals first
            | exact Z4 [] rfl sbH (Za3 rfl rfl tyF0 rfl rfl rfl imp_gnil)
            | (refine Zal (s2 := mkS 72 [(4, .one (.ptr 4 0 0 0))] [(4, .var 57 [.r true (int _), .own 100 0 _ 3]), (100, .sl 73 3 true (edges _)), (1000000000, .var 90 [.r m1 (row nb 1 (bys bs)), .r true (int _)])]) ?_ (Zao tyF0);(refine Zi [(100, 100)] rfl ?_ ?_ <;> repeat' (first|refine wkS ?_ ?_|exact wkE|exact gvar2 rfl (Zaj (by first|rfl|(simp only [List.length_cons, List.length_nil, List.length_append, Zp, Nat.zero_add];done)|(simp only [List.length_cons, List.length_nil, List.length_append, Zp, Nat.zero_add] <;> omega)))|exact Zz rfl (by first|rfl|(rw [Zag] <;> rfl))));done)
            | (refine Zal (s2 := mkS 72 [(4, .one (.ptr 4 0 0 0))] [(4, .var 57 [.r true (int _), .own 100 0 _ 3]), (100, .sl 73 3 true (edges _)), (1000000000, .var 90 [.r m1 (row nb 1 (bys bs)), .r true (int _)])]) ?_ (Zao tyF0);(refine Zi [(100, 61)] rfl ?_ ?_ <;> repeat' (first|refine wkS ?_ ?_|exact wkE|exact gvar2 rfl (Zaj (by first|rfl|(simp only [List.length_cons, List.length_nil, List.length_append, Zp, Nat.zero_add];done)|(simp only [List.length_cons, List.length_nil, List.length_append, Zp, Nat.zero_add] <;> omega)))|exact Zz rfl (by first|rfl|(rw [Zag] <;> rfl))));done)
            | (refine Zal (s2 := mkS 72 [(4, .one (.ptr 4 0 0 0))] [(4, .var 57 [.r true (int _), .own 100 0 _ 3]), (100, .sl 73 3 true (edges _)), (1000000000, .var 90 [.r m1 (row nb 1 (bys bs)), .r true (int _)])]) ?_ (Zao tyF0);(refine Zi [(100, 69)] rfl ?_ ?_ <;> repeat' (first|refine wkS ?_ ?_|exact wkE|exact gvar2 rfl (Zaj (by first|rfl|(simp only [List.length_cons, List.length_nil, List.length_append, Zp, Nat.zero_add];done)|(simp only [List.length_cons, List.length_nil, List.length_append, Zp, Nat.zero_add] <;> omega)))|exact Zz rfl (by first|rfl|(rw [Zag] <;> rfl))));done)
            | (refine Zal (s2 := mkS 72 [(4, .one (.ptr 4 0 0 0))] [(4, .var 57 [.r true (int _), .own 100 0 _ 3]), (100, .sl 73 3 true (edges _)), (1000000000, .var 90 [.r m1 (row nb 1 (bys bs)), .r true (int _)])]) ?_ (Zao tyF0);(refine Zi [(100, 45)] rfl ?_ ?_ <;> repeat' (first|refine wkS ?_ ?_|exact wkE|exact gvar2 rfl (Zaj (by first|rfl|(simp only [List.length_cons, List.length_nil, List.length_append, Zp, Nat.zero_add];done)|(simp only [List.length_cons, List.length_nil, List.length_append, Zp, Nat.zero_add] <;> omega)))|exact Zz rfl (by first|rfl|(rw [Zag] <;> rfl))));done)
        · by_cases q0 : q = 0
          · (try simp only [q0, if_true, and_self, true_and, decide_true, decide_false, Bool.not_true, Bool.and_false, Bool.not_false, Bool.and_true, Bool.true_and, reduceCtorEq, Nat.add_one_ne_zero])
            subst q0
            repeat' (first|refine wk ?_|((first|refine' w_q rfl rfl ?xa rfl ?_|refine' v_q rfl rfl ?xa rfl ?_|refine' Zn rfl rfl (Zb rfl) rfl ?xa rfl ?_|refine' Zo rfl rfl (Zb rfl) rfl ?xa rfl ?_);case xa => first|exact Zap tbOk rfl rfl rfl rfl oM (by show _ < ((2 : Nat) : Int);omega)|exact Zae (xs := [-1, 17]) tbOk rfl rfl rfl rfl (by simp only [List.length_cons, List.length_nil];omega))|((first|refine' w_e rfl ?xa ?xb ?xc ?xe ?_|refine' v_e rfl ?xa ?xb ?xc ?xe ?_);(case xa => first|exact Zg [] KQ rfl ⟨Zh (Za rfl), asE, trivial⟩ sbH rfl|exact Zg [] KB rfl ⟨Zh (Za rfl), asE, trivial⟩ sbH rfl|exact Zg [] KO rfl ⟨Zh (Za rfl), asE, trivial⟩ sbH rfl|exact Zl [.const (.int .i64 (-1)), .const (.int .i64 17)] tlOk rfl rfl rfl rfl rfl rfl (Za4 [-1, 17]) (by simp)|exact Zl [.tmp 59] tlOk rfl rfl rfl rfl rfl rfl (Zy rfl) (by simp)|exact Zl [.tmp 67] tlOk rfl rfl rfl rfl rfl rfl (Zy rfl) (by simp)|exact Zl [.tmp 41] tlOk rfl rfl rfl rfl rfl rfl (Zy rfl) (by simp)|exact Zas tlOk rfl rfl rfl rfl rfl (Z0 (Zj rfl) rfl) (by simp) (by simp only [maxLen, List.length_cons, List.length_nil];omega) (by simp only [List.length_cons, List.length_nil];omega)|exact Zw tlOk rfl rfl rfl rfl rfl rfl (Z0 (Zj rfl) (by first|rfl|exact hrow)) (by first|rfl|exact hrow) (by simp only [maxLen, List.length_cons, List.length_nil] at *;omega) (by simp only [List.length_cons, List.length_nil] at *;omega)|exact Zw tlOk rfl rfl rfl rfl rfl rfl Zb9 rfl (by simp only [maxLen, List.length_cons, List.length_nil] at *;omega) (by simp only [List.length_cons, List.length_nil] at *;omega));(case xb|xc|xe=>rfl);try refine wkD ?_)|(refine wkB ?_ ?_<;>intro hg_<;>try exact wkX)|fail)
            all_goals first
              | (exfalso; omega)
              | (refine Zal (s2 := mkS 72 [(4, .one (.ptr 4 0 0 0))] [(4, .var 57 [.r true (int (dV [-1, 17] b)), .own 100 0 _ 3]), (100, .sl 73 3 true (edges _)), (1000000000, .var 90 [.r m1 (row nb 1 (bys bs)), .r true (int _)])]) ?_ (Zao tyF0);(refine Zi [(100, 100)] rfl ?_ ?_ <;> repeat' (first|refine wkS ?_ ?_|exact wkE|exact gvar2 (Zbm (by rw [Nat.zero_add];rfl)) (Zaj rfl)));done)
              | exact Z4 [] rfl sbH (Za3 rfl rfl tyF0 rfl rfl rfl imp_gnil)
              | (refine Zal (s2 := mkS 72 [(4, .one (.ptr 4 0 0 0))] [(4, .var 57 [.r true (int _), .own 100 0 _ 3]), (100, .sl 73 3 true (edges _)), (1000000000, .var 90 [.r m1 (row nb 1 (bys bs)), .r true (int _)])]) ?_ (Zao tyF0);(refine Zi [(100, 100)] rfl ?_ ?_ <;> repeat' (first|refine wkS ?_ ?_|exact wkE|exact gvar2 rfl (Zaj (by first|rfl|(simp only [List.length_cons, List.length_nil, List.length_append, Zp, Nat.zero_add];done)|(simp only [List.length_cons, List.length_nil, List.length_append, Zp, Nat.zero_add] <;> omega)))|exact Zz rfl (by first|rfl|(rw [Zag] <;> rfl))));done)
              | (refine Zal (s2 := mkS 72 [(4, .one (.ptr 4 0 0 0))] [(4, .var 57 [.r true (int _), .own 100 0 _ 3]), (100, .sl 73 3 true (edges _)), (1000000000, .var 90 [.r m1 (row nb 1 (bys bs)), .r true (int _)])]) ?_ (Zao tyF0);(refine Zi [(100, 61)] rfl ?_ ?_ <;> repeat' (first|refine wkS ?_ ?_|exact wkE|exact gvar2 rfl (Zaj (by first|rfl|(simp only [List.length_cons, List.length_nil, List.length_append, Zp, Nat.zero_add];done)|(simp only [List.length_cons, List.length_nil, List.length_append, Zp, Nat.zero_add] <;> omega)))|exact Zz rfl (by first|rfl|(rw [Zag] <;> rfl))));done)
              | (refine Zal (s2 := mkS 72 [(4, .one (.ptr 4 0 0 0))] [(4, .var 57 [.r true (int _), .own 100 0 _ 3]), (100, .sl 73 3 true (edges _)), (1000000000, .var 90 [.r m1 (row nb 1 (bys bs)), .r true (int _)])]) ?_ (Zao tyF0);(refine Zi [(100, 69)] rfl ?_ ?_ <;> repeat' (first|refine wkS ?_ ?_|exact wkE|exact gvar2 rfl (Zaj (by first|rfl|(simp only [List.length_cons, List.length_nil, List.length_append, Zp, Nat.zero_add];done)|(simp only [List.length_cons, List.length_nil, List.length_append, Zp, Nat.zero_add] <;> omega)))|exact Zz rfl (by first|rfl|(rw [Zag] <;> rfl))));done)
              | (refine Zal (s2 := mkS 72 [(4, .one (.ptr 4 0 0 0))] [(4, .var 57 [.r true (int _), .own 100 0 _ 3]), (100, .sl 73 3 true (edges _)), (1000000000, .var 90 [.r m1 (row nb 1 (bys bs)), .r true (int _)])]) ?_ (Zao tyF0);(refine Zi [(100, 45)] rfl ?_ ?_ <;> repeat' (first|refine wkS ?_ ?_|exact wkE|exact gvar2 rfl (Zaj (by first|rfl|(simp only [List.length_cons, List.length_nil, List.length_append, Zp, Nat.zero_add];done)|(simp only [List.length_cons, List.length_nil, List.length_append, Zp, Nat.zero_add] <;> omega)))|exact Zz rfl (by first|rfl|(rw [Zag] <;> rfl))));done)
          · by_cases q1 : q = 1
            · subst q1
              (try simp (decide := true) only [if_true, if_false, and_false, true_and, decide_true, decide_false, Bool.not_true, Bool.and_false, Bool.not_false, Bool.and_true, Bool.true_and, reduceCtorEq, Nat.add_one_ne_zero])
              repeat' (first|refine wk ?_|((first|refine' w_q rfl rfl ?xa rfl ?_|refine' v_q rfl rfl ?xa rfl ?_|refine' Zn rfl rfl (Zb rfl) rfl ?xa rfl ?_|refine' Zo rfl rfl (Zb rfl) rfl ?xa rfl ?_);case xa => first|exact Zap tbOk rfl rfl rfl rfl oM (by show _ < ((2 : Nat) : Int);omega)|exact Zae (xs := [-1, 17]) tbOk rfl rfl rfl rfl (by simp only [List.length_cons, List.length_nil];omega))|((first|refine' w_e rfl ?xa ?xb ?xc ?xe ?_|refine' v_e rfl ?xa ?xb ?xc ?xe ?_);(case xa => first|exact Zg [] KQ rfl ⟨Zh (Za rfl), asE, trivial⟩ sbH rfl|exact Zg [] KB rfl ⟨Zh (Za rfl), asE, trivial⟩ sbH rfl|exact Zg [] KO rfl ⟨Zh (Za rfl), asE, trivial⟩ sbH rfl|exact Zl [.const (.int .i64 (-1)), .const (.int .i64 17)] tlOk rfl rfl rfl rfl rfl rfl (Za4 [-1, 17]) (by simp)|exact Zl [.tmp 59] tlOk rfl rfl rfl rfl rfl rfl (Zy rfl) (by simp)|exact Zl [.tmp 67] tlOk rfl rfl rfl rfl rfl rfl (Zy rfl) (by simp)|exact Zl [.tmp 41] tlOk rfl rfl rfl rfl rfl rfl (Zy rfl) (by simp)|exact Zas tlOk rfl rfl rfl rfl rfl (Z0 (Zj rfl) rfl) (by simp) (by simp only [maxLen, List.length_cons, List.length_nil];omega) (by simp only [List.length_cons, List.length_nil];omega)|exact Zw tlOk rfl rfl rfl rfl rfl rfl (Z0 (Zj rfl) (by first|rfl|exact hrow)) (by first|rfl|exact hrow) (by simp only [maxLen, List.length_cons, List.length_nil] at *;omega) (by simp only [List.length_cons, List.length_nil] at *;omega)|exact Zw tlOk rfl rfl rfl rfl rfl rfl Zb9 rfl (by simp only [maxLen, List.length_cons, List.length_nil] at *;omega) (by simp only [List.length_cons, List.length_nil] at *;omega));(case xb|xc|xe=>rfl);try refine wkD ?_)|(refine wkB ?_ ?_<;>intro hg_<;>try exact wkX)|fail)
              all_goals first
                | (exfalso; omega)
                | (refine Zal (s2 := mkS 72 [(4, .one (.ptr 4 0 0 0))] [(4, .var 57 [.r true (int _), .own 100 0 _ 3]), (100, .sl 73 3 true (edges _)), (1000000000, .var 90 [.r m1 (row nb 1 (bys bs)), .r true (int _)])]) ?_ (Zao tyF0);(refine Zi [(100, 100)] rfl ?_ ?_ <;> repeat' (first|refine wkS ?_ ?_|exact wkE|exact gvar2 rfl (Zaj (by first|rfl|(simp only [List.length_cons, List.length_nil, List.length_append, Zp, Nat.zero_add];done)|(simp only [List.length_cons, List.length_nil, List.length_append, Zp, Nat.zero_add] <;> omega)))|exact Zz rfl (by first|rfl|(rw [Zag] <;> rfl))));done)
                | (refine Zal (s2 := mkS 72 [(4, .one (.ptr 4 0 0 0))] [(4, .var 57 [.r true (int _), .own 100 0 _ 3]), (100, .sl 73 3 true (edges _)), (1000000000, .var 90 [.r m1 (row nb 1 (bys bs)), .r true (int _)])]) ?_ (Zao tyF0);(refine Zi [(100, 61)] rfl ?_ ?_ <;> repeat' (first|refine wkS ?_ ?_|exact wkE|exact gvar2 rfl (Zaj (by first|rfl|(simp only [List.length_cons, List.length_nil, List.length_append, Zp, Nat.zero_add];done)|(simp only [List.length_cons, List.length_nil, List.length_append, Zp, Nat.zero_add] <;> omega)))|exact Zz rfl (by first|rfl|(rw [Zag] <;> rfl))));done)
                | (refine Zal (s2 := mkS 72 [(4, .one (.ptr 4 0 0 0))] [(4, .var 57 [.r true (int _), .own 100 0 _ 3]), (100, .sl 73 3 true (edges _)), (1000000000, .var 90 [.r m1 (row nb 1 (bys bs)), .r true (int _)])]) ?_ (Zao tyF0);(refine Zi [(100, 69)] rfl ?_ ?_ <;> repeat' (first|refine wkS ?_ ?_|exact wkE|exact gvar2 rfl (Zaj (by first|rfl|(simp only [List.length_cons, List.length_nil, List.length_append, Zp, Nat.zero_add];done)|(simp only [List.length_cons, List.length_nil, List.length_append, Zp, Nat.zero_add] <;> omega)))|exact Zz rfl (by first|rfl|(rw [Zag] <;> rfl))));done)
                | (refine Zal (s2 := mkS 72 [(4, .one (.ptr 4 0 0 0))] [(4, .var 57 [.r true (int _), .own 100 0 _ 3]), (100, .sl 73 3 true (edges _)), (1000000000, .var 90 [.r m1 (row nb 1 (bys bs)), .r true (int _)])]) ?_ (Zao tyF0);(refine Zi [(100, 45)] rfl ?_ ?_ <;> repeat' (first|refine wkS ?_ ?_|exact wkE|exact gvar2 rfl (Zaj (by first|rfl|(simp only [List.length_cons, List.length_nil, List.length_append, Zp, Nat.zero_add];done)|(simp only [List.length_cons, List.length_nil, List.length_append, Zp, Nat.zero_add] <;> omega)))|exact Zz rfl (by first|rfl|(rw [Zag] <;> rfl))));done)
                | (refine Zal (s2 := mkS 72 [(4, .one (.ptr 4 0 0 0))] [(4, .var 57 [.r true (int _), .own 100 0 _ 3]), (100, .sl 73 3 true (edges _)), (1000000000, .var 90 [.r m1 (row nb 1 (bys bs)), .r true (int _)])]) ?_ (Zao tyF0);(refine Zi [(100, 61)] rfl ?_ ?_ <;> repeat' (first|refine wkS ?_ ?_|exact wkE|exact gvar2 rfl (Zaj (by first|rfl|(simp only [List.length_cons, List.length_nil, List.length_append, Zp, Nat.zero_add];done)|(simp only [List.length_cons, List.length_nil, List.length_append, Zp, Nat.zero_add] <;> omega)))|exact Zz rfl (by first|rfl|(rw [Zag] <;> rfl))));done)
            · by_cases q2 : q = 2
              · subst q2
                (try simp (decide := true) only [if_true, if_false, and_false, true_and, decide_true, decide_false, Bool.not_true, Bool.and_false, Bool.not_false, Bool.and_true, Bool.true_and, reduceCtorEq, Nat.add_one_ne_zero])
                repeat' (first|refine wk ?_|((first|refine' w_q rfl rfl ?xa rfl ?_|refine' v_q rfl rfl ?xa rfl ?_|refine' Zn rfl rfl (Zb rfl) rfl ?xa rfl ?_|refine' Zo rfl rfl (Zb rfl) rfl ?xa rfl ?_);case xa => first|exact Zap tbOk rfl rfl rfl rfl oM (by show _ < ((2 : Nat) : Int);omega)|exact Zae (xs := [-1, 17]) tbOk rfl rfl rfl rfl (by simp only [List.length_cons, List.length_nil];omega))|((first|refine' w_e rfl ?xa ?xb ?xc ?xe ?_|refine' v_e rfl ?xa ?xb ?xc ?xe ?_);(case xa => first|exact Zg [] KQ rfl ⟨Zh (Za rfl), asE, trivial⟩ sbH rfl|exact Zg [] KB rfl ⟨Zh (Za rfl), asE, trivial⟩ sbH rfl|exact Zg [] KO rfl ⟨Zh (Za rfl), asE, trivial⟩ sbH rfl|exact Zl [.const (.int .i64 (-1)), .const (.int .i64 17)] tlOk rfl rfl rfl rfl rfl rfl (Za4 [-1, 17]) (by simp)|exact Zl [.tmp 59] tlOk rfl rfl rfl rfl rfl rfl (Zy rfl) (by simp)|exact Zl [.tmp 67] tlOk rfl rfl rfl rfl rfl rfl (Zy rfl) (by simp)|exact Zl [.tmp 41] tlOk rfl rfl rfl rfl rfl rfl (Zy rfl) (by simp)|exact Zas tlOk rfl rfl rfl rfl rfl (Z0 (Zj rfl) rfl) (by simp) (by simp only [maxLen, List.length_cons, List.length_nil];omega) (by simp only [List.length_cons, List.length_nil];omega)|exact Zw tlOk rfl rfl rfl rfl rfl rfl (Z0 (Zj rfl) (by first|rfl|exact hrow)) (by first|rfl|exact hrow) (by simp only [maxLen, List.length_cons, List.length_nil] at *;omega) (by simp only [List.length_cons, List.length_nil] at *;omega)|exact Zw tlOk rfl rfl rfl rfl rfl rfl Zb9 rfl (by simp only [maxLen, List.length_cons, List.length_nil] at *;omega) (by simp only [List.length_cons, List.length_nil] at *;omega));(case xb|xc|xe=>rfl);try refine wkD ?_)|(refine wkB ?_ ?_<;>intro hg_<;>try exact wkX)|fail)
                all_goals first
                  | (exfalso; omega)
                  | (refine Zal (s2 := mkS 72 [(4, .one (.ptr 4 0 0 0))] [(4, .var 57 [.r true (int _), .own 100 0 _ 3]), (100, .sl 73 3 true (edges _)), (1000000000, .var 90 [.r m1 (row nb 1 (bys bs)), .r true (int _)])]) ?_ (Zao tyF0);(refine Zi [(100, 100)] rfl ?_ ?_ <;> repeat' (first|refine wkS ?_ ?_|exact wkE|exact gvar2 rfl (Zaj (by first|rfl|(simp only [List.length_cons, List.length_nil, List.length_append, Zp, Nat.zero_add];done)|(simp only [List.length_cons, List.length_nil, List.length_append, Zp, Nat.zero_add] <;> omega)))|exact Zz rfl (by first|rfl|(rw [Zag] <;> rfl))));done)
                  | (refine Zal (s2 := mkS 72 [(4, .one (.ptr 4 0 0 0))] [(4, .var 57 [.r true (int _), .own 100 0 _ 3]), (100, .sl 73 3 true (edges _)), (1000000000, .var 90 [.r m1 (row nb 1 (bys bs)), .r true (int _)])]) ?_ (Zao tyF0);(refine Zi [(100, 61)] rfl ?_ ?_ <;> repeat' (first|refine wkS ?_ ?_|exact wkE|exact gvar2 rfl (Zaj (by first|rfl|(simp only [List.length_cons, List.length_nil, List.length_append, Zp, Nat.zero_add];done)|(simp only [List.length_cons, List.length_nil, List.length_append, Zp, Nat.zero_add] <;> omega)))|exact Zz rfl (by first|rfl|(rw [Zag] <;> rfl))));done)
                  | (refine Zal (s2 := mkS 72 [(4, .one (.ptr 4 0 0 0))] [(4, .var 57 [.r true (int _), .own 100 0 _ 3]), (100, .sl 73 3 true (edges _)), (1000000000, .var 90 [.r m1 (row nb 1 (bys bs)), .r true (int _)])]) ?_ (Zao tyF0);(refine Zi [(100, 69)] rfl ?_ ?_ <;> repeat' (first|refine wkS ?_ ?_|exact wkE|exact gvar2 rfl (Zaj (by first|rfl|(simp only [List.length_cons, List.length_nil, List.length_append, Zp, Nat.zero_add];done)|(simp only [List.length_cons, List.length_nil, List.length_append, Zp, Nat.zero_add] <;> omega)))|exact Zz rfl (by first|rfl|(rw [Zag] <;> rfl))));done)
                  | (refine Zal (s2 := mkS 72 [(4, .one (.ptr 4 0 0 0))] [(4, .var 57 [.r true (int _), .own 100 0 _ 3]), (100, .sl 73 3 true (edges _)), (1000000000, .var 90 [.r m1 (row nb 1 (bys bs)), .r true (int _)])]) ?_ (Zao tyF0);(refine Zi [(100, 45)] rfl ?_ ?_ <;> repeat' (first|refine wkS ?_ ?_|exact wkE|exact gvar2 rfl (Zaj (by first|rfl|(simp only [List.length_cons, List.length_nil, List.length_append, Zp, Nat.zero_add];done)|(simp only [List.length_cons, List.length_nil, List.length_append, Zp, Nat.zero_add] <;> omega)))|exact Zz rfl (by first|rfl|(rw [Zag] <;> rfl))));done)
                  | (refine Zal (s2 := mkS 72 [(4, .one (.ptr 4 0 0 0))] [(4, .var 57 [.r true (int _), .own 100 0 _ 3]), (100, .sl 73 3 true (edges _)), (1000000000, .var 90 [.r m1 (row nb 1 (bys bs)), .r true (int _)])]) ?_ (Zao tyF0);(refine Zi [(100, 69)] rfl ?_ ?_ <;> repeat' (first|refine wkS ?_ ?_|exact wkE|exact gvar2 rfl (Zaj (by first|rfl|(simp only [List.length_cons, List.length_nil, List.length_append, Zp, Nat.zero_add];done)|(simp only [List.length_cons, List.length_nil, List.length_append, Zp, Nat.zero_add] <;> omega)))|exact Zz rfl (by first|rfl|(rw [Zag] <;> rfl))));done)
              · (try simp only [q0, q1, q2, if_true, if_false, and_false, true_and, decide_true, decide_false, Bool.not_true, Bool.and_false, Bool.not_false, Bool.and_true, Bool.true_and, reduceCtorEq, Nat.add_one_ne_zero])
                repeat' (first|refine wk ?_|((first|refine' w_q rfl rfl ?xa rfl ?_|refine' v_q rfl rfl ?xa rfl ?_|refine' Zn rfl rfl (Zb rfl) rfl ?xa rfl ?_|refine' Zo rfl rfl (Zb rfl) rfl ?xa rfl ?_);case xa => first|exact Zap tbOk rfl rfl rfl rfl oM (by show _ < ((2 : Nat) : Int);omega)|exact Zae (xs := [-1, 17]) tbOk rfl rfl rfl rfl (by simp only [List.length_cons, List.length_nil];omega))|((first|refine' w_e rfl ?xa ?xb ?xc ?xe ?_|refine' v_e rfl ?xa ?xb ?xc ?xe ?_);(case xa => first|exact Zg [] KQ rfl ⟨Zh (Za rfl), asE, trivial⟩ sbH rfl|exact Zg [] KB rfl ⟨Zh (Za rfl), asE, trivial⟩ sbH rfl|exact Zg [] KO rfl ⟨Zh (Za rfl), asE, trivial⟩ sbH rfl|exact Zl [.const (.int .i64 (-1)), .const (.int .i64 17)] tlOk rfl rfl rfl rfl rfl rfl (Za4 [-1, 17]) (by simp)|exact Zl [.tmp 59] tlOk rfl rfl rfl rfl rfl rfl (Zy rfl) (by simp)|exact Zl [.tmp 67] tlOk rfl rfl rfl rfl rfl rfl (Zy rfl) (by simp)|exact Zl [.tmp 41] tlOk rfl rfl rfl rfl rfl rfl (Zy rfl) (by simp)|exact Zas tlOk rfl rfl rfl rfl rfl (Z0 (Zj rfl) rfl) (by simp) (by simp only [maxLen, List.length_cons, List.length_nil];omega) (by simp only [List.length_cons, List.length_nil];omega)|exact Zw tlOk rfl rfl rfl rfl rfl rfl (Z0 (Zj rfl) (by first|rfl|exact hrow)) (by first|rfl|exact hrow) (by simp only [maxLen, List.length_cons, List.length_nil] at *;omega) (by simp only [List.length_cons, List.length_nil] at *;omega)|exact Zw tlOk rfl rfl rfl rfl rfl rfl Zb9 rfl (by simp only [maxLen, List.length_cons, List.length_nil] at *;omega) (by simp only [List.length_cons, List.length_nil] at *;omega));(case xb|xc|xe=>rfl);try refine wkD ?_)|(refine wkB ?_ ?_<;>intro hg_<;>try exact wkX)|fail)
                all_goals first
                  | (exfalso; omega)
                  | (refine Zal (s2 := mkS 72 [(4, .one (.ptr 4 0 0 0))] [(4, .var 57 [.r true (int _), .own 100 0 _ 3]), (100, .sl 73 3 true (edges _)), (1000000000, .var 90 [.r m1 (row nb 1 (bys bs)), .r true (int _)])]) ?_ (Zao tyF0);(refine Zi [(100, 100)] rfl ?_ ?_ <;> repeat' (first|refine wkS ?_ ?_|exact wkE|exact gvar2 rfl (Zaj (by first|rfl|(simp only [List.length_cons, List.length_nil, List.length_append, Zp, Nat.zero_add];done)|(simp only [List.length_cons, List.length_nil, List.length_append, Zp, Nat.zero_add] <;> omega)))|exact Zz rfl (by first|rfl|(rw [Zag] <;> rfl))));done)
                  | (refine Zal (s2 := mkS 72 [(4, .one (.ptr 4 0 0 0))] [(4, .var 57 [.r true (int _), .own 100 0 _ 3]), (100, .sl 73 3 true (edges _)), (1000000000, .var 90 [.r m1 (row nb 1 (bys bs)), .r true (int _)])]) ?_ (Zao tyF0);(refine Zi [(100, 61)] rfl ?_ ?_ <;> repeat' (first|refine wkS ?_ ?_|exact wkE|exact gvar2 rfl (Zaj (by first|rfl|(simp only [List.length_cons, List.length_nil, List.length_append, Zp, Nat.zero_add];done)|(simp only [List.length_cons, List.length_nil, List.length_append, Zp, Nat.zero_add] <;> omega)))|exact Zz rfl (by first|rfl|(rw [Zag] <;> rfl))));done)
                  | (refine Zal (s2 := mkS 72 [(4, .one (.ptr 4 0 0 0))] [(4, .var 57 [.r true (int _), .own 100 0 _ 3]), (100, .sl 73 3 true (edges _)), (1000000000, .var 90 [.r m1 (row nb 1 (bys bs)), .r true (int _)])]) ?_ (Zao tyF0);(refine Zi [(100, 69)] rfl ?_ ?_ <;> repeat' (first|refine wkS ?_ ?_|exact wkE|exact gvar2 rfl (Zaj (by first|rfl|(simp only [List.length_cons, List.length_nil, List.length_append, Zp, Nat.zero_add];done)|(simp only [List.length_cons, List.length_nil, List.length_append, Zp, Nat.zero_add] <;> omega)))|exact Zz rfl (by first|rfl|(rw [Zag] <;> rfl))));done)
                  | (refine Zal (s2 := mkS 72 [(4, .one (.ptr 4 0 0 0))] [(4, .var 57 [.r true (int _), .own 100 0 _ 3]), (100, .sl 73 3 true (edges _)), (1000000000, .var 90 [.r m1 (row nb 1 (bys bs)), .r true (int _)])]) ?_ (Zao tyF0);(refine Zi [(100, 45)] rfl ?_ ?_ <;> repeat' (first|refine wkS ?_ ?_|exact wkE|exact gvar2 rfl (Zaj (by first|rfl|(simp only [List.length_cons, List.length_nil, List.length_append, Zp, Nat.zero_add];done)|(simp only [List.length_cons, List.length_nil, List.length_append, Zp, Nat.zero_add] <;> omega)))|exact Zz rfl (by first|rfl|(rw [Zag] <;> rfl))));done)
theorem byte_take2 {bs : List Int} (h : Byte bs) (n : Nat) : Byte (bs.take n):=fun z hz=>h z (List.mem_of_mem_take hz)
end Go.Proofs.Ytmkijbfiilpccaa.Abs
