/- Draws of tasks by states: dense graphs, a graph and a program, messages. No statement of the seat is proved here. -/
import Derived.Lib.Hide
import Derived.Test.YtmkijbfiilpccaaLaTy
import Derived.Test.YtmkijbfiilpccaaLaAGrH
import Derived.Test.YtmkijbfiilpccaaLaADrP
set_option linter.unusedSimpArgs false
set_option linter.unusedVariables false
set_option maxRecDepth 100000
set_option maxHeartbeats 16000000
namespace Go.Proofs.Ytmkijbfiilpccaa.Abs
open Go.RowKit
open R (val row ref)
theorem fin_graphQ {P : Program} {n T : Nat} {m' : Int} {es' : List E3} {E0 : TypeId} {f1 f2 : Bool} {x1 x2 : R} (hT : tyOf P T = some (true,2)) : (Exit.ret = Exit.ret ∨ Exit.ret = Exit.normal) ∧ ∃ s2,Weak (mkS n [(2,.one (.ptr 2 0 0 0))] [(2,.var 57 [.r true (int m'),.own 100 0 es'.length 3]),(100,.sl 73 3 true (edges es')),(1000000000,.var E0 [.r f1 x1,.r f2 x2])]) s2 ∧ ∃ ρ,EndD P s2 [.cell 2 T] ρ (.agg [.r true (int m'),.r true (row false 3 (edges es'))]) [(1000000000,.var E0 [.r f1 x1,.r f2 x2])]:=by
 have hb : Nat.ble (0 + es'.length) (edges es').length = true:=by rw [Zp]; simp
 have ht : ((edges es').drop 0).take es'.length = edges es':=by rw [List.drop_zero,List.take_of_length_le (by rw [Zp]; exact Nat.le_refl _)]
 have hw:=Za9 (n:=n) (l:=[(2,.one (.ptr 2 0 0 0))]) (h:=[(2,.var 57 [.r true (int m'),.own 100 0 es'.length 3]),(100,.sl 73 3 true (edges es')),(1000000000,.var E0 [.r f1 x1,.r f2 x2])]) 100 rfl
 have e1 : frL 100 3 true (edges es') [(2,.one (.ptr 2 0 0 0))] = [(2,.one (.ptr 2 0 0 0))]:=rfl
 have e2 : frH 100 3 true (edges es') [(2,.var 57 [.r true (int m'),.own 100 0 es'.length 3]),(100,.sl 73 3 true (edges es')),(1000000000,.var E0 [.r f1 x1,.r f2 x2])] = [(2,.var 57 [.r true (int m'),.r true (row false 3 (edges es'))]),(1000000000,.var E0 [.r f1 x1,.r f2 x2])]:=by
  have e3 : frC 100 3 true (edges es') (.own 100 0 es'.length 3) = .r true (row false 3 (edges es')):=by
   show (bif Nat.beq 100 100 then (bif Nat.beq 3 3 && Nat.ble (0 + es'.length) (edges es').length then Cell.r true (row false 3 (((edges es').drop 0).take es'.length)) else .any) else .own 100 0 es'.length 3) = _
   rw [hb,ht]; rfl
  show [(2,Ob.var _ [Cell.r true (int m'),frC 100 3 true (edges es') (.own 100 0 es'.length 3)]),(1000000000,Ob.var E0 [Cell.r f1 x1,Cell.r f2 x2])] = _
  rw [e3]
 rw [e1,e2] at hw
 exact Zal hw (Z4 [] rfl sbH (Za3 rfl rfl hT rfl rfl rfl (Zac rfl)))
theorem l20Dense_ex (bs : List Int) (p : Int) (hB : Byte bs) (hl : bs.length ≤ 2000) (hp0 : 0 ≤ p) (hp : p ≤ 800000) :
    ∃ (m : Int) (es : List E3) (p' : Int), (1 ≤ m ∧ m ≤ 7 ∧ es.length ≤ 41 ∧ p ≤ p' ∧ p' ≤ p + 100) ∧ ∀ m1 m2 nb, FnS Try.prog 68 [.one (.ptr 1000000000 0 0 0)] (rdH 1000000000 m1 m2 nb bs p) (.agg [.r true (int m), .r true (row false 3 (edges es))]) (rdH 1000000000 m1 true nb bs p') := by
  have hM := Zaz bs p 5
  have hc := Zaz bs (p + 1) 16
  have K00 := fun m1 m2 nb => Zbd p 5 hB hl hp0 oM m1 m2 nb
  have K10 := fun m1 nb => Zbd (p + 1) 16 hB hl oM oM m1 true nb
  have hcN : ((pickV bs (p + 1) 16).toNat : Int) = pickV bs (p + 1) 16 := Int.toNat_of_nonneg hc.1
  generalize hCC : (pickV bs (p + 1) 16).toNat = C0 at *
  rw [← hcN] at K10
  have hC16 : C0 ≤ 15 := by omega
  clear hCC
  obtain ⟨M, hMM⟩ : ∃ M, M = 3 + pickV bs p 5 := ⟨_, rfl⟩
  have hwM : IntKind.i64.wrap (3 + pickV bs p 5) = M := by rw [IntWalk.i64_in _ oM]; exact hMM.symm
  have hM1 : 3 ≤ M ∧ M ≤ 7 := by omega
  generalize pickV bs p 5 = a5 at *
  obtain ⟨C, hC⟩ : ∃ C, C = C0 + 6 := ⟨_, rfl⟩
  have hwC : IntKind.i64.wrap (6 + (C0 : Int)) = (C : Int) := by rw [IntWalk.i64_in _ oM]; omega
  have hok := fun i => esAt_ok bs (p + 1 + 1) (by omega : 0 ≤ M) (by omega : M ≤ 16) i
  have hel := Za1 (hok C)
  have KO0 := fun m1 nb => f_odd (bs := bs) (p + 1 + 1 + 4 * (C : Int)) 12 oM oM hB hl oM oM m1 true nb
  generalize oddV bs (p + 1 + 1 + 4 * (C : Int)) 12 = o at *
  refine ⟨if o then 1 else M, esAt bs (p + 1 + 1) M C, p + 1 + 1 + 4 * (C : Int) + 1, ⟨by split <;> omega, by split <;> omega, by omega, by omega, by omega⟩, ?_⟩
  intro m1 m2 nb
  have K0 := K00 m1 m2 nb
  have K1 := K10 m1 nb
  have KO := KO0 m1 nb
  clear K00 K10 KO0 hM hc hMM hcN
  unfold rdH at K0 K1 KO ⊢
  obtain ⟨S0, hS0⟩ : ∃ S0 : St, S0 = mkS 29 [(4, .one (.r true (int (C : Int)))), (3, .one (.ptr 3 0 0 0)), (2, .one (.ptr 2 0 0 0)), (0, .one (.ptr 1000000000 0 0 0))] [(1000000000, .var 90 [.r m1 (row nb 1 (bys bs)), .r true (int (p + 1 + 1 + 4 * ((0 : Nat) : Int)))]), (3, .var 57 [.r true (int M), .r true (row true 0 [])]), (2, .var 57 [.r true (int 0), .r true (row true 0 [])])] := ⟨_, rfl⟩
  obtain ⟨S1, hS1⟩ : ∃ S1 : Nat → St, ∀ k : Nat, S1 k = mkS 29 [(4, .one (.r true (int ((C : Int) - ((k + 1 : Nat) : Int))))), (3, .one (.ptr 3 0 0 0)), (2, .one (.ptr 2 0 0 0)), (0, .one (.ptr 1000000000 0 0 0))] [(1000000000, .var 90 [.r m1 (row nb 1 (bys bs)), .r true (int (p + 1 + 1 + 4 * ((k + 1 : Nat) : Int)))]), (3, .var 57 [.r true (int M), .own 100 0 (esAt bs (p + 1 + 1) M (k + 1)).length 3]), (100, .sl 73 3 true (edges (esAt bs (p + 1 + 1) M (k + 1)))), (2, .var 57 [.r true (int 0), .r true (row true 0 [])])] := ⟨_, fun _ => rfl⟩
  obtain ⟨F, hF0, hF1⟩ : ∃ F : Nat → St, F 0 = S0 ∧ ∀ k : Nat, F (k + 1) = S1 k := ⟨fun k => Nat.rec S0 (fun k _ => S1 k) k, rfl, fun _ => rfl⟩
  refine Zad (l := [.cell 2 57]) Try.func68 kRf rfl Try.ntmps68 rfl rfl ?_; simp only [dEnv, Nat.reduceAdd]
  repeat' (first|refine wk ?_|((first|refine' w_e rfl ?xa ?xb ?xc ?xe ?_|refine' v_e rfl ?xa ?xb ?xc ?xe ?_);(case xa => first|exact Ze 6 rfl (Zg [] K0 rfl ⟨Zh (Za rfl), asE, trivial⟩ sbH rfl)|exact Ze 10 rfl (Zg [] K1 rfl ⟨Zh (Za rfl), asE, trivial⟩ sbH rfl));(case xb|xc|xe=>rfl);try refine wkD ?_)|(refine wkB ?_ ?_<;>intro hg_<;>try exact wkX)|fail)
  refine Zaa (fun k : Nat => k ≤ C) F (fun k => C - k) 0 (Nat.zero_le _) ?_ ?_
  · rw [hF0, hS0]
    first
      | (refine Zi [] rfl ?_ ?_ <;> repeat' (first|refine wkS ?_ ?_|exact wkE|exact Zt hwC|exact gvar2 (Zbm hwM) rfl|exact gvar2 rfl (Zbm oM)))
  · intro k hk
    cases k with
    | zero =>
      rw [hF0, hS0]
      have KE := f_l20Edge (bs := bs) (p + 1 + 1 + 4 * (((0 : Nat)) : Int)) M oM hB hl oM oM m1 true nb
      have KA := Zc6 M true (esAt bs (p + 1 + 1) M 0) (edgV bs (p + 1 + 1 + 4 * (((0 : Nat)) : Int)) M) (hok 0)
      have hnx : esAt bs (p + 1 + 1) M (0 + 1) = (addE M (esAt bs (p + 1 + 1) M 0) (edgV bs (p + 1 + 1 + 4 * (((0 : Nat)) : Int)) M)).1 := by first|rfl|(rw [esAt];congr 3 <;> omega)
      have hfin : ∀ s' : St, Weak s' (S1 0) → ∃ x', x' ≤ C ∧ Weak s' (F x') ∧ C - x' < C - 0 := fun s' h => ⟨0 + 1, by omega, by rw [hF1]; exact h, by omega⟩
      rw [hS1, hnx] at hfin
      clear hF0 hF1 hS0 hS1 K0 K1 KO hnx
      generalize edgV bs (p + 1 + 1 + 4 * (((0 : Nat)) : Int)) M = e at *
      generalize addE M (esAt bs (p + 1 + 1) M 0) e = r at *
      rw [show esAt bs (p + 1 + 1) M 0 = [] from rfl] at KA
      obtain ⟨e1, e2, e3⟩ := e
      obtain ⟨xs, rb⟩ := r
      unfold rdH at *
      dsimp only at KE KA hfin
      repeat' (first|refine wk ?_|((first|refine' w_e rfl ?xa ?xb ?xc ?xe ?_|refine' v_e rfl ?xa ?xb ?xc ?xe ?_);(case xa => first|exact Zg [] KE rfl ⟨Zh (Za rfl), asE, trivial⟩ sbH rfl|exact Zax (ys := [graphP M true [], edgeP (e1, e2, e3)]) [(2000001, 501)] KA rfl rfl ⟨Zq (Za rfl) ⟨Zd, Zav, trivial⟩, Zq (Za rfl) ⟨Zd, Zd, Zd, trivial⟩, trivial⟩ rfl rfl);(case xb|xc|xe=>rfl);try refine wkD ?_)|(refine wkB ?_ ?_<;>intro hg_<;>try exact wkX)|fail)
      all_goals first
        | (exfalso; omega)
        | (refine hfin _ ?_
           (refine Zi [(100, 501)] rfl ?_ ?_ <;> repeat' (first|refine wkS ?_ ?_|exact wkE|exact Zt (by rw [IntWalk.i64_in _ oM] <;> omega)|exact gvar2 rfl (Zbm oM)));done)
    | succ k =>
      rw [hF1, hS1]
      by_cases hlt : k + 1 < C
      · have KE := f_l20Edge (bs := bs) (p + 1 + 1 + 4 * (((k + 1 : Nat)) : Int)) M oM hB hl oM oM m1 true nb
        have KA := Zc6 M false (esAt bs (p + 1 + 1) M (k + 1)) (edgV bs (p + 1 + 1 + 4 * (((k + 1 : Nat)) : Int)) M) (hok (k + 1))
        have hnx : esAt bs (p + 1 + 1) M (k + 1 + 1) = (addE M (esAt bs (p + 1 + 1) M (k + 1)) (edgV bs (p + 1 + 1 + 4 * (((k + 1 : Nat)) : Int)) M)).1 := by first|rfl|(rw [esAt];congr 3 <;> omega)
        have hfin : ∀ s' : St, Weak s' (S1 (k + 1)) → ∃ x', x' ≤ C ∧ Weak s' (F x') ∧ C - x' < C - (k + 1) := fun s' h => ⟨k + 1 + 1, by omega, by rw [hF1]; exact h, by omega⟩
        rw [hS1, hnx] at hfin
        have hlen := Zp (esAt bs (p + 1 + 1) M (k + 1))
        clear hF0 hF1 hS0 hS1 K0 K1 KO hnx
        generalize edgV bs (p + 1 + 1 + 4 * (((k + 1 : Nat)) : Int)) M = e at *
        generalize esAt bs (p + 1 + 1) M (k + 1) = ys at *
        generalize addE M ys e = r at *
        obtain ⟨e1, e2, e3⟩ := e
        obtain ⟨xs, rb⟩ := r
        unfold rdH at *
        dsimp only at KE KA hfin
        repeat' (first|refine wk ?_|((first|refine' w_e rfl ?xa ?xb ?xc ?xe ?_|refine' v_e rfl ?xa ?xb ?xc ?xe ?_);(case xa => first|exact Zg [] KE rfl ⟨Zh (Za rfl), asE, trivial⟩ sbH rfl|exact Zax (ys := [graphP M false ys, edgeP (e1, e2, e3)]) [(2000001, 501)] KA rfl rfl ⟨Zq (Za rfl) ⟨Zd, Zaf (Zj rfl) hlen.symm, trivial⟩, Zq (Za rfl) ⟨Zd, Zd, Zd, trivial⟩, trivial⟩ rfl rfl);(case xb|xc|xe=>rfl);try refine wkD ?_)|(refine wkB ?_ ?_<;>intro hg_<;>try exact wkX)|fail)
        all_goals first
          | (exfalso; omega)
          | (refine hfin _ ?_
             (refine Zi [(100, 501)] rfl ?_ ?_ <;> repeat' (first|refine wkS ?_ ?_|exact wkE|exact Zt (by rw [IntWalk.i64_in _ oM] <;> omega)|exact gvar2 rfl (Zbm oM)));done)
      · have hkC : k + 1 = C := by omega
        rw [hkC]
        clear hF0 hF1 hS0 hS1 K0 K1
        cases o
        · rw [if_neg (by decide)]
          repeat' (first|refine wk ?_|((first|refine' w_e rfl ?xa ?xb ?xc ?xe ?_|refine' v_e rfl ?xa ?xb ?xc ?xe ?_);(case xa => exact Zg [] KO rfl ⟨Zh (Za rfl), asE, trivial⟩ sbH rfl);(case xb|xc|xe=>rfl);try refine wkD ?_)|(refine wkB ?_ ?_<;>intro hg_<;>try exact wkX)|fail)
          all_goals first
            | (exfalso; omega)
            | (exfalso; simp at hg_; done)
            | (refine Zal (s2 := mkS 29 [(2, .one (.ptr 2 0 0 0))] [(2, .var 57 [.r true (int M), .own 100 0 (esAt bs (p + 1 + 1) M C).length 3]), (100, .sl 73 3 true (edges (esAt bs (p + 1 + 1) M C))), (1000000000, .var 90 [.r m1 (row nb 1 (bys bs)), .r true (int (p + 1 + 1 + 4 * (C : Int) + 1))])]) ?_ (fin_graphQ tyF0);(refine Zi [] rfl ?_ ?_ <;>exact wkW);done)
        · rw [if_pos rfl]
          repeat' (first|refine wk ?_|((first|refine' w_e rfl ?xa ?xb ?xc ?xe ?_|refine' v_e rfl ?xa ?xb ?xc ?xe ?_);(case xa => exact Zg [] KO rfl ⟨Zh (Za rfl), asE, trivial⟩ sbH rfl);(case xb|xc|xe=>rfl);try refine wkD ?_)|(refine wkB ?_ ?_<;>intro hg_<;>try exact wkX)|fail)
          all_goals first
            | (exfalso; omega)
            | (exfalso; simp at hg_; done)
            | (refine Zal (s2 := mkS 29 [(2, .one (.ptr 2 0 0 0))] [(2, .var 57 [.r true (int 1), .own 100 0 (esAt bs (p + 1 + 1) M C).length 3]), (100, .sl 73 3 true (edges (esAt bs (p + 1 + 1) M C))), (1000000000, .var 90 [.r m1 (row nb 1 (bys bs)), .r true (int (p + 1 + 1 + 4 * (C : Int) + 1))])]) ?_ (fin_graphQ tyF0);(refine Zi [] rfl ?_ ?_ <;>exact wkW);done)
theorem l20Task_ex (bs : List Int) (p n : Int) (hn : 0 ≤ n) (hn2 : n ≤ 1000000) (hB : Byte bs) (hl : bs.length ≤ 2000) (hp0 : 0 ≤ p) (hp : p ≤ 700000) :
  ∃ (nE : Bool) (m : Int) (es : List E3) (k s r : Int) (p' : Int),(-1 ≤ m ∧ m ≤ 17 ∧ es.length ≤ 41 ∧ p ≤ p' ∧ p' ≤ p + 300) ∧ ∀ m1 m2 nb,FnS Try.prog 40 [.one (.ptr 1000000000 0 0 0),.one (.r false (int n))] (rdH 1000000000 m1 m2 nb bs p) (.tups [(true,[.r true (int m),.r true (row nE 3 (edges es))]),(true,[.r true (int k),.r true (int s),.r true (int r)])]) (rdH 1000000000 m1 true nb bs p'):=by
 obtain ⟨nE,m,es,p1,⟨_,g1,g2,g3,g4,g5,_⟩,KG⟩:=f_l20Graph0 (bs:=bs) p n hn hn2 hB hl hp0 oM
 have KP0:=fun m1 nb=>Zbd p1 3 hB hl oM oM m1 true nb
 have h3:=Zaz bs p1 3
 generalize pickV bs p1 3 = a at *
 by_cases ha : a = 0
 ·obtain ⟨m',es',p2,⟨q1,q2,q3,q4,q5⟩,KD⟩:=l20Dense_ex bs (p1 + 1) hB hl oM oM
  obtain ⟨k,s,r,p3,⟨q6,q7⟩,KR⟩:=l20Prog_ex bs p2 m' n hB hl oM oM hn hn2
  refine ⟨false,m',es',k,s,r,p3,⟨by omega,by omega,q3,by omega,by omega⟩,?_⟩
  intro m1 m2 nb
  have K1:=KG m1 m2 nb
  have K2:=KP0 m1 nb
  have K3:=KD m1 true nb
  have K4:=KR m1 true nb
  subst ha
  clear KG KP0 KD KR
  unfold rdH at *
  refine Zad (l:=[.cell 4 57,.cell 5 59]) Try.func40 kRf rfl Try.ntmps40 rfl rfl ?_; simp only [dEnv,Nat.reduceAdd]
  repeat' (first|refine wk ?_|((first|refine' w_e rfl ?xa ?xb ?xc ?xe ?_|refine' v_e rfl ?xa ?xb ?xc ?xe ?_);(case xa=>first|exact Zg [] K1 rfl ⟨Zh (Za rfl),asE,trivial⟩ sbH rfl|exact Zg [] K2 rfl ⟨Zh (Za rfl),asE,trivial⟩ sbH rfl|exact Zg [] K3 rfl ⟨Zh (Za rfl),trivial⟩ sbH rfl|exact Zg [] K4 rfl ⟨Zh (Za rfl),asE,asE,trivial⟩ sbH rfl);(case xb|xc|xe=>rfl);try refine wkD ?_)|(refine wkB ?_ ?_<;>intro hg_<;>try exact wkX)|fail)
  all_goals first
   | (exfalso; omega)
   | exact Z4 [] rfl sbH (Zau (x:=(true,_)) (y:=(true,_)) (Zaq rfl rfl tyF0 rfl rfl rfl) rfl (Zaq rfl rfl tyF0 rfl rfl rfl) rfl (Zac rfl))
 ·obtain ⟨k,s,r,p3,⟨q6,q7⟩,KR⟩:=l20Prog_ex bs (p1 + 1) m n hB hl oM oM hn hn2
  refine ⟨nE,m,es,k,s,r,p3,⟨by omega,by omega,g3,by omega,by omega⟩,?_⟩
  intro m1 m2 nb
  have K1:=KG m1 m2 nb
  have K2:=KP0 m1 nb
  have K4:=KR m1 true nb
  clear KG KP0 KR
  unfold rdH at *
  refine Zad (l:=[.cell 4 57,.cell 5 59]) Try.func40 kRf rfl Try.ntmps40 rfl rfl ?_; simp only [dEnv,Nat.reduceAdd]
  repeat' (first|refine wk ?_|((first|refine' w_e rfl ?xa ?xb ?xc ?xe ?_|refine' v_e rfl ?xa ?xb ?xc ?xe ?_);(case xa=>first|exact Zg [] K1 rfl ⟨Zh (Za rfl),asE,trivial⟩ sbH rfl|exact Zg [] K2 rfl ⟨Zh (Za rfl),asE,trivial⟩ sbH rfl|exact Zg [] K4 rfl ⟨Zh (Za rfl),asE,asE,trivial⟩ sbH rfl);(case xb|xc|xe=>rfl);try refine wkD ?_)|(refine wkB ?_ ?_<;>intro hg_<;>try exact wkX)|fail)
  all_goals first
   | (exfalso; omega)
   | (exfalso; contradiction)
   | exact Z4 [] rfl sbH (Zau (x:=(true,_)) (y:=(true,_)) (Zaq rfl rfl tyF0 rfl rfl rfl) rfl (Zaq rfl rfl tyF0 rfl rfl rfl) rfl (Zac rfl))
noncomputable def msgV (bs : List Int) (p many : Int) (i : Nat) : E3:=(pickV bs (p + 1 + 3 * i) many,pickV bs (p + 1 + 3 * i + 1) 9,pickV bs (p + 1 + 3 * i + 1 + 1) many)
noncomputable def msgT (bs : List Int) (p many : Int) (n : Nat) : List E3:=(List.range n).map (msgV bs p many)
theorem msgT_len (bs : List Int) (p many : Int) (n : Nat) : (msgT bs p many n).length = n:=by unfold msgT; simp
theorem msgT_snoc (bs : List Int) (p many : Int) (n : Nat) : msgT bs p many (n + 1) = msgT bs p many n ++ [msgV bs p many n]:=by unfold msgT; rw [List.range_succ,List.map_append]; rfl
theorem l20Messages_ex (bs : List Int) (p many : Int) (hB : Byte bs) (hl : bs.length ≤ 2000) (hp0 : 0 ≤ p) (hp : p ≤ 900000) :
  ∃ (ms : List E3) (p' : Int),(ms.length ≤ 9 ∧ p ≤ p' ∧ p' ≤ p + 100) ∧ ∀ m1 nb,FnS Try.prog 73 [.one (.ptr 1000000000 0 0 0),.one (.r false (int many))] (rdH 1000000000 m1 true nb bs p) (.one (.own 2000001 0 ms.length 3)) (rdH 1000000000 m1 true nb bs p' ++ [(2000001,.sl 70 3 true (edges ms))]):=by
 have K00:=fun m1 nb=>Zbd p 9 hB hl hp0 oM m1 true nb
 have hc:=Zaz bs p 9
 have hcN : ((pickV bs p 9).toNat : Int) = pickV bs p 9:=Int.toNat_of_nonneg hc.1
 generalize hCC : (pickV bs p 9).toNat = C at *
 rw [← hcN] at K00
 have hC9 : C ≤ 9:=by omega
 clear hCC hcN hc
 have KP0 : ∀ q : Int,0 ≤ q → q ≤ 1000000 → ∀ n m1 nb,FnS Try.prog 67 [.one (.ptr 1000000000 0 0 0),.one (.r false (int n))] (rdH 1000000000 m1 true nb bs q) (.one (.r true (int (pickV bs q n)))) (rdH 1000000000 m1 true nb bs (q + 1)):=fun q h0 h1 n m1 nb=>Zbd q n hB hl h0 h1 m1 true nb
 by_cases hmany : 0 < many
 ·refine ⟨msgT bs p many C,p + 1 + 3 * (C : Int),⟨by rw [msgT_len]; exact hC9,by omega,by omega⟩,?_⟩
  intro m1 nb
  have K0:=K00 m1 nb
  have KP:=fun q h0 h1 n=>KP0 q h0 h1 n m1 nb
  clear K00 KP0
  unfold rdH at *
  refine Zad (l:=[.tmp 4]) Try.func73 kRf rfl Try.ntmps73 rfl rfl ?_; simp only [dEnv,Nat.reduceAdd]
  repeat' (first|refine wk ?_|((first|refine' w_e rfl ?xa ?xb ?xc ?xe ?_|refine' v_e rfl ?xa ?xb ?xc ?xe ?_);(case xa=>first|exact Zl [] tlOk rfl rfl rfl rfl rfl rfl (by simp [AllN]) (by simp)|exact Ze 9 rfl (Zg [] K0 rfl ⟨Zh (Za rfl),asE,trivial⟩ sbH rfl));(case xb|xc|xe=>rfl);try refine wkD ?_)|(refine wkB ?_ ?_<;>intro hg_<;>try exact wkX)|fail)
  refine Zaa (fun i : Nat=>i ≤ C) (fun i=>mkS 31 [(6,.one (.r true (int ((C : Int) - (i : Int))))),(5,.one (.own 100 0 i 3)),(1,.one (.r false (int many))),(0,.one (.ptr 1000000000 0 0 0))] [(1000000000,.var 90 [.r m1 (row nb 1 (bys bs)),.r true (int (p + 1 + 3 * (i : Int)))]),(100,.sl 70 3 true (edges (msgT bs p many i)))]) (fun i=>C - i) 0 (Nat.zero_le _) (by (refine Zi [(100,7)] rfl ?_ ?_<;>repeat' (first|refine wkS ?_ ?_|exact wkE|exact Zt oM|exact var2 rfl (Zbm oM)))) ?_
  intro i hi
  have hlen:=msgT_len bs p many i
  have hli:=Zp (msgT bs p many i)
  by_cases hlt : i < C
  ·have hobj : edges (msgT bs p many (i + 1)) = edges (msgT bs p many i) ++ [edgeP (msgV bs p many i)]:=by rw [msgT_snoc,Zag]
   have K1:=KP (p + 1 + 3 * (i : Int)) oM oM many
   have K2:=KP (p + 1 + 3 * (i : Int) + 1) oM oM 9
   have K3:=KP (p + 1 + 3 * (i : Int) + 1 + 1) oM oM many
   unfold msgV at hobj
   generalize pickV bs (p + 1 + 3 * (i : Int)) many = a at *
   generalize pickV bs (p + 1 + 3 * (i : Int) + 1) 9 = b at *
   generalize pickV bs (p + 1 + 3 * (i : Int) + 1 + 1) many = c at *
   have hX : i = (edges (msgT bs p many i)).length:=by omega
   generalize edges (msgT bs p many i) = X at *
   clear KP K0
   repeat' (first|refine wk ?_|((first|refine' w_e rfl ?xa ?xb ?xc ?xe ?_|refine' v_e rfl ?xa ?xb ?xc ?xe ?_);(case xa=>first|exact Ze 21 rfl (Zg [] K1 rfl ⟨Zh (Za rfl),asE,trivial⟩ sbH rfl)|exact Ze 23 rfl (Zg [] K2 rfl ⟨Zh (Za rfl),asE,trivial⟩ sbH rfl)|exact Ze 26 rfl (Zg [] K3 rfl ⟨Zh (Za rfl),asE,trivial⟩ sbH rfl)|exact Zl [.tmp 27] tlOk rfl rfl rfl rfl rfl rfl (Zy rfl) (by simp)|exact Zw tlOk rfl rfl rfl rfl rfl rfl (Z6 (Z0 (Zj rfl) rfl) (by simp [plain1])) hX (by simp only [maxLen,List.length_cons,List.length_nil];omega) (by simp only [List.length_cons,List.length_nil];omega));(case xb|xc|xe=>rfl);try refine wkD ?_)|(refine wkB ?_ ?_<;>intro hg_<;>try exact wkX)|fail)
   all_goals first
    | (exfalso; omega)
    | exact ⟨i + 1,by omega,by (refine Zi [(100,29)] rfl ?_ ?_<;>repeat' (first|refine wkS ?_ ?_|exact wkE|exact Zt (by rw [IntWalk.i64_in _ oM]<;>omega)|exact Zba (by simp only [List.length_cons,List.length_nil];omega)|exact var2 rfl (Zbm oM)|exact Zz rfl hobj.symm|exact Zz rfl (by rw [hobj]<;>rfl))),by omega⟩
  ·obtain rfl : i = C:=by omega
   clear KP K0
   repeat' (first|refine wk ?_|(refine wkB ?_ ?_<;>intro hg_<;>try exact wkX)|fail)
   all_goals first
    | (exfalso; omega)
    | exact Z4 [(2000001,100)] rfl sbH (Zce rfl (Zac (Zba hlen.symm)))
 ·refine ⟨[],p + 1,⟨by simp,by omega,by omega⟩,?_⟩
  intro m1 nb
  have K0:=K00 m1 nb
  clear K00 KP0
  unfold rdH at *
  refine Zad (l:=[.tmp 4]) Try.func73 kRf rfl Try.ntmps73 rfl rfl ?_; simp only [dEnv,Nat.reduceAdd]
  repeat' (first|refine wk ?_|((first|refine' w_e rfl ?xa ?xb ?xc ?xe ?_|refine' v_e rfl ?xa ?xb ?xc ?xe ?_);(case xa=>first|exact Zl [] tlOk rfl rfl rfl rfl rfl rfl (by simp [AllN]) (by simp)|exact Ze 9 rfl (Zg [] K0 rfl ⟨Zh (Za rfl),asE,trivial⟩ sbH rfl));(case xb|xc|xe=>rfl);try refine wkD ?_)|(refine wkB ?_ ?_<;>intro hg_<;>try exact wkX)|fail)
  refine Zaa (fun _ : Nat=>True) (fun _=>mkS 31 [(6,.one (.r true (int (C : Int)))),(5,.one (.own 100 0 0 3)),(1,.one (.r false (int many))),(0,.one (.ptr 1000000000 0 0 0))] [(1000000000,.var 90 [.r m1 (row nb 1 (bys bs)),.r true (int (p + 1))]),(100,.sl 70 3 true [])]) (fun _=>0) 0 trivial (by (refine Zi [(100,7)] rfl ?_ ?_ <;>exact wkW)) ?_
  rintro _ _
  repeat' (first|refine wk ?_|(refine wkB ?_ ?_<;>intro hg_<;>try exact wkX)|fail)
  all_goals first
   | (exfalso; omega)
   | exact Z4 [(2000001,100)] rfl sbH (Zce rfl (Zac rfl))
end Go.Proofs.Ytmkijbfiilpccaa.Abs
