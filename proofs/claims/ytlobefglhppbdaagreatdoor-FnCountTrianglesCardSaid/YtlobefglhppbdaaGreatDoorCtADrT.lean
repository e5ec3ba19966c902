/- Draws of tasks by states: dense graphs, a graph and a program, messages. No statement of the seat is proved here. -/
import Derived.Lib.Hide
import Derived.Test.YtlobefglhppbdaaGreatDoorCtTy
import Derived.Test.YtlobefglhppbdaaGreatDoorCtAProg
import Derived.Test.YtlobefglhppbdaaGreatDoorCtAGrH
set_option linter.unusedSimpArgs false
set_option linter.unusedVariables false
set_option maxRecDepth 100000
set_option maxHeartbeats 16000000
namespace Go.Proofs.YtlobefglhppbdaaGreatDoor.Abs
open Go.RowKit
open R (val row ref)
theorem fin_graphQ {P : Program} {n T : Nat} {m' : Int} {es' : List E3} {E0 : TypeId} {f1 f2 : Bool} {x1 x2 : R} (hT : tyOf P T = some (true, 2)) : (Exit.ret = Exit.ret ∨ Exit.ret = Exit.normal) ∧ ∃ s2, Weak (mkS n [(2, .one (.ptr 2 0 0 0))] [(2, .var 25 [.r true (int m'), .own 100 0 es'.length 3]), (100, .sl 50 3 true (edges es')), (1000000000, .var E0 [.r f1 x1, .r f2 x2])]) s2 ∧ ∃ ρ, EndD P s2 [.cell 2 T] ρ (.agg [.r true (int m'), .r true (row false 3 (edges es'))]) [(1000000000, .var E0 [.r f1 x1, .r f2 x2])] := by
  have hb : Nat.ble (0 + es'.length) (edges es').length = true := by rw [edges_len]; simp
  have ht : ((edges es').drop 0).take es'.length = edges es' := by rw [List.drop_zero, List.take_of_length_le (by rw [edges_len]; exact Nat.le_refl _)]
  have hw := weak_freeze (n := n) (l := [(2, .one (.ptr 2 0 0 0))]) (h := [(2, .var 25 [.r true (int m'), .own 100 0 es'.length 3]), (100, .sl 50 3 true (edges es')), (1000000000, .var E0 [.r f1 x1, .r f2 x2])]) 100 rfl
  have e1 : frL 100 3 true (edges es') [(2, .one (.ptr 2 0 0 0))] = [(2, .one (.ptr 2 0 0 0))] := rfl
  have e2 : frH 100 3 true (edges es') [(2, .var 25 [.r true (int m'), .own 100 0 es'.length 3]), (100, .sl 50 3 true (edges es')), (1000000000, .var E0 [.r f1 x1, .r f2 x2])] = [(2, .var 25 [.r true (int m'), .r true (row false 3 (edges es'))]), (1000000000, .var E0 [.r f1 x1, .r f2 x2])] := by
    have e3 : frC 100 3 true (edges es') (.own 100 0 es'.length 3) = .r true (row false 3 (edges es')) := by
      show (bif Nat.beq 100 100 then (bif Nat.beq 3 3 && Nat.ble (0 + es'.length) (edges es').length then Cell.r true (row false 3 (((edges es').drop 0).take es'.length)) else .any) else .own 100 0 es'.length 3) = _
      rw [hb, ht]; rfl
    show [(2, Ob.var _ [Cell.r true (int m'), frC 100 3 true (edges es') (.own 100 0 es'.length 3)]), (1000000000, Ob.var E0 [Cell.r f1 x1, Cell.r f2 x2])] = _
    rw [e3]
  rw [e1, e2] at hw
  exact ret_W hw (ret_D [] rfl sbH (retD_cell rfl rfl hT rfl rfl rfl (imp_refl rfl)))
theorem l20Dense_ex (bs : List Int) (p : Int) (hB : Byte bs) (hl : bs.length ≤ 2000) (hp0 : 0 ≤ p) (hp : p ≤ 800000) :
    ∃ (m : Int) (es : List E3) (p' : Int), (1 ≤ m ∧ m ≤ 7 ∧ es.length ≤ 41 ∧ p ≤ p' ∧ p' ≤ p + 100) ∧ ∀ m1 m2 nb, FnS Tryz.prog 14 [.one (.ptr 1000000000 0 0 0)] (rdH 1000000000 m1 m2 nb bs p) (.agg [.r true (int m), .r true (row false 3 (edges es))]) (rdH 1000000000 m1 true nb bs p') := by
  have hM := pickV_in bs p 5
  have hc := pickV_in bs (p + 1) 16
  have K00 := fun m1 m2 nb => f_pick p 5 hB hl hp0 oM m1 m2 nb
  have K10 := fun m1 nb => f_pick (p + 1) 16 hB hl oM oM m1 true nb
  have hcN : ((pickV bs (p + 1) 16).toNat : Int) = pickV bs (p + 1) 16 := Int.toNat_of_nonneg hc.1
  generalize hCC : (pickV bs (p + 1) 16).toNat = C0 at *
  rw [← hcN] at K10
  have hC16 : C0 ≤ 15 := by omega
  clear hCC
  obtain ⟨M, hMM⟩ : ∃ M, M = 3 + pickV bs p 5 := ⟨_, rfl⟩
  have hwM : IntKind.i64.wrap (3 + pickV bs p 5) = M := by rw [IntWalk.i64_in _ oM]; exact hMM.symm
  have hM1 : 3 ≤ M ∧ M ≤ 7 := by omega
  generalize pickV bs p 5 = a5 at *
  obtain ⟨C, hC⟩ : ∃ C, C = C0 + 6 := ⟨_, rfl⟩
  have hwC : IntKind.i64.wrap (6 + (C0 : Int)) = (C : Int) := by rw [IntWalk.i64_in _ oM]; omega
  have hok := fun i => esAt_ok bs (p + 1 + 1) (by omega : 0 ≤ M) (by omega : M ≤ 16) i
  have hel := gOk_len (hok C)
  have KO0 := fun m1 nb => f_odd (bs := bs) (p + 1 + 1 + 4 * (C : Int)) 12 oM oM hB hl oM oM m1 true nb
  generalize oddV bs (p + 1 + 1 + 4 * (C : Int)) 12 = o at *
  refine ⟨if o then 1 else M, esAt bs (p + 1 + 1) M C, p + 1 + 1 + 4 * (C : Int) + 1, ⟨by split <;> omega, by split <;> omega, by omega, by omega, by omega⟩, ?_⟩
  intro m1 m2 nb
  have K0 := K00 m1 m2 nb
  have K1 := K10 m1 nb
  have KO := KO0 m1 nb
  clear K00 K10 KO0 hM hc hMM hcN
  unfold rdH at K0 K1 KO ⊢
  obtain ⟨S0, hS0⟩ : ∃ S0 : St, S0 = mkS 29 [(4, .one (.r true (int (C : Int)))), (3, .one (.ptr 3 0 0 0)), (2, .one (.ptr 2 0 0 0)), (0, .one (.ptr 1000000000 0 0 0))] [(1000000000, .var 62 [.r m1 (row nb 1 (bys bs)), .r true (int (p + 1 + 1 + 4 * ((0 : Nat) : Int)))]), (3, .var 25 [.r true (int M), .r true (row true 0 [])]), (2, .var 25 [.r true (int 0), .r true (row true 0 [])])] := ⟨_, rfl⟩
  obtain ⟨S1, hS1⟩ : ∃ S1 : Nat → St, ∀ k : Nat, S1 k = mkS 29 [(4, .one (.r true (int ((C : Int) - ((k + 1 : Nat) : Int))))), (3, .one (.ptr 3 0 0 0)), (2, .one (.ptr 2 0 0 0)), (0, .one (.ptr 1000000000 0 0 0))] [(1000000000, .var 62 [.r m1 (row nb 1 (bys bs)), .r true (int (p + 1 + 1 + 4 * ((k + 1 : Nat) : Int)))]), (3, .var 25 [.r true (int M), .own 100 0 (esAt bs (p + 1 + 1) M (k + 1)).length 3]), (100, .sl 50 3 true (edges (esAt bs (p + 1 + 1) M (k + 1)))), (2, .var 25 [.r true (int 0), .r true (row true 0 [])])] := ⟨_, fun _ => rfl⟩
  obtain ⟨F, hF0, hF1⟩ : ∃ F : Nat → St, F 0 = S0 ∧ ∀ k : Nat, F (k + 1) = S1 k := ⟨fun k => Nat.rec S0 (fun k _ => S1 k) k, rfl, fun _ => rfl⟩
  refine fnS_of (l := [.cell 2 25]) Tryz.func14 kRf rfl Tryz.ntmps14 rfl rfl ?_; simp only [dEnv, Nat.reduceAdd]
  repeat' (first|refine wk ?_|((first|refine' w_e rfl ?xa ?xb ?xc ?xe ?_|refine' v_e rfl ?xa ?xb ?xc ?xe ?_);(case xa => first|exact at_dst 6 rfl (e_callS [] K0 rfl ⟨asD_ren (evO_spec rfl), asE, trivial⟩ sbH rfl)|exact at_dst 10 rfl (e_callS [] K1 rfl ⟨asD_ren (evO_spec rfl), asE, trivial⟩ sbH rfl));(case xb|xc|xe=>rfl);try refine wkD ?_)|(refine wkB ?_ ?_<;>intro hg_<;>try exact wkX)|fail)
  refine aw_loopI (fun k : Nat => k ≤ C) F (fun k => C - k) 0 (Nat.zero_le _) ?_ ?_
  · rw [hF0, hS0]
    first
      | (refine weak_ren [] rfl ?_ ?_ <;> repeat' (first|refine wkS ?_ ?_|exact wkE|exact d_int hwC|exact gvar2 (cell_int hwM) rfl|exact gvar2 rfl (cell_int oM)))
      | fail
  · intro k hk
    cases k with
    | zero =>
      rw [hF0, hS0]
      have KE := f_l20Edge (bs := bs) (p + 1 + 1 + 4 * (((0 : Nat)) : Int)) M oM hB hl oM oM m1 true nb
      have KA := f_specAddEdge M true (esAt bs (p + 1 + 1) M 0) (edgV bs (p + 1 + 1 + 4 * (((0 : Nat)) : Int)) M) (hok 0)
      have hnx : esAt bs (p + 1 + 1) M (0 + 1) = (addE M (esAt bs (p + 1 + 1) M 0) (edgV bs (p + 1 + 1 + 4 * (((0 : Nat)) : Int)) M)).1 := by first|rfl|(rw [esAt];congr 3 <;> omega)
      have hfin : ∀ s' : St, Weak s' (S1 0) → ∃ x', x' ≤ C ∧ Weak s' (F x') ∧ C - x' < C - 0 := fun s' h => ⟨0 + 1, by omega, by rw [hF1]; exact h, by omega⟩
      rw [hS1, hnx] at hfin
      clear hF0 hF1 hS0 hS1 K0 K1 KO hnx
      generalize edgV bs (p + 1 + 1 + 4 * (((0 : Nat)) : Int)) M = e at *
      generalize addE M (esAt bs (p + 1 + 1) M 0) e = r at *
      rw [show esAt bs (p + 1 + 1) M 0 = [] from rfl] at KA
      obtain ⟨e1, e2, e3⟩ := e
      obtain ⟨xs, rb⟩ := r
      unfold rdH at *
      dsimp only at KE KA hfin
      repeat' (first|refine wk ?_|((first|refine' w_e rfl ?xa ?xb ?xc ?xe ?_|refine' v_e rfl ?xa ?xb ?xc ?xe ?_);(case xa => first|exact e_callS [] KE rfl ⟨asD_ren (evO_spec rfl), asE, trivial⟩ sbH rfl|exact e_callS0 (ys := [graphP M true [], edgeP (e1, e2, e3)]) [(2000001, 501)] KA rfl rfl ⟨asA_agg (evO_spec rfl) ⟨cAr_r, cAr_nil, trivial⟩, asA_agg (evO_spec rfl) ⟨cAr_r, cAr_r, cAr_r, trivial⟩, trivial⟩ rfl rfl);(case xb|xc|xe=>rfl);try refine wkD ?_)|(refine wkB ?_ ?_<;>intro hg_<;>try exact wkX)|fail)
      all_goals first
        | (exfalso; omega)
        | (refine hfin _ ?_
           (refine weak_ren [(100, 501)] rfl ?_ ?_ <;> repeat' (first|refine wkS ?_ ?_|exact wkE|exact d_int (by rw [IntWalk.i64_in _ oM] <;> omega)|exact gvar2 rfl (cell_int oM)));done)
        | fail
    | succ k =>
      rw [hF1, hS1]
      by_cases hlt : k + 1 < C
      · have KE := f_l20Edge (bs := bs) (p + 1 + 1 + 4 * (((k + 1 : Nat)) : Int)) M oM hB hl oM oM m1 true nb
        have KA := f_specAddEdge M false (esAt bs (p + 1 + 1) M (k + 1)) (edgV bs (p + 1 + 1 + 4 * (((k + 1 : Nat)) : Int)) M) (hok (k + 1))
        have hnx : esAt bs (p + 1 + 1) M (k + 1 + 1) = (addE M (esAt bs (p + 1 + 1) M (k + 1)) (edgV bs (p + 1 + 1 + 4 * (((k + 1 : Nat)) : Int)) M)).1 := by first|rfl|(rw [esAt];congr 3 <;> omega)
        have hfin : ∀ s' : St, Weak s' (S1 (k + 1)) → ∃ x', x' ≤ C ∧ Weak s' (F x') ∧ C - x' < C - (k + 1) := fun s' h => ⟨k + 1 + 1, by omega, by rw [hF1]; exact h, by omega⟩
        rw [hS1, hnx] at hfin
        have hlen := edges_len (esAt bs (p + 1 + 1) M (k + 1))
        clear hF0 hF1 hS0 hS1 K0 K1 KO hnx
        generalize edgV bs (p + 1 + 1 + 4 * (((k + 1 : Nat)) : Int)) M = e at *
        generalize esAt bs (p + 1 + 1) M (k + 1) = ys at *
        generalize addE M ys e = r at *
        obtain ⟨e1, e2, e3⟩ := e
        obtain ⟨xs, rb⟩ := r
        unfold rdH at *
        dsimp only at KE KA hfin
        repeat' (first|refine wk ?_|((first|refine' w_e rfl ?xa ?xb ?xc ?xe ?_|refine' v_e rfl ?xa ?xb ?xc ?xe ?_);(case xa => first|exact e_callS [] KE rfl ⟨asD_ren (evO_spec rfl), asE, trivial⟩ sbH rfl|exact e_callS0 (ys := [graphP M false ys, edgeP (e1, e2, e3)]) [(2000001, 501)] KA rfl rfl ⟨asA_agg (evO_spec rfl) ⟨cAr_r, cAr_own0 (lookHO_spec rfl) hlen.symm, trivial⟩, asA_agg (evO_spec rfl) ⟨cAr_r, cAr_r, cAr_r, trivial⟩, trivial⟩ rfl rfl);(case xb|xc|xe=>rfl);try refine wkD ?_)|(refine wkB ?_ ?_<;>intro hg_<;>try exact wkX)|fail)
        all_goals first
          | (exfalso; omega)
          | (refine hfin _ ?_
             (refine weak_ren [(100, 501)] rfl ?_ ?_ <;> repeat' (first|refine wkS ?_ ?_|exact wkE|exact d_int (by rw [IntWalk.i64_in _ oM] <;> omega)|exact gvar2 rfl (cell_int oM)));done)
          | fail
      · have hkC : k + 1 = C := by omega
        rw [hkC]
        clear hF0 hF1 hS0 hS1 K0 K1
        cases o
        · rw [if_neg (by decide)]
          repeat' (first|refine wk ?_|((first|refine' w_e rfl ?xa ?xb ?xc ?xe ?_|refine' v_e rfl ?xa ?xb ?xc ?xe ?_);(case xa => exact e_callS [] KO rfl ⟨asD_ren (evO_spec rfl), asE, trivial⟩ sbH rfl);(case xb|xc|xe=>rfl);try refine wkD ?_)|(refine wkB ?_ ?_<;>intro hg_<;>try exact wkX)|fail)
          all_goals first
            | (exfalso; omega)
            | (exfalso; simp at hg_; done)
            | (refine ret_W (s2 := mkS 29 [(2, .one (.ptr 2 0 0 0))] [(2, .var 25 [.r true (int M), .own 100 0 (esAt bs (p + 1 + 1) M C).length 3]), (100, .sl 50 3 true (edges (esAt bs (p + 1 + 1) M C))), (1000000000, .var 62 [.r m1 (row nb 1 (bys bs)), .r true (int (p + 1 + 1 + 4 * (C : Int) + 1))])]) ?_ (fin_graphQ tyF0);(refine weak_ren [] rfl ?_ ?_ <;>exact wkW);done)
            | fail
        · rw [if_pos rfl]
          repeat' (first|refine wk ?_|((first|refine' w_e rfl ?xa ?xb ?xc ?xe ?_|refine' v_e rfl ?xa ?xb ?xc ?xe ?_);(case xa => exact e_callS [] KO rfl ⟨asD_ren (evO_spec rfl), asE, trivial⟩ sbH rfl);(case xb|xc|xe=>rfl);try refine wkD ?_)|(refine wkB ?_ ?_<;>intro hg_<;>try exact wkX)|fail)
          all_goals first
            | (exfalso; omega)
            | (exfalso; simp at hg_; done)
            | (refine ret_W (s2 := mkS 29 [(2, .one (.ptr 2 0 0 0))] [(2, .var 25 [.r true (int 1), .own 100 0 (esAt bs (p + 1 + 1) M C).length 3]), (100, .sl 50 3 true (edges (esAt bs (p + 1 + 1) M C))), (1000000000, .var 62 [.r m1 (row nb 1 (bys bs)), .r true (int (p + 1 + 1 + 4 * (C : Int) + 1))])]) ?_ (fin_graphQ tyF0);(refine weak_ren [] rfl ?_ ?_ <;>exact wkW);done)
            | fail
end Go.Proofs.YtlobefglhppbdaaGreatDoor.Abs
