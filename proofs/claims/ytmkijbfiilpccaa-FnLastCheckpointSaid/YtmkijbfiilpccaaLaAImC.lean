/- Codes, frames and graphs as bytes by states: the program's writers. No statement of the seat is proved here. -/
import Derived.Lib.Hide
import Derived.Test.YtmkijbfiilpccaaLaTy
import Derived.Test.YtmkijbfiilpccaaLaASpCD
set_option linter.unusedSimpArgs false
set_option linter.unusedVariables false
set_option maxRecDepth 100000
set_option maxHeartbeats 4000000
namespace Go.Proofs.Ytmkijbfiilpccaa.Abs
open Go.RowKit
open R (val row ref)
theorem Zco (n : Int) : fits n = true ↔ 0 ≤ n ∧ n ≤ 1000000:=by unfold fits; rw [decide_eq_true_eq]
theorem f_implEncode (n : Int) (hf : fits n = true) : FnO Try.prog 101 [iP n] 3 1 (ints (enc n)) := by
  have hn := (Zco n).1 hf
  refine fn_ofO Try.func101 kRf rfl Try.ntmps101 rfl rfl ?_; simp only [argEnv, P0.d, Nat.reduceAdd, List.map_cons, List.map_nil]
  repeat' (first|refine wk ?_|(refine wkB ?_ ?_<;>intro hg_<;>try exact wkX)|fail)
  by_cases hs : n < 128
  · refine Zaa (fun _ : Nat => True) (fun _ => mkS 24 [(3, .one (.r true (row true 0 []))), (0, .one (.r false (int n)))] []) (fun _ => 0) 0 trivial (by (refine Zi [] rfl ?_ ?_ <;>exact wkW)) ?_
    intro _ _
    rw [enc_last hn.1 hs]
    repeat' (first|refine wk ?_|((first|refine' w_e rfl ?xa ?xb ?xc ?xe ?_|refine' v_e rfl ?xa ?xb ?xc ?xe ?_);(case xa => first|exact Zl [.tmp 21] tlOk rfl rfl rfl rfl rfl rfl (Zy rfl) (by simp)|exact Zas tlOk rfl rfl rfl rfl rfl (Z6 (Z0 (Zj rfl) rfl) (by simp [plain1, iP])) (by simp) (by simp [maxLen]) (by simp));(case xb|xc|xe=>rfl);try refine wkD ?_)|(refine wkB ?_ ?_<;>intro hg_<;>try exact wkX)|fail)
    all_goals first
      | exact Zb8 rfl rfl rfl
  · obtain ⟨S1, hS1⟩ : ∃ S1 : List Int × Int → St, ∀ x, S1 x = mkS 24 [(3, .one (.own 100 0 x.1.length 1)), (0, .one (.r true (int x.2)))] [(100, .sl 3 1 true (ints x.1))] := ⟨_, fun _ => rfl⟩
    obtain ⟨F, hF0, hF1⟩ : ∃ F : Option (List Int × Int) → St, F none = mkS 24 [(3, .one (.r true (row true 0 []))), (0, .one (.r false (int n)))] [] ∧ ∀ x, F (some x) = S1 x := ⟨fun o => match o with | none => mkS 24 [(3, .one (.r true (row true 0 []))), (0, .one (.r false (int n)))] [] | some x => S1 x, rfl, fun _ => rfl⟩
    refine Zaa (fun o : Option (List Int × Int) => ∀ x, o = some x → enc n = x.1 ++ enc x.2 ∧ 0 ≤ x.2 ∧ x.2 ≤ 100000 ∧ x.1.length + (enc x.2).length ≤ 3) F (fun o => match o with|none => 10000000|some x => x.2.toNat) none (fun x h => by cases h) (by rw [hF0];(refine Zi [] rfl ?_ ?_ <;>exact wkW)) ?_
    intro o ho
    cases o with
    | none =>
      have hfin : ∀ s' : St, Weak s' (F (some ([n % 128 + 128], n / 128))) → ∃ x' : Option (List Int × Int), (∀ x, x' = some x → enc n = x.1 ++ enc x.2 ∧ 0 ≤ x.2 ∧ x.2 ≤ 100000 ∧ x.1.length + (enc x.2).length ≤ 3) ∧ Weak s' (F x') ∧ (match x' with | none => 10000000 | some x => x.2.toNat) < 10000000 := fun s' h => ⟨some ([n % 128 + 128], n / 128), fun x hx => by
        injection hx with hx; subst hx
        have h3 := Za0 n
        rw [enc_step oM hn.2] at h3 ⊢
        exact ⟨rfl, by dsimp only; omega, by dsimp only; omega, by simp only [List.length_cons, List.length_nil] at h3 ⊢; omega⟩, h, by dsimp only; omega⟩
      rw [hF1, hS1] at hfin
      rw [hF0]
      have hw1 : IntKind.i64.wrap (n.tmod 128 + 128) = n % 128 + 128 := by rw [Int.tmod_eq_emod_of_nonneg hn.1, IntWalk.i64_in _ oM]
      have hw2 : IntKind.i64.wrap (n.tdiv 128) = n / 128 := by rw [Int.tdiv_eq_ediv_of_nonneg hn.1, IntWalk.i64_in _ oM]
      clear hF0 hF1 hS1 ho
      repeat' (first|refine wk ?_|((first|refine' w_q rfl rfl ?xa rfl ?_|refine' v_q rfl rfl ?xa rfl ?_|refine' Zn rfl rfl (Zb rfl) rfl ?xa rfl ?_|refine' Zo rfl rfl (Zb rfl) rfl ?xa rfl ?_);case xa => first|exact k_rem rfl rfl rfl (by decide)|exact k_div rfl rfl rfl (by decide))|((first|refine' w_e rfl ?xa ?xb ?xc ?xe ?_|refine' v_e rfl ?xa ?xb ?xc ?xe ?_);(case xa => first|exact Zl [.tmp 15] tlOk rfl rfl rfl rfl rfl rfl (Zy rfl) (by simp)|exact Zas tlOk rfl rfl rfl rfl rfl (Z6 (Z0 (Zj rfl) rfl) (by simp [plain1, iP])) (by simp) (by simp [maxLen]) (by simp));(case xb|xc|xe=>rfl);try refine wkD ?_)|(refine wkB ?_ ?_<;>intro hg_<;>try exact wkX)|fail)
      all_goals first
        | (exfalso; omega)
        | (refine hfin _ ?_
           (refine Zi [(100, 17)] rfl ?_ ?_ <;> repeat' (first|refine wkS ?_ ?_|exact wkE|exact Zt hw2|exact Zz rfl (by rw [hw1];rfl))))
    | some x =>
      obtain ⟨pre, m⟩ := x
      obtain ⟨hE, h0, h1, hl⟩ := ho _ rfl
      dsimp only at hE h0 h1 hl
      rw [hF1, hS1]
      dsimp only
      have hlen : pre.length = (ints pre).length := (Zu pre).symm
      have hp3 : pre.length ≤ 3 := by omega
      by_cases hlt : 128 ≤ m
      · rw [enc_step hlt oM] at hE hl
        have hw1 : IntKind.i64.wrap (m.tmod 128 + 128) = m % 128 + 128 := by rw [Int.tmod_eq_emod_of_nonneg h0, IntWalk.i64_in _ oM]
        have hw2 : IntKind.i64.wrap (m.tdiv 128) = m / 128 := by rw [Int.tdiv_eq_ediv_of_nonneg h0, IntWalk.i64_in _ oM]
        have hfin : ∀ s' : St, Weak s' (F (some (pre ++ [m % 128 + 128], m / 128))) → ∃ x' : Option (List Int × Int), (∀ x, x' = some x → enc n = x.1 ++ enc x.2 ∧ 0 ≤ x.2 ∧ x.2 ≤ 100000 ∧ x.1.length + (enc x.2).length ≤ 3) ∧ Weak s' (F x') ∧ (match x' with | none => 10000000 | some x => x.2.toNat) < m.toNat := fun s' h => ⟨some (pre ++ [m % 128 + 128], m / 128), fun x hx => by
          injection hx with hx; subst hx
          exact ⟨by rw [hE, List.append_assoc]; rfl, by dsimp only; omega, by dsimp only; omega, by simp only [List.length_append, List.length_cons, List.length_nil] at hl ⊢; omega⟩, h, by dsimp only; omega⟩
        rw [hF1, hS1] at hfin
        clear hE hl hF0 hF1 hS1 ho
        repeat' (first|refine wk ?_|((first|refine' w_q rfl rfl ?xa rfl ?_|refine' v_q rfl rfl ?xa rfl ?_|refine' Zn rfl rfl (Zb rfl) rfl ?xa rfl ?_|refine' Zo rfl rfl (Zb rfl) rfl ?xa rfl ?_);case xa => first|exact k_rem rfl rfl rfl (by decide)|exact k_div rfl rfl rfl (by decide))|((first|refine' w_e rfl ?xa ?xb ?xc ?xe ?_|refine' v_e rfl ?xa ?xb ?xc ?xe ?_);(case xa => first|exact Zl [.tmp 15] tlOk rfl rfl rfl rfl rfl rfl (Zy rfl) (by simp)|exact Zw tlOk rfl rfl rfl rfl rfl rfl (Z6 (Z0 (Zj rfl) rfl) (by simp [plain1, iP])) hlen (by simp only [maxLen, List.length_append, List.length_cons, List.length_nil];omega) (by (try simp only [List.length_append, List.length_cons, List.length_nil]);omega));(case xb|xc|xe=>rfl);try refine wkD ?_)|(refine wkB ?_ ?_<;>intro hg_<;>try exact wkX)|fail)
        all_goals first
          | (refine hfin _ ?_
             (refine Zi [(100, 17)] rfl ?_ ?_ <;> repeat' (first|refine wkS ?_ ?_|exact wkE|exact Zt hw2|exact Zba (by simp only [List.length_append, Zu, List.length_cons, List.length_nil])|exact Zz rfl (by rw [Zcb, hw1]))))
      · rw [enc_last h0 oM] at hE
        rw [hE]
        clear hE hl hF0 hF1 hS1 ho
        repeat' (first|refine wk ?_|((first|refine' w_e rfl ?xa ?xb ?xc ?xe ?_|refine' v_e rfl ?xa ?xb ?xc ?xe ?_);(case xa => first|exact Zl [.tmp 21] tlOk rfl rfl rfl rfl rfl rfl (Zy rfl) (by simp)|exact Zw tlOk rfl rfl rfl rfl rfl rfl (Z6 (Z0 (Zj rfl) rfl) (by simp [plain1, iP])) hlen (by simp only [maxLen, List.length_append, List.length_cons, List.length_nil];omega) (by (try simp only [List.length_append, List.length_cons, List.length_nil]);omega));(case xb|xc|xe=>rfl);try refine wkD ?_)|(refine wkB ?_ ?_<;>intro hg_<;>try exact wkX)|fail)
        all_goals first
          | (rw [Zcb]; exact Zb8 rfl rfl (by simp only [List.length_append]))
theorem ovar1 {E : TypeId} {a b : Cell} (h : a = b) : Ob.var E [a] = .var E [b]:=by rw [h]
theorem f_putO (pre : List Int) (n : Int) (hf : fits n = true) (hp : pre.length ≤ 100) : FnS Try.prog 94 [.one (.ptr 1000000000 0 0 0),.one (.r false (int n))] [(1000000000,.var 115 [.own 1000001 0 pre.length 1]),(1000001,.sl 3 1 true (ints pre))] (.tup true []) [(1000000000,.var 115 [.own 2000001 0 (pre ++ enc n).length 1]),(2000001,.sl 3 1 true (ints (pre ++ enc n)))]:=by
 have KE:=f_implEncode n hf
 have hn:=(Zco n).1 hf
 have hp':=enc_pos hn.1 hn.2
 have h3:=Za0 n
 have hl:=Zu (enc n)
 have hpl:=Zu pre
 generalize enc n = en at *
 refine Zad (l:=[]) Try.func94 kRf rfl Try.ntmps94 rfl rfl ?_; simp only [dEnv,Nat.reduceAdd]
 repeat' (first|refine wk ?_|((first|refine' w_e rfl ?xa ?xb ?xc ?xe ?_|refine' v_e rfl ?xa ?xb ?xc ?xe ?_);(case xa=>first|exact Zbe KE rfl rfl ⟨Zf (Za rfl),trivial⟩|exact Zw tlOk rfl rfl rfl rfl rfl rfl (Z6 (Z0 (Zj rfl) rfl) (Zbx _)) hpl.symm (by simp only [maxLen,List.length_append,List.length_cons,List.length_nil];omega) (by (try simp only [List.length_append,List.length_cons,List.length_nil]);omega));(case xb|xc|xe=>rfl);try refine wkD ?_)|(refine wkB ?_ ?_<;>intro hg_<;>try exact wkX)|fail)
 all_goals first
  | exact end_D [(2000001,11)] rfl (by (repeat' (first|exact trivial|refine Zb2 rfl ?_ ?_|rfl|exact ovar1 (cell_ownN (by rw [List.length_append,hl,hpl]))|exact Zz rfl (ints_appB _ _).symm))) ⟨_,rfl,Zac rfl⟩
end Go.Proofs.Ytmkijbfiilpccaa.Abs
