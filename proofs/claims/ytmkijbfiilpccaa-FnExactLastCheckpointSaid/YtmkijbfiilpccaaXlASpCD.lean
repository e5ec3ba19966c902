/- Codes, frames and graphs as bytes by states: the reference's writers. No statement of the seat is proved here. -/
import Derived.Lib.Hide
import Derived.Test.YtmkijbfiilpccaaXlTy
import Derived.Test.YtmkijbfiilpccaaXlAbsX
import Derived.Test.YtmkijbfiilpccaaXlALift
import Derived.Test.YtmkijbfiilpccaaXlAGrH
set_option linter.unusedSimpArgs false
set_option linter.unusedVariables false
set_option maxRecDepth 100000
set_option maxHeartbeats 4000000
namespace Go.Proofs.Ytmkijbfiilpccaa.Abs
open Go.RowKit
open R (val row ref)
abbrev rowP (b : List Int) : P0:=.one (row false 1 (ints b))
def rowsI (bs : List (List Int)) : List P0:=bs.map rowP
theorem Zag (bs : List (List Int)) : (rowsI bs).length = bs.length:=List.length_map ..
theorem rowsI_get {bs : List (List Int)} {k : Nat} (h : k < bs.length) : (rowsI bs)[k]? = some (rowP bs[k]):=by unfold rowsI; simp [h]
theorem Za3 {bs : List (List Int)} {k : Nat} (h : k < bs.length) : (rowsI bs)[(k : Int).toNat]? = some (rowP bs[k]):=rowsI_get h
theorem rowsI_app (bs : List (List Int)) (b : List Int) : rowsI (bs ++ [b]) = rowsI bs ++ [rowP b]:=by unfold rowsI; rw [List.map_append]; rfl
theorem e_buildF {P : Program} {tl : TL} {l : List (Nat × D)} {h : List (Nat × Ob)} {o : Oper} {t k n sz c by_ : Nat} {E E2 T : TypeId} {ps : Array (Nat × Operand)} {m : Bool} {els : List P0} (u : Nat) (hT : TLOk P tl) (ho : o.op = .buildSlice T c ps) (hps : ps = (enumO 0 [.tmp u]).toArray) (hc : c = 1) (hd : o.dst = some t) (he : elL tl.els T = some (E,1,by_))
  (hx : evO l (.tmp u) = some (.one (.own k 0 n sz))) (hk : lookHO h k = some (.sl E2 sz m els)) (hn : n = els.length) :
  Eff P (lookH h) (evD (look l)) o (.one (.own t 0 1 1)) [k] [t] [(k,none),(t,some (.sl E 1 m [.one (row false sz els)]))]:=by
 have hp : partsO [(u,.one (.r m (row false sz els)))] [.tmp u] = some (m,[.one (row false sz els)]):=by
  simp [partsO,evO,lookO,dP,nb]
 have hE : Eff P (fun _=>none) (evD (look [(u,.one (.r m (row false sz els)))])) o (.one (.own t 0 1 1)) [] [t] [(t,some (.sl E 1 m [.one (row false sz els)]))] :=
  Z0 [.tmp u] hT ho hps hc hd he hp (Zad rfl) (by simp)
 have hops : ∀ x ∈ o.op.operands,x = .tmp u:=by
  intro x hx'
  rw [ho,hps] at hx'
  simpa [Op.operands,enumO] using hx'
 intro base a w ι own hown hbase hev hH hHi K Q hK
 have hKk:=hH k _ (Zf hk)
 have hsub : ∀ b,(own b ∧ b ≠ (ι k).1) → own b:=fun b h=>h.1
 have hno : ¬ (own (ι k).1 ∧ (ι k).1 ≠ (ι k).1):=fun h=>h.2 rfl
 have hb : own (ι k).1 → base ≤ (ι k).1:=fun h=>(hown _ h).1
 refine hE base a w ι (fun b=>own b ∧ b ≠ (ι k).1) (fun b h=>hown b h.1) hbase (fun x hx'=>?_) (fun x ob hx'=>by cases hx') (fun x x' ob ob' hx'=>by cases hx') K Q (fun v w' ι' own' hc=>?_)
 ·have hxu:=hops x hx'
  have h1:=hev x hx'
  subst hxu
  rw [Za hx] at h1
  have h2:=frC_p hb hKk hsub hno (x:=.own k 0 n sz) h1
  have e1 : frC k sz m els (.own k 0 n sz) = .r m (row false sz els):=by
   have : Nat.ble els.length els.length = true:=by rw [Nat.ble_eq]; exact Nat.le_refl _
   simp [frC,hn,this]
  rw [e1] at h2
  have e2 : evD (look [(u,D.one (.r m (row false sz els)))]) (.tmp u) = .one (.r m (row false sz els)):=by simp [evD,look,upd]
  rw [e2]
  exact h2
 ·refine hK v w' ι' own' ⟨hc.os,hc.tape,hc.output,hc.size,fun b hb hn=>hc.block b hb (fun k0 h0=>by cases h0),hc.sized,fun b hb hn=>hc.own1 b ⟨hb,hn k (List.mem_cons_self ..)⟩ (fun k0 h0=>by cases h0),fun b hb=>?_,hc.own3,hc.same,hc.val,fun x ob hx=>?_,fun x ob x' ob' hx hx' e=>?_⟩
  ·rcases hc.own2 b hb with h1 | h1
   ·exact .inl h1.1
   ·exact .inr h1
  ·rcases List.mem_cons.1 hx with h1 | h1
   ·cases h1
   ·obtain ⟨a1,a2,a3⟩:=hc.named x ob h1
    refine ⟨a1,a2,a3.imp id fun ⟨k0,h0,e⟩=>by cases h0⟩
  ·rcases List.mem_cons.1 hx with h1 | h1
   ·cases h1
   ·rcases List.mem_cons.1 hx' with h2 | h2
    ·cases h2
    ·exact hc.inj x ob x' ob' h1 h2 e
theorem Zbj (n : Int) : FnO Try.prog 47 [iP n] 3 1 (ints (enc n)) := by
  have KR := f_l1In n 0 1000000
  cases hR : inR 0 1000000 n
  · rw [hR] at KR
    rw [enc_no (by unfold inR at hR; simp at hR; omega)]
    refine fn_ofO Try.func47 kRf rfl Try.ntmps47 rfl rfl ?_; simp only [argEnv, P0.d, Nat.reduceAdd, List.map_cons, List.map_nil]
    repeat' (first|refine wk ?_|((first|refine' w_q rfl rfl ?xa rfl ?_|refine' v_q rfl rfl ?xa rfl ?_|refine' Zh rfl rfl (Zb rfl) rfl ?xa rfl ?_|refine' Zi rfl rfl (Zb rfl) rfl ?xa rfl ?_);case xa => exact Ze KR rfl ⟨Zd (Za rfl), Zd (Za rfl), Zd (Za rfl), trivial⟩)|((first|refine' w_e rfl ?xa ?xb ?xc ?xe ?_|refine' v_e rfl ?xa ?xb ?xc ?xe ?_);(case xa => exact Z0 [] tlOk rfl rfl rfl rfl rfl rfl (by simp [AllN]) (by simp));(case xb|xc|xe=>rfl);try refine wkD ?_)|(refine wkB ?_ ?_<;>intro hg_<;>try exact wkX)|fail)
    all_goals first
      | exact ret_own rfl rfl rfl
  · rw [hR] at KR
    have hn : 0 ≤ n ∧ n ≤ 1000000 := by unfold inR at hR; simp at hR; omega
    refine fn_ofO Try.func47 kRf rfl Try.ntmps47 rfl rfl ?_; simp only [argEnv, P0.d, Nat.reduceAdd, List.map_cons, List.map_nil]
    repeat' (first|refine wk ?_|((first|refine' w_q rfl rfl ?xa rfl ?_|refine' v_q rfl rfl ?xa rfl ?_|refine' Zh rfl rfl (Zb rfl) rfl ?xa rfl ?_|refine' Zi rfl rfl (Zb rfl) rfl ?xa rfl ?_);case xa => exact Ze KR rfl ⟨Zd (Za rfl), Zd (Za rfl), Zd (Za rfl), trivial⟩)|((first|refine' w_e rfl ?xa ?xb ?xc ?xe ?_|refine' v_e rfl ?xa ?xb ?xc ?xe ?_);(case xa => exact Z0 [] tlOk rfl rfl rfl rfl rfl rfl (by simp [AllN]) (by simp));(case xb|xc|xe=>rfl);try refine wkD ?_)|(refine wkB ?_ ?_<;>intro hg_<;>try exact wkX)|fail)
    refine Z7 (fun x : Bool × List Int × Int => enc n = x.2.1 ++ enc x.2.2 ∧ 0 ≤ x.2.2 ∧ x.2.2 ≤ 1000000 ∧ x.2.1.length + (enc x.2.2).length ≤ 3) (fun x => mkS 23 [(3, .one (.own 100 0 x.2.1.length 1)), (0, .one (.r x.1 (int x.2.2)))] [(100, .sl 3 1 true (ints x.2.1))]) (fun x => x.2.2.toNat) (false, [], n) ⟨rfl, hn.1, hn.2, by simpa using Zau n⟩ (by (refine Zg [(100, 4)] rfl ?_ ?_ <;>exact wkW)) ?_
    rintro ⟨bb, pre, m⟩ ⟨hE, h0, h1, hl⟩
    dsimp only at hE h0 h1 hl ⊢
    have hlen : pre.length = (ints pre).length := (Zp pre).symm
    have hp3 : pre.length ≤ 3 := by omega
    by_cases hlt : 128 ≤ m
    · rw [enc_step hlt h1] at hE hl
      have hw1 : IntKind.i64.wrap (m.tmod 128 + 128) = m % 128 + 128 := by rw [Int.tmod_eq_emod_of_nonneg h0, IntWalk.i64_in _ oM]
      have hw2 : IntKind.i64.wrap (m.tdiv 128) = m / 128 := by rw [Int.tdiv_eq_ediv_of_nonneg h0, IntWalk.i64_in _ oM]
      have hfin : ∀ s' : St, Weak s' (mkS 23 [(3, .one (.own 100 0 (pre ++ [m % 128 + 128]).length 1)), (0, .one (.r true (int (m / 128))))] [(100, .sl 3 1 true (ints (pre ++ [m % 128 + 128])))]) → ∃ x' : Bool × List Int × Int, (enc n = x'.2.1 ++ enc x'.2.2 ∧ 0 ≤ x'.2.2 ∧ x'.2.2 ≤ 1000000 ∧ x'.2.1.length + (enc x'.2.2).length ≤ 3) ∧ Weak s' (mkS 23 [(3, .one (.own 100 0 x'.2.1.length 1)), (0, .one (.r x'.1 (int x'.2.2)))] [(100, .sl 3 1 true (ints x'.2.1))]) ∧ x'.2.2.toNat < m.toNat := fun s' h => ⟨(true, pre ++ [m % 128 + 128], m / 128), ⟨by rw [hE, List.append_assoc]; rfl, by dsimp only; omega, by dsimp only; omega, by simp only [List.length_append, List.length_cons, List.length_nil] at hl ⊢; omega⟩, h, by dsimp only; omega⟩
      clear hE hl
      repeat' (first|refine wk ?_|((first|refine' w_q rfl rfl ?xa rfl ?_|refine' v_q rfl rfl ?xa rfl ?_|refine' Zh rfl rfl (Zb rfl) rfl ?xa rfl ?_|refine' Zi rfl rfl (Zb rfl) rfl ?xa rfl ?_);case xa => first|exact k_rem rfl rfl rfl (by decide)|exact k_div rfl rfl rfl (by decide))|((first|refine' w_e rfl ?xa ?xb ?xc ?xe ?_|refine' v_e rfl ?xa ?xb ?xc ?xe ?_);(case xa => first|exact Z0 [.tmp 14] tlOk rfl rfl rfl rfl rfl rfl (Zad rfl) (by simp)|exact Zah tlOk rfl rfl rfl rfl rfl rfl (Zaa (Z8 (Zf rfl) rfl) (by simp [plain1, iP])) hlen (by simp only [maxLen, List.length_append, List.length_cons, List.length_nil];omega) (by (try simp only [List.length_append, List.length_cons, List.length_nil]);omega));(case xb|xc|xe=>rfl);try refine wkD ?_)|(refine wkB ?_ ?_<;>intro hg_<;>try exact wkX)|fail)
      all_goals first
        | (refine hfin _ ?_
           (refine Zg [(100, 16)] rfl ?_ ?_ <;> repeat' (first|refine wkS ?_ ?_|exact wkE|exact Zq hw2|exact d_own (by simp only [List.length_append, Zp, List.length_cons, List.length_nil])|exact Zaf rfl (by rw [ints_app, hw1]))))
    · rw [enc_last h0 oM] at hE
      rw [hE]
      clear hE hl
      repeat' (first|refine wk ?_|((first|refine' w_e rfl ?xa ?xb ?xc ?xe ?_|refine' v_e rfl ?xa ?xb ?xc ?xe ?_);(case xa => first|exact Z0 [.tmp 20] tlOk rfl rfl rfl rfl rfl rfl (Zad rfl) (by simp)|exact Zah tlOk rfl rfl rfl rfl rfl rfl (Zaa (Z8 (Zf rfl) rfl) (by simp [plain1, iP])) hlen (by simp only [maxLen, List.length_append, List.length_cons, List.length_nil];omega) (by (try simp only [List.length_append, List.length_cons, List.length_nil]);omega));(case xb|xc|xe=>rfl);try refine wkD ?_)|(refine wkB ?_ ?_<;>intro hg_<;>try exact wkX)|fail)
      all_goals first
        | (rw [ints_app]; exact ret_own rfl rfl (by simp only [List.length_append]))
theorem f_specEdgeBody (e : E3) : FnO Try.prog 48 [edgeP e] 3 1 (ints (edgeB e.1 e.2.1 e.2.2)) := by
  obtain ⟨a, b, c⟩ := e
  dsimp only
  have KA := Zbj a
  have KB := Zbj b
  have KC := Zbj c
  have ha := Zau a
  have hb := Zau b
  have hc := Zau c
  have hfa : fits a = true ↔ 0 < (enc a).length := by
    unfold fits; rw [decide_eq_true_eq]
    exact ⟨fun h => enc_pos h.1 h.2, fun h => by
      by_cases h' : 0 ≤ a ∧ a ≤ 1000000
      · exact h'
      · rw [enc_no oM] at h; simp at h⟩
  have hfb : fits b = true ↔ 0 < (enc b).length := by
    unfold fits; rw [decide_eq_true_eq]
    exact ⟨fun h => enc_pos h.1 h.2, fun h => by
      by_cases h' : 0 ≤ b ∧ b ≤ 1000000
      · exact h'
      · rw [enc_no oM] at h; simp at h⟩
  have hfc : fits c = true ↔ 0 < (enc c).length := by
    unfold fits; rw [decide_eq_true_eq]
    exact ⟨fun h => enc_pos h.1 h.2, fun h => by
      by_cases h' : 0 ≤ c ∧ c ≤ 1000000
      · exact h'
      · rw [enc_no oM] at h; simp at h⟩
  unfold edgeB
  generalize fits a = fa at *
  generalize fits b = fb at *
  generalize fits c = fc at *
  generalize enc a = ea at *
  generalize enc b = eb at *
  generalize enc c = ec at *
  have la := Zp ea
  have lb := Zp eb
  have lc := Zp ec
  refine fn_ofO Try.func48 kRf rfl Try.ntmps48 rfl rfl ?_; simp only [argEnv, P0.d, Nat.reduceAdd, List.map_cons, List.map_nil, edgeP]
  repeat' (first|refine wk ?_|((first|refine' w_e rfl ?xa ?xb ?xc ?xe ?_|refine' v_e rfl ?xa ?xb ?xc ?xe ?_);(case xa => first|exact Zbe KA rfl rfl ⟨Zd (Za rfl), trivial⟩|exact Zbe KB rfl rfl ⟨Zd (Za rfl), trivial⟩|exact Zbe KC rfl rfl ⟨Zd (Za rfl), trivial⟩|exact Z0 [] tlOk rfl rfl rfl rfl rfl rfl (by simp [AllN]) (by simp)|exact Zah tlOk rfl rfl rfl rfl rfl rfl (Zaa (Z8 (Zf rfl) rfl) (Zbt _)) (by first|rfl|(simp only [List.length_append];done)) (by simp only [maxLen, List.length_append, List.length_cons, List.length_nil];omega) (by (try simp only [List.length_append, List.length_cons, List.length_nil]);omega));(case xb|xc|xe=>rfl);try refine wkD ?_)|(refine wkB ?_ ?_<;>intro hg_<;>try exact wkX)|fail)
  all_goals first
    | (have : (fa && fb && fc) = false := by
         rw [Bool.and_eq_false_iff, Bool.and_eq_false_iff]
         cases fa <;> cases fb <;> cases fc <;> simp_all
       rw [this]
       exact ret_own rfl rfl rfl)
    | (have : (fa && fb && fc) = true := by
         rw [Bool.and_eq_true, Bool.and_eq_true]
         refine ⟨⟨hfa.2 ?_, hfb.2 ?_⟩, hfc.2 ?_⟩ <;> omega
       rw [this, if_pos rfl, ints_appB, ints_appB]
       exact ret_own rfl rfl (by simp only [List.length_append]))
end Go.Proofs.Ytmkijbfiilpccaa.Abs
