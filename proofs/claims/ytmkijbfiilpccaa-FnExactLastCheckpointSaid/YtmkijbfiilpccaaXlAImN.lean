/- Checkpoints by states: numbers behind a tag, by the program. No statement of the seat is proved here. -/
import Derived.Lib.Hide
import Derived.Test.YtmkijbfiilpccaaXlTy
import Derived.Test.YtmkijbfiilpccaaXlGStaCk
import Derived.Test.YtmkijbfiilpccaaXlAImE
set_option linter.unusedSimpArgs false
set_option linter.unusedVariables false
set_option maxRecDepth 100000
set_option maxHeartbeats 8000000
namespace Go.Proofs.Ytmkijbfiilpccaa.Abs
open Go.RowKit
open R (val row ref)
def rdN (xs : List Int) : Nat → Nat → List Int → Option (List Int × Nat)
 | 0,p,acc=>some (acc,p)
 | k + 1,p,acc=>if p < xs.length then (if (numF 3 0 0 1 xs p).2.1 then rdN xs k (numF 3 0 0 1 xs p).2.2 (acc ++ [(numF 3 0 0 1 xs p).1]) else none) else none
def nbE (b : List Int) : Option (List Int × Nat) → Option (List Int) × Bool
 | some (ns,p)=>(some ns,decide (p = b.length))
 | none=>(none,false)
def nbF (tag : Int) (k : Nat) (b : List Int) : Option (List Int) × Bool :=
 if bodyOk b = true ∧ b.head? = some tag then nbE b (rdN b k 1 []) else (none,false)
def nbRes : Option (List Int) × Bool → Res
 | (some ns,q)=>.tup [.one (row false 1 (ints ns)),.one (bool q)]
 | (none,_)=>.tup [.one (row true 1 []),.one (bool false)]
theorem f_numberEnd (m1 m2 nil : Bool) (xs : List Int) (hx : xs.length ≤ 2000) :
  FnS Try.prog 85 [.one (.ptr 1000000000 0 0 0)] (brH 1000000000 m1 m2 nil xs xs.length) (.tup true [iP 0,.one (bool false)]) (brH 1000000000 m1 m2 nil xs xs.length):=by
 have K:=f_next m1 m2 nil xs xs.length hx hx
 rw [if_neg oM,show decide (xs.length < xs.length) = false by simp,List.getElem?_eq_none oM] at K
 dsimp only at K
 unfold brH at *
 refine Zac (l:=[.tmp 2,.tmp 3]) Try.func85 kRf rfl Try.ntmps85 rfl rfl ?_; simp only [dEnv,Nat.reduceAdd]
 repeat' (first|refine wk ?_|(refine wkB ?_ ?_<;>intro hg_<;>try exact wkX)|fail)
 refine Z7 (fun x : Nat=>x = 0) (fun x=>mkS 44 [(6,.one (.r true (int (x : Int)))),(0,.one (.ptr 1000000000 0 0 0))] [(1000000000,.var 102 [.r m1 (row nil 1 (ints xs)),.r m2 (int (xs.length : Int))])]) (fun x=>x) 0 rfl (by (refine Zg [] rfl ?_ ?_ <;>exact wkW)) ?_
 rintro x rfl
 repeat' (first|refine wk ?_|((first|refine' w_e rfl ?xa ?xb ?xc ?xe ?_|refine' v_e rfl ?xa ?xb ?xc ?xe ?_);(case xa=>exact Zj 15 rfl (Zm [] K rfl ⟨Zl (Za rfl),trivial⟩ sbH rfl));(case xb|xc|xe=>rfl);try refine wkD ?_)|(refine wkB ?_ ?_<;>intro hg_<;>try exact wkX)|fail)
 all_goals first
  | exact Zu [] rfl sbH (Za6 (Zr rfl (Z4 rfl)) (Zr rfl (Zo rfl)) rfl)
  | (exfalso; omega)
theorem f_numberAny (m1 m2 nil : Bool) (xs : List Int) (p : Nat) (hx : bytesOk xs = true) (hp : p ≤ xs.length) :
  ∃ n ok p' m2',FnS Try.prog 85 [.one (.ptr 1000000000 0 0 0)] (brH 1000000000 m1 m2 nil xs p) (.tup true [iP n,.one (bool ok)]) (brH 1000000000 m1 m2' nil xs p') ∧ p' ≤ xs.length ∧ ∀ k acc,rdN xs (k + 1) p acc = if ok then rdN xs k p' (acc ++ [n]) else none:=by
 by_cases h : p < xs.length
 ·exact ⟨_,_,_,_,f_number m1 m2 nil xs p hx h,numF_bd 3 0 0 1 p hp,fun k acc=>by rw [rdN,if_pos h]⟩
 ·obtain rfl : p = xs.length:=by omega
  exact ⟨0,false,_,m2,f_numberEnd m1 m2 nil xs (bytesOk_len hx),hp,fun k acc=>by rw [rdN,if_neg h]; rfl⟩
theorem f_numbersNo (nil : Bool) (b : List Int) (tag k : Int) (h : ¬ (bodyOk b = true ∧ b.head? = some tag)) : Fn Try.prog 62 [.one (row nil 1 (ints b)),iP tag,iP k] (.tup [.one (row true 1 []),.one (bool false)]):=by
 have KB:=f_implBodyOk nil b
 cases hb : bodyOk b
 ·rw [hb] at KB
  refine Zy (l:=[.tmp 6,.tmp 7]) Try.func62 kRf rfl Try.ntmps62 rfl rfl ?_; simp only [argEnv,P0.d,Nat.reduceAdd]
  repeat' (first|refine wk ?_|((first|refine' w_q rfl rfl ?xa rfl ?_|refine' v_q rfl rfl ?xa rfl ?_|refine' Zh rfl rfl (Zb rfl) rfl ?xa rfl ?_|refine' Zi rfl rfl (Zb rfl) rfl ?xa rfl ?_);case xa=>exact Ze KB rfl ⟨Zd (Za rfl),trivial⟩)|(refine wkB ?_ ?_<;>intro hg_<;>try exact wkX)|fail)
  all_goals first
   | exact ret_2 (Zr rfl (Za7 Zae)) (Zr rfl (Zo rfl))
 ·rw [hb] at KB
  cases b with
  | nil=>cases hb
  | cons z b =>
   have hz : z ≠ tag:=fun e=>h ⟨hb,by rw [e]; rfl⟩
   have hx2 : (ints (z :: b))[(0 : Int).toNat]? = some (iP z):=rfl
   have hl : (ints (z :: b)).length = b.length + 1:=by rw [Zp]; rfl
   refine Zy (l:=[.tmp 6,.tmp 7]) Try.func62 kRf rfl Try.ntmps62 rfl rfl ?_; simp only [argEnv,P0.d,Nat.reduceAdd]
   repeat' (first|refine wk ?_|((first|refine' w_q rfl rfl ?xa rfl ?_|refine' v_q rfl rfl ?xa rfl ?_|refine' Zh rfl rfl (Zb rfl) rfl ?xa rfl ?_|refine' Zi rfl rfl (Zb rfl) rfl ?xa rfl ?_);case xa=>first|exact Ze KB rfl ⟨Zd (Za rfl),trivial⟩|exact Zn tbOk rfl rfl rfl rfl oM hx2)|(refine wkB ?_ ?_<;>intro hg_<;>try exact wkX)|fail)
   all_goals first
    | exact ret_2 (Zr rfl (Za7 Zae)) (Zr rfl (Zo rfl))
    | (exfalso; simp_all; done)
theorem fill_next {acc : List Int} {k : Nat} {n : Int} (h : acc.length < k) : (ints (acc ++ List.replicate (k - acc.length) 0)).set acc.length (iP n) = ints ((acc ++ [n]) ++ List.replicate (k - (acc.length + 1)) 0):=by
 have e : k - acc.length = (k - (acc.length + 1)) + 1:=by omega
 rw [e,List.replicate_succ]
 unfold ints
 simp [List.set_append]
theorem f_numbersYes (nil : Bool) (b : List Int) (tag : Int) (k : Nat) (hk3 : k ≤ 3) (hb : bodyOk b = true) (hh : b.head? = some tag) : Fn Try.prog 62 [.one (row nil 1 (ints b)), iP tag, iP (k : Int)] (nbRes (nbF tag k b)) := by
  have KB := f_implBodyOk nil b
  rw [hb] at KB
  have hby : bytesOk b = true := by unfold bodyOk at hb; simp only [Bool.and_eq_true] at hb; exact hb.1.1
  have hbl : 1 ≤ b.length := by unfold bodyOk at hb; simp at hb; omega
  obtain ⟨RR, hRR⟩ : ∃ RR, RR = rdN b k 1 [] := ⟨_, rfl⟩
  have hX : nbF tag k b = nbE b RR := by rw [hRR]; unfold nbF; rw [if_pos ⟨hb, hh⟩]
  rw [hX]
  clear hX
  have hx2 : (ints b)[(0 : Int).toNat]? = some (iP tag) := by
    cases b with
    | nil => cases hh
    | cons z b => simp only [List.head?_cons, Option.some.injEq] at hh; rw [← hh]; rfl
  have hlb := Zp b
  clear hb hh
  refine Zy (l := [.tmp 6, .tmp 7]) Try.func62 kRf rfl Try.ntmps62 rfl rfl ?_; simp only [argEnv, P0.d, Nat.reduceAdd]
  repeat' (first|refine wk ?_|((first|refine' w_q rfl rfl ?xa rfl ?_|refine' v_q rfl rfl ?xa rfl ?_|refine' Zh rfl rfl (Zb rfl) rfl ?xa rfl ?_|refine' Zi rfl rfl (Zb rfl) rfl ?xa rfl ?_);case xa => first|exact Ze KB rfl ⟨Zd (Za rfl), trivial⟩|exact Zn tbOk rfl rfl rfl rfl oM hx2)|((first|refine' w_e rfl ?xa ?xb ?xc ?xe ?_|refine' v_e rfl ?xa ?xb ?xc ?xe ?_);(case xa => exact e_make tlOk rfl rfl rfl rfl rfl rfl (c := k) rfl rfl oM (by simp only [maxLen];omega));(case xb|xc|xe=>rfl);try refine wkD ?_)|(refine wkB ?_ ?_<;>intro hg_<;>try exact wkX)|fail)
  obtain ⟨F, hFs⟩ : ∃ F : Nat × Bool × List Int → St, ∀ p m2 acc, F (p, m2, acc) = mkS 45 [(29, .one (.r true (int (acc.length : Int)))), (28, .one (.r true (int (k : Int)))), (9, .one (.own 100 0 k 1)), (8, .one (.ptr 8 0 0 0))] [(100, .sl 3 1 true (ints (acc ++ List.replicate (k - acc.length) 0))), (8, .var 102 [.r false (row nil 1 (ints b)), .r m2 (int (p : Int))])] := ⟨fun x => mkS 45 [(29, .one (.r true (int (x.2.2.length : Int)))), (28, .one (.r true (int (k : Int)))), (9, .one (.own 100 0 k 1)), (8, .one (.ptr 8 0 0 0))] [(100, .sl 3 1 true (ints (x.2.2 ++ List.replicate (k - x.2.2.length) 0))), (8, .var 102 [.r false (row nil 1 (ints b)), .r x.2.1 (int (x.1 : Int))])], fun _ _ _ => rfl⟩
  refine Z7 (fun x : Nat × Bool × List Int => x.1 ≤ b.length ∧ x.2.2.length ≤ k ∧ RR = rdN b (k - x.2.2.length) x.1 x.2.2) F (fun x => k - x.2.2.length) (1, true, []) ⟨hbl, Nat.zero_le _, hRR⟩ (by
    rw [hFs]
    (refine Zg [(100, 26)] rfl ?_ ?_ <;> repeat' (first|refine wkS ?_ ?_|exact wkE|exact Zaf rfl (by unfold ints;simp)))) ?_
  rintro ⟨p, m2, acc⟩ ⟨hp, hacc, hE⟩
  dsimp only at hp hacc hE
  have hlr : (ints (acc ++ List.replicate (k - acc.length) 0)).length = k := by rw [Zp]; simp; omega
  clear hRR hx2
  by_cases hlt : acc.length < k
  · obtain ⟨n, ok, p', m2', KN, hp', hstep⟩ := f_numberAny false m2 nil b p hby hp
    rw [show k - acc.length = (k - (acc.length + 1)) + 1 by omega, hstep] at hE
    have hnext := fill_next (n := n) hlt
    cases ok
    · rw [if_neg (by decide)] at hE
      rw [hE, hFs]
      unfold nbE nbRes brH at *
      dsimp only
      clear hFs hE hstep KB hnext
      repeat' (first|refine wk ?_|((first|refine' w_e rfl ?xa ?xb ?xc ?xe ?_|refine' v_e rfl ?xa ?xb ?xc ?xe ?_);(case xa => exact Zj 33 rfl (Zm [(1000000000, 8)] KN rfl ⟨Zl (Za rfl), trivial⟩ sbH rfl));(case xb|xc|xe=>rfl);try refine wkD ?_)|(refine wkB ?_ ?_<;>intro hg_<;>try exact wkX)|fail)
      all_goals first
        | exact ret_2 (Zr rfl (Za7 Zae)) (Zr rfl (Zo rfl))
        | (exfalso; omega)
    · rw [if_pos rfl] at hE
      have hfin : ∀ s' : St, Weak s' (F (p', m2', acc ++ [n])) → ∃ x' : Nat × Bool × List Int, (x'.1 ≤ b.length ∧ x'.2.2.length ≤ k ∧ RR = rdN b (k - x'.2.2.length) x'.1 x'.2.2) ∧ Weak s' (F x') ∧ k - x'.2.2.length < k - acc.length := fun s' h => ⟨(p', m2', acc ++ [n]), ⟨hp', by simp; omega, by rw [hE]; simp⟩, h, by simp; omega⟩
      rw [hFs] at hfin ⊢
      have hw1 : IntKind.i64.wrap ((acc.length : Int) + 1) = ((acc ++ [n]).length : Int) := by rw [IntWalk.i64_in _ oM]; simp
      have hls : (acc ++ [n]).length = acc.length + 1 := by simp
      rw [hls, ← hnext] at hfin
      rw [hls] at hw1
      clear hFs hE hstep KB hnext
      generalize ints (acc ++ List.replicate (k - acc.length) 0) = els at *
      unfold brH at *
      repeat' (first|refine wk ?_|((first|refine' w_q rfl rfl ?xa rfl ?_|refine' v_q rfl rfl ?xa rfl ?_|refine' Zh rfl rfl (Zb rfl) rfl ?xa rfl ?_|refine' Zi rfl rfl (Zb rfl) rfl ?xa rfl ?_);case xa => exact k_indexO tbOk rfl rfl rfl rfl oM oM)|((first|refine' w_e rfl ?xa ?xb ?xc ?xe ?_|refine' v_e rfl ?xa ?xb ?xc ?xe ?_);(case xa => first|exact Zj 33 rfl (Zm [(1000000000, 8)] KN rfl ⟨Zl (Za rfl), trivial⟩ sbH rfl)|exact e_storeS tbOk rfl rfl rfl rfl rfl rfl rfl rfl oM);(case xb|xc|xe=>rfl);try refine wkD ?_)|(refine wkB ?_ ?_<;>intro hg_<;>try exact wkX)|fail)
      all_goals first
        | (refine hfin _ ?_
           (refine Zg [] rfl ?_ ?_ <;> repeat' (first|refine wkS ?_ ?_|exact wkE|exact Zq hw1|exact Zaf rfl (by rw [Nat.zero_add, Int.toNat_natCast]))))
        | (exfalso; omega)
  · have hke : acc.length = k := by omega
    have KD := f_brDone false m2 nil b p
    subst hke
    rw [Nat.sub_self, rdN] at hE
    rw [hE, hFs]
    unfold nbE nbRes brH at *
    dsimp only
    rw [Nat.sub_self, List.replicate_zero, List.append_nil]
    have hla := (Zp acc).symm
    clear hFs hE KB hlr
    repeat' (first|refine wk ?_|((first|refine' w_e rfl ?xa ?xb ?xc ?xe ?_|refine' v_e rfl ?xa ?xb ?xc ?xe ?_);(case xa => exact Zj 44 rfl (Zm [(1000000000, 8)] KD rfl ⟨Zl (Za rfl), trivial⟩ sbH rfl));(case xb|xc|xe=>rfl);try refine wkD ?_)|(refine wkB ?_ ?_<;>intro hg_<;>try exact wkX)|fail)
    all_goals first
      | exact ret_2 (Zr rfl (Za7 (Zz (Zf rfl) hla))) (Zr rfl (Zo rfl))
      | (exfalso; omega)
theorem Zav (nil : Bool) (b : List Int) (tag : Int) (k : Nat) (hk3 : k ≤ 3) : Fn Try.prog 62 [.one (row nil 1 (ints b)),iP tag,iP (k : Int)] (nbRes (nbF tag k b)):=by
 by_cases h : bodyOk b = true ∧ b.head? = some tag
 ·exact f_numbersYes nil b tag k hk3 h.1 h.2
 ·have e : nbF tag k b = (none,false):=by unfold nbF; rw [if_neg h]
  rw [e]
  exact f_numbersNo nil b tag k h
end Go.Proofs.Ytmkijbfiilpccaa.Abs
