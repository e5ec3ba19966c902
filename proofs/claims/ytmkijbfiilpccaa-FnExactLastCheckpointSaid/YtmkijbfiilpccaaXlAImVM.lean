/- Checkpoints by states: the program's readers of values and messages. No statement of the seat is proved here. -/
import Derived.Lib.Hide
import Derived.Test.YtmkijbfiilpccaaXlTy
import Derived.Test.YtmkijbfiilpccaaXlGCkn
import Derived.Test.YtmkijbfiilpccaaXlACkRL
set_option linter.unusedSimpArgs false
set_option linter.unusedVariables false
set_option maxRecDepth 100000
set_option maxHeartbeats 8000000
namespace Go.Proofs.Ytmkijbfiilpccaa.Abs
open Go.RowKit
open R (val row ref)
def rdV1 (b : List Int) : Option (Int × Bool) :=
 match nbF 2 2 b with
 | (some [a,g],true)=>if g ≤ 1 then some (a - 1,g == 1) else none
 | _=>none
def rdM1 (b : List Int) : Option E3 :=
 match nbF 3 3 b with
 | (some [a,c,d],true)=>some (a,c,d)
 | _=>none
def rdAll {α : Type} (f : List Int → Option α) : List (List Int) → Option (List α)
 | []=>some []
 | b :: bs=>match f b with
  | some x=>match rdAll f bs with
   | some xs=>some (x :: xs)
   | none=>none
  | none=>none
theorem rdV1_form (b : List Int) : (∃ nn ns,nbRes (nbF 2 2 b) = .tup [.one (row nn 1 (ints ns)),.one (bool false)] ∧ rdV1 b = none) ∨ (∃ a g,nbRes (nbF 2 2 b) = .tup [.one (row false 1 (ints [a,g])),.one (bool true)] ∧ 0 ≤ a ∧ a ≤ 1000000 ∧ rdV1 b = if g ≤ 1 then some (a - 1,g == 1) else none):=by
 unfold rdV1
 rcases h : nbF 2 2 b with ⟨o,q⟩
 cases o with
 | none=>exact .inl ⟨true,[],rfl,rfl⟩
 | some ns =>
  have hl:=nbF_len h
  match ns,hl with
  | [a,g],_ =>
   cases q
   ·exact .inl ⟨false,[a,g],rfl,rfl⟩
   ·have:=(nbF_yes h).2.2 a (by simp)
    exact .inr ⟨a,g,rfl,this.1,this.2,rfl⟩
theorem rdM1_form (b : List Int) : (∃ nn ns,nbRes (nbF 3 3 b) = .tup [.one (row nn 1 (ints ns)),.one (bool false)] ∧ rdM1 b = none) ∨ (∃ a c d,nbRes (nbF 3 3 b) = .tup [.one (row false 1 (ints [a,c,d])),.one (bool true)] ∧ rdM1 b = some (a,c,d)):=by
 unfold rdM1
 rcases h : nbF 3 3 b with ⟨o,q⟩
 cases o with
 | none=>exact .inl ⟨true,[],rfl,rfl⟩
 | some ns =>
  have hl:=nbF_len h
  match ns,hl with
  | [a,c,d],_ =>
   cases q
   ·exact .inl ⟨false,[a,c,d],rfl,rfl⟩
   ·exact .inr ⟨a,c,d,rfl,rfl⟩
theorem Zbu {α : Type} {f : List Int → Option α} {bs : List (List Int)} {k : Nat} (h : k < bs.length) : rdAll f (bs.drop k) = match f bs[k] with
  | some x=>match rdAll f (bs.drop (k + 1)) with
   | some xs=>some (x :: xs)
   | none=>none
  | none=>none:=by
 rw [List.drop_eq_getElem_cons h,rdAll]
def vsOf (l : List (Int × Bool)) : List Int:=l.map Prod.fst
def gsOf (l : List (Int × Bool)) : List Bool:=l.map Prod.snd
theorem Za0 (l : List (Int × Bool)) : (vsOf l).length = l.length:=List.length_map ..
theorem Za2 (l : List (Int × Bool)) : (gsOf l).length = l.length:=List.length_map ..
theorem vsOf_app (l : List (Int × Bool)) (v : Int) (g : Bool) : ints (vsOf (l ++ [(v,g)])) = ints (vsOf l) ++ [.one (int v)]:=by unfold vsOf ints; simp
theorem gsOf_app (l : List (Int × Bool)) (v : Int) (g : Bool) : bools (gsOf (l ++ [(v,g)])) = bools (gsOf l) ++ [.one (bool g)]:=by unfold gsOf bools; simp
abbrev Zc : Cell:=.r true (row true 0 [])
theorem f_readValuesNo (nil : Bool) (bs : List (List Int)) (r : Int) (hl : bs.length ≤ 2000) (hn : rdAll rdV1 bs = none) :
    FnS Try.prog 63 [.one (.ptr 1000000000 0 0 0), .one (.r false (row nil 1 (rowsI bs)))] [(1000000000, .var 28 [.r true (int r), Zc, Zc, Zc])] (.one (.r true (bool false))) [] := by
  have hlen := Zag bs
  refine Zac (l := [.tmp 4]) Try.func63 kRf rfl Try.ntmps63 rfl rfl ?_; simp only [dEnv, Nat.reduceAdd]
  repeat' (first|refine wk ?_|(refine wkB ?_ ?_<;>intro hg_<;>try exact wkX)|fail)
  obtain ⟨F, hF0, hF1⟩ : ∃ F : Nat × List (Int × Bool) → St, (∀ k, F (k, []) = mkS 55 [(11, .one (.r true (int (k : Int)))), (10, .one (.r true (int (bs.length : Int)))), (9, .one (.r false (row nil 1 (rowsI bs)))), (0, .one (.ptr 1000000000 0 0 0))] [(1000000000, .var 28 [.r true (int r), Zc, Zc, Zc])]) ∧
      (∀ k l, l ≠ [] → F (k, l) = mkS 55 [(11, .one (.r true (int (k : Int)))), (10, .one (.r true (int (bs.length : Int)))), (9, .one (.r false (row nil 1 (rowsI bs)))), (0, .one (.ptr 1000000000 0 0 0))] [(1000000000, .var 28 [.r true (int r), .own 101 0 (vsOf l).length 1, .own 102 0 (gsOf l).length 1, Zc]), (101, .sl 3 1 true (ints (vsOf l))), (102, .sl 4 1 true (bools (gsOf l)))]) := by
    refine ⟨fun y => if y.2.isEmpty then mkS 55 [(11, .one (.r true (int (y.1 : Int)))), (10, .one (.r true (int (bs.length : Int)))), (9, .one (.r false (row nil 1 (rowsI bs)))), (0, .one (.ptr 1000000000 0 0 0))] [(1000000000, .var 28 [.r true (int r), Zc, Zc, Zc])] else mkS 55 [(11, .one (.r true (int (y.1 : Int)))), (10, .one (.r true (int (bs.length : Int)))), (9, .one (.r false (row nil 1 (rowsI bs)))), (0, .one (.ptr 1000000000 0 0 0))] [(1000000000, .var 28 [.r true (int r), .own 101 0 (vsOf y.2).length 1, .own 102 0 (gsOf y.2).length 1, Zc]), (101, .sl 3 1 true (ints (vsOf y.2))), (102, .sl 4 1 true (bools (gsOf y.2)))], fun k => rfl, fun k l h => ?_⟩
    cases l with
    | nil => exact absurd rfl h
    | cons v l => rfl
  refine Z7 (fun y : Nat × List (Int × Bool) => y.1 ≤ bs.length ∧ y.2.length = y.1 ∧ rdAll rdV1 (bs.drop y.1) = none) F (fun y => bs.length - y.1) (0, []) ⟨Nat.zero_le _, rfl, hn⟩ (by
    rw [hF0]
    (refine Zg [] rfl ?_ ?_ <;> repeat' (first|refine wkS ?_ ?_|exact wkE|exact Zq (by rw [hlen])))) ?_
  rintro ⟨k, l⟩ ⟨hk, hkl, hE⟩
  dsimp only at hk hkl hE
  by_cases hlt : k < bs.length
  · have hx := Za3 hlt
    rw [Zbu hlt] at hE
    have KN := Zav false bs[k] 2 2 oM
    have hform := rdV1_form bs[k]
    generalize bs[k] = b at *
    have hwk : IntKind.i64.wrap ((k : Int) + 1) = ((k + 1 : Nat) : Int) := by rw [IntWalk.i64_in _ oM]; omega
    have hvi := (Zp (vsOf l)).symm
    have hgi := (Zab (gsOf l)).symm
    have hvl := Za0 l
    have hgl := Za2 l
    rcases hform with ⟨nn, ns, e1, e2⟩ | ⟨a, g, e1, ha0, ha1, e2⟩
    · rw [e1] at KN
      clear hE e2 e1
      by_cases hll : l = []
      · subst hll
        rw [hF0]
        clear hF0 hF1
        repeat' (first|refine wk ?_|((first|refine' w_q rfl rfl ?xa rfl ?_|refine' v_q rfl rfl ?xa rfl ?_|refine' Zh rfl rfl (Zb rfl) rfl ?xa rfl ?_|refine' Zi rfl rfl (Zb rfl) rfl ?xa rfl ?_);case xa => first|exact Zn tbOk rfl rfl rfl rfl oM hx|exact Ze KN rfl ⟨Zd (Za rfl), Zd (Za rfl), Zd (Za rfl), trivial⟩)|(refine wkB ?_ ?_<;>intro hg_<;>try exact wkX)|fail)
        all_goals first
          | exact Zu [] rfl sbH (Zay rfl rfl rfl)
          | (exfalso; omega)
      · rw [hF1 _ _ hll]
        clear hF0 hF1
        repeat' (first|refine wk ?_|((first|refine' w_q rfl rfl ?xa rfl ?_|refine' v_q rfl rfl ?xa rfl ?_|refine' Zh rfl rfl (Zb rfl) rfl ?xa rfl ?_|refine' Zi rfl rfl (Zb rfl) rfl ?xa rfl ?_);case xa => first|exact Zn tbOk rfl rfl rfl rfl oM hx|exact Ze KN rfl ⟨Zd (Za rfl), Zd (Za rfl), Zd (Za rfl), trivial⟩)|(refine wkB ?_ ?_<;>intro hg_<;>try exact wkX)|fail)
        all_goals first
          | exact Zu [] rfl sbH (Zay rfl rfl rfl)
          | (exfalso; omega)
    · rw [e1] at KN
      rw [e2] at hE
      have hx0 : (ints [a, g])[(0 : Int).toNat]? = some (iP a) := rfl
      have hx1 : (ints [a, g])[(1 : Int).toNat]? = some (iP g) := rfl
      by_cases hg : g ≤ 1
      · rw [if_pos hg] at hE
        have hE2 : rdAll rdV1 (bs.drop (k + 1)) = none := by
          cases h : rdAll rdV1 (bs.drop (k + 1)) with
          | none => rfl
          | some xs => rw [h] at hE; cases hE
        have hwa : IntKind.i64.wrap (a - 1) = a - 1 := IntWalk.i64_in _ oM
        have hfin : ∀ s' : St, Weak s' (F (k + 1, l ++ [(a - 1, g == 1)])) → ∃ y' : Nat × List (Int × Bool), (y'.1 ≤ bs.length ∧ y'.2.length = y'.1 ∧ rdAll rdV1 (bs.drop y'.1) = none) ∧ Weak s' (F y') ∧ bs.length - y'.1 < bs.length - k := fun s' h => ⟨(k + 1, l ++ [(a - 1, g == 1)]), ⟨by dsimp only; omega, by simp; omega, hE2⟩, h, by dsimp only; omega⟩
        rw [hF1 _ _ (by simp), vsOf_app, gsOf_app, ← hwa] at hfin
        clear hE hE2 e1 e2 hwa
        by_cases hll : l = []
        · subst hll
          rw [hF0]
          clear hF0 hF1
          repeat' (first|refine wk ?_|((first|refine' w_q rfl rfl ?xa rfl ?_|refine' v_q rfl rfl ?xa rfl ?_|refine' Zh rfl rfl (Zb rfl) rfl ?xa rfl ?_|refine' Zi rfl rfl (Zb rfl) rfl ?xa rfl ?_);case xa => first|exact Zn tbOk rfl rfl rfl rfl oM (by first|exact hx|exact hx0|exact hx1)|exact Ze KN rfl ⟨Zd (Za rfl), Zd (Za rfl), Zd (Za rfl), trivial⟩)|((first|refine' w_e rfl ?xa ?xb ?xc ?xe ?_|refine' v_e rfl ?xa ?xb ?xc ?xe ?_);(case xa => first|exact Z0 [.tmp 36] tlOk rfl rfl rfl rfl rfl rfl (Zad rfl) (by simp)|exact Z0 [.tmp 49] tlOk rfl rfl rfl rfl rfl rfl (Zad rfl) (by simp)|exact Zj 38 rfl (Zaw tlOk rfl rfl rfl rfl rfl (Zaa (Z8 (Zf rfl) rfl) (by simp [plain1])) (by simp) (by simp [maxLen]) (by simp))|exact Zj 51 rfl (Zaw tlOk rfl rfl rfl rfl rfl (Zaa (Z8 (Zf rfl) rfl) (by simp [plain1])) (by simp) (by simp [maxLen]) (by simp)));(case xb|xc|xe=>rfl);try refine wkD ?_)|(refine wkB ?_ ?_<;>intro hg_<;>try exact wkX)|fail)
          all_goals first
            | (refine hfin _ ?_
               (refine Zg [(101, 38), (102, 51)] rfl ?_ ?_ <;> repeat' (first|refine wkS ?_ ?_|exact wkE|exact Zq hwk|exact Zaf rfl rfl|exact var4 rfl (cown (by simp [vsOf])) (cown (by simp [gsOf])) rfl)))
            | (exfalso; omega)
        · rw [hF1 _ _ hll]
          clear hF0 hF1
          repeat' (first|refine wk ?_|((first|refine' w_q rfl rfl ?xa rfl ?_|refine' v_q rfl rfl ?xa rfl ?_|refine' Zh rfl rfl (Zb rfl) rfl ?xa rfl ?_|refine' Zi rfl rfl (Zb rfl) rfl ?xa rfl ?_);case xa => first|exact Zn tbOk rfl rfl rfl rfl oM (by first|exact hx|exact hx0|exact hx1)|exact Ze KN rfl ⟨Zd (Za rfl), Zd (Za rfl), Zd (Za rfl), trivial⟩)|((first|refine' w_e rfl ?xa ?xb ?xc ?xe ?_|refine' v_e rfl ?xa ?xb ?xc ?xe ?_);(case xa => first|exact Z0 [.tmp 36] tlOk rfl rfl rfl rfl rfl rfl (Zad rfl) (by simp)|exact Z0 [.tmp 49] tlOk rfl rfl rfl rfl rfl rfl (Zad rfl) (by simp)|exact Zj 38 rfl (Zah tlOk rfl rfl rfl rfl rfl rfl (Zaa (Z8 (Zf rfl) rfl) (by simp [plain1])) hvi (by simp only [maxLen, List.length_cons, List.length_nil];omega) (by simp only [List.length_cons, List.length_nil];omega))|exact Zj 51 rfl (Zah tlOk rfl rfl rfl rfl rfl rfl (Zaa (Z8 (Zf rfl) rfl) (by simp [plain1])) hgi (by simp only [maxLen, List.length_cons, List.length_nil];omega) (by simp only [List.length_cons, List.length_nil];omega)));(case xb|xc|xe=>rfl);try refine wkD ?_)|(refine wkB ?_ ?_<;>intro hg_<;>try exact wkX)|fail)
          all_goals first
            | (refine hfin _ ?_
               (refine Zg [(101, 38), (102, 51)] rfl ?_ ?_ <;> repeat' (first|refine wkS ?_ ?_|exact wkE|exact Zq hwk|exact Zaf rfl rfl|exact var4 rfl (cown (by simp only [vsOf, List.map_append, List.length_append, List.length_map, List.map_cons, List.map_nil, List.length_cons, List.length_nil, Zp])) (cown (by simp only [gsOf, List.map_append, List.length_append, List.length_map, List.map_cons, List.map_nil, List.length_cons, List.length_nil, Zab])) rfl)))
            | (exfalso; omega)
      · clear hE e1 e2
        by_cases hll : l = []
        · subst hll
          rw [hF0]
          clear hF0 hF1
          repeat' (first|refine wk ?_|((first|refine' w_q rfl rfl ?xa rfl ?_|refine' v_q rfl rfl ?xa rfl ?_|refine' Zh rfl rfl (Zb rfl) rfl ?xa rfl ?_|refine' Zi rfl rfl (Zb rfl) rfl ?xa rfl ?_);case xa => first|exact Zn tbOk rfl rfl rfl rfl oM (by first|exact hx|exact hx0|exact hx1)|exact Ze KN rfl ⟨Zd (Za rfl), Zd (Za rfl), Zd (Za rfl), trivial⟩)|(refine wkB ?_ ?_<;>intro hg_<;>try exact wkX)|fail)
          all_goals first
            | exact Zu [] rfl sbH (Zay rfl rfl rfl)
            | (exfalso; omega)
        · rw [hF1 _ _ hll]
          clear hF0 hF1
          repeat' (first|refine wk ?_|((first|refine' w_q rfl rfl ?xa rfl ?_|refine' v_q rfl rfl ?xa rfl ?_|refine' Zh rfl rfl (Zb rfl) rfl ?xa rfl ?_|refine' Zi rfl rfl (Zb rfl) rfl ?xa rfl ?_);case xa => first|exact Zn tbOk rfl rfl rfl rfl oM (by first|exact hx|exact hx0|exact hx1)|exact Ze KN rfl ⟨Zd (Za rfl), Zd (Za rfl), Zd (Za rfl), trivial⟩)|(refine wkB ?_ ?_<;>intro hg_<;>try exact wkX)|fail)
          all_goals first
            | exact Zu [] rfl sbH (Zay rfl rfl rfl)
            | (exfalso; omega)
  · exfalso
    rw [List.drop_of_length_le oM] at hE
    cases hE
theorem Zb2 (nil : Bool) (bs : List (List Int)) (r : Int) (hl : bs.length ≤ 2000) (L : List (Int × Bool)) (hn : rdAll rdV1 bs = some L) (hLn : L ≠ []) :
    FnS Try.prog 63 [.one (.ptr 1000000000 0 0 0), .one (.r false (row nil 1 (rowsI bs)))] [(1000000000, .var 28 [.r true (int r), Zc, Zc, Zc])] (.one (.r true (bool true))) [(1000000000, .var 28 [.r true (int r), .own 2000001 0 L.length 1, .own 2000002 0 L.length 1, Zc]), (2000001, .sl 3 1 true (ints (vsOf L))), (2000002, .sl 4 1 true (bools (gsOf L)))] := by
  have hlen := Zag bs
  refine Zac (l := [.tmp 4]) Try.func63 kRf rfl Try.ntmps63 rfl rfl ?_; simp only [dEnv, Nat.reduceAdd]
  repeat' (first|refine wk ?_|(refine wkB ?_ ?_<;>intro hg_<;>try exact wkX)|fail)
  obtain ⟨F, hF0, hF1⟩ : ∃ F : Nat × List (Int × Bool) → St, (∀ k, F (k, []) = mkS 55 [(11, .one (.r true (int (k : Int)))), (10, .one (.r true (int (bs.length : Int)))), (9, .one (.r false (row nil 1 (rowsI bs)))), (0, .one (.ptr 1000000000 0 0 0))] [(1000000000, .var 28 [.r true (int r), Zc, Zc, Zc])]) ∧
      (∀ k l, l ≠ [] → F (k, l) = mkS 55 [(11, .one (.r true (int (k : Int)))), (10, .one (.r true (int (bs.length : Int)))), (9, .one (.r false (row nil 1 (rowsI bs)))), (0, .one (.ptr 1000000000 0 0 0))] [(1000000000, .var 28 [.r true (int r), .own 101 0 (vsOf l).length 1, .own 102 0 (gsOf l).length 1, Zc]), (101, .sl 3 1 true (ints (vsOf l))), (102, .sl 4 1 true (bools (gsOf l)))]) := by
    refine ⟨fun y => if y.2.isEmpty then mkS 55 [(11, .one (.r true (int (y.1 : Int)))), (10, .one (.r true (int (bs.length : Int)))), (9, .one (.r false (row nil 1 (rowsI bs)))), (0, .one (.ptr 1000000000 0 0 0))] [(1000000000, .var 28 [.r true (int r), Zc, Zc, Zc])] else mkS 55 [(11, .one (.r true (int (y.1 : Int)))), (10, .one (.r true (int (bs.length : Int)))), (9, .one (.r false (row nil 1 (rowsI bs)))), (0, .one (.ptr 1000000000 0 0 0))] [(1000000000, .var 28 [.r true (int r), .own 101 0 (vsOf y.2).length 1, .own 102 0 (gsOf y.2).length 1, Zc]), (101, .sl 3 1 true (ints (vsOf y.2))), (102, .sl 4 1 true (bools (gsOf y.2)))], fun k => rfl, fun k l h => ?_⟩
    cases l with
    | nil => exact absurd rfl h
    | cons v l => rfl
  refine Z7 (fun y : Nat × List (Int × Bool) => y.1 ≤ bs.length ∧ y.2.length = y.1 ∧ ∃ xs, rdAll rdV1 (bs.drop y.1) = some xs ∧ y.2 ++ xs = L) F (fun y => bs.length - y.1) (0, []) ⟨Nat.zero_le _, rfl, L, hn, rfl⟩ (by
    rw [hF0]
    (refine Zg [] rfl ?_ ?_ <;> repeat' (first|refine wkS ?_ ?_|exact wkE|exact Zq (by rw [hlen])))) ?_
  rintro ⟨k, l⟩ ⟨hk, hkl, xs, hE, hxs⟩
  dsimp only at hk hkl hE hxs
  by_cases hlt : k < bs.length
  · have hx := Za3 hlt
    rw [Zbu hlt] at hE
    have KN := Zav false bs[k] 2 2 oM
    have hform := rdV1_form bs[k]
    generalize bs[k] = b at *
    have hwk : IntKind.i64.wrap ((k : Int) + 1) = ((k + 1 : Nat) : Int) := by rw [IntWalk.i64_in _ oM]; omega
    have hvi := (Zp (vsOf l)).symm
    have hgi := (Zab (gsOf l)).symm
    have hvl := Za0 l
    have hgl := Za2 l
    rcases hform with ⟨nn, ns, e1, e2⟩ | ⟨a, g, e1, ha0, ha1, e2⟩
    · rw [e2] at hE
      cases hE
    · rw [e1] at KN
      rw [e2] at hE
      have hx0 : (ints [a, g])[(0 : Int).toNat]? = some (iP a) := rfl
      have hx1 : (ints [a, g])[(1 : Int).toNat]? = some (iP g) := rfl
      by_cases hg : g ≤ 1
      · rw [if_pos hg] at hE
        have hE2 : ∃ ys, rdAll rdV1 (bs.drop (k + 1)) = some ys ∧ (l ++ [(a - 1, g == 1)]) ++ ys = L := by
          cases h : rdAll rdV1 (bs.drop (k + 1)) with
          | none => rw [h] at hE; cases hE
          | some ys =>
            rw [h] at hE
            injection hE with hE
            exact ⟨ys, rfl, by rw [← hxs, ← hE]; simp⟩
        have hwa : IntKind.i64.wrap (a - 1) = a - 1 := IntWalk.i64_in _ oM
        have hfin : ∀ s' : St, Weak s' (F (k + 1, l ++ [(a - 1, g == 1)])) → ∃ y' : Nat × List (Int × Bool), (y'.1 ≤ bs.length ∧ y'.2.length = y'.1 ∧ ∃ xs, rdAll rdV1 (bs.drop y'.1) = some xs ∧ y'.2 ++ xs = L) ∧ Weak s' (F y') ∧ bs.length - y'.1 < bs.length - k := fun s' h => ⟨(k + 1, l ++ [(a - 1, g == 1)]), ⟨by dsimp only; omega, by simp; omega, hE2⟩, h, by dsimp only; omega⟩
        rw [hF1 _ _ (by simp), vsOf_app, gsOf_app, ← hwa] at hfin
        clear hE hE2 e1 e2 hwa
        by_cases hll : l = []
        · subst hll
          rw [hF0]
          clear hF0 hF1
          repeat' (first|refine wk ?_|((first|refine' w_q rfl rfl ?xa rfl ?_|refine' v_q rfl rfl ?xa rfl ?_|refine' Zh rfl rfl (Zb rfl) rfl ?xa rfl ?_|refine' Zi rfl rfl (Zb rfl) rfl ?xa rfl ?_);case xa => first|exact Zn tbOk rfl rfl rfl rfl oM (by first|exact hx|exact hx0|exact hx1)|exact Ze KN rfl ⟨Zd (Za rfl), Zd (Za rfl), Zd (Za rfl), trivial⟩)|((first|refine' w_e rfl ?xa ?xb ?xc ?xe ?_|refine' v_e rfl ?xa ?xb ?xc ?xe ?_);(case xa => first|exact Z0 [.tmp 36] tlOk rfl rfl rfl rfl rfl rfl (Zad rfl) (by simp)|exact Z0 [.tmp 49] tlOk rfl rfl rfl rfl rfl rfl (Zad rfl) (by simp)|exact Zj 38 rfl (Zaw tlOk rfl rfl rfl rfl rfl (Zaa (Z8 (Zf rfl) rfl) (by simp [plain1])) (by simp) (by simp [maxLen]) (by simp))|exact Zj 51 rfl (Zaw tlOk rfl rfl rfl rfl rfl (Zaa (Z8 (Zf rfl) rfl) (by simp [plain1])) (by simp) (by simp [maxLen]) (by simp)));(case xb|xc|xe=>rfl);try refine wkD ?_)|(refine wkB ?_ ?_<;>intro hg_<;>try exact wkX)|fail)
          all_goals first
            | (refine hfin _ ?_
               (refine Zg [(101, 38), (102, 51)] rfl ?_ ?_ <;> repeat' (first|refine wkS ?_ ?_|exact wkE|exact Zq hwk|exact Zaf rfl rfl|exact var4 rfl (cown (by simp [vsOf])) (cown (by simp [gsOf])) rfl)))
            | (exfalso; omega)
        · rw [hF1 _ _ hll]
          clear hF0 hF1
          repeat' (first|refine wk ?_|((first|refine' w_q rfl rfl ?xa rfl ?_|refine' v_q rfl rfl ?xa rfl ?_|refine' Zh rfl rfl (Zb rfl) rfl ?xa rfl ?_|refine' Zi rfl rfl (Zb rfl) rfl ?xa rfl ?_);case xa => first|exact Zn tbOk rfl rfl rfl rfl oM (by first|exact hx|exact hx0|exact hx1)|exact Ze KN rfl ⟨Zd (Za rfl), Zd (Za rfl), Zd (Za rfl), trivial⟩)|((first|refine' w_e rfl ?xa ?xb ?xc ?xe ?_|refine' v_e rfl ?xa ?xb ?xc ?xe ?_);(case xa => first|exact Z0 [.tmp 36] tlOk rfl rfl rfl rfl rfl rfl (Zad rfl) (by simp)|exact Z0 [.tmp 49] tlOk rfl rfl rfl rfl rfl rfl (Zad rfl) (by simp)|exact Zj 38 rfl (Zah tlOk rfl rfl rfl rfl rfl rfl (Zaa (Z8 (Zf rfl) rfl) (by simp [plain1])) hvi (by simp only [maxLen, List.length_cons, List.length_nil];omega) (by simp only [List.length_cons, List.length_nil];omega))|exact Zj 51 rfl (Zah tlOk rfl rfl rfl rfl rfl rfl (Zaa (Z8 (Zf rfl) rfl) (by simp [plain1])) hgi (by simp only [maxLen, List.length_cons, List.length_nil];omega) (by simp only [List.length_cons, List.length_nil];omega)));(case xb|xc|xe=>rfl);try refine wkD ?_)|(refine wkB ?_ ?_<;>intro hg_<;>try exact wkX)|fail)
          all_goals first
            | (refine hfin _ ?_
               (refine Zg [(101, 38), (102, 51)] rfl ?_ ?_ <;> repeat' (first|refine wkS ?_ ?_|exact wkE|exact Zq hwk|exact Zaf rfl rfl|exact var4 rfl (cown (by simp only [vsOf, List.map_append, List.length_append, List.length_map, List.map_cons, List.map_nil, List.length_cons, List.length_nil, Zp])) (cown (by simp only [gsOf, List.map_append, List.length_append, List.length_map, List.map_cons, List.map_nil, List.length_cons, List.length_nil, Zab])) rfl)))
            | (exfalso; omega)
      · rw [if_neg hg] at hE
        cases hE
  · rw [List.drop_of_length_le oM, rdAll] at hE
    injection hE with hE
    rw [← hE, List.append_nil] at hxs
    subst hxs
    rw [hF1 _ _ hLn]
    clear hF0 hF1
    have hvl := Za0 l
    have hgl := Za2 l
    rw [hvl, hgl]
    repeat' (first|refine wk ?_|(refine wkB ?_ ?_<;>intro hg_<;>try exact wkX)|fail)
    all_goals first
      | exact Zu [(2000001, 101), (2000002, 102)] rfl sbH (Zay rfl rfl rfl)
      | (exfalso; omega)
theorem Zb1 (nil : Bool) (r : Int) :
  FnS Try.prog 63 [.one (.ptr 1000000000 0 0 0),.one (.r false (row nil 1 (rowsI [])))] [(1000000000,.var 28 [.r true (int r),Zc,Zc,Zc])] (.one (.r true (bool true))) [(1000000000,.var 28 [.r true (int r),Zc,Zc,Zc])]:=by
 have hlen : (rowsI []).length = 0:=rfl
 refine Zac (l:=[.tmp 4]) Try.func63 kRf rfl Try.ntmps63 rfl rfl ?_; simp only [dEnv,Nat.reduceAdd]
 repeat' (first|refine wk ?_|(refine wkB ?_ ?_<;>intro hg_<;>try exact wkX)|fail)
 refine Z7 (fun y : Nat=>y = 0) (fun y=>mkS 55 [(11,.one (.r true (int (y : Int)))),(10,.one (.r true (int 0))),(9,.one (.r false (row nil 1 (rowsI [])))),(0,.one (.ptr 1000000000 0 0 0))] [(1000000000,.var 28 [.r true (int r),Zc,Zc,Zc])]) (fun y=>y) 0 rfl (by (refine Zg [] rfl ?_ ?_ <;>exact wkW)) ?_
 rintro y rfl
 repeat' (first|refine wk ?_|(refine wkB ?_ ?_<;>intro hg_<;>try exact wkX)|fail)
 all_goals first
  | exact Zu [] rfl sbH (Zay rfl rfl rfl)
  | (exfalso; omega)
theorem f_readMsNoZ (nil : Bool) (bs : List (List Int)) (r : Int) (hl : bs.length ≤ 2000) (hn : rdAll rdM1 bs = none) :
    FnS Try.prog 64 [.one (.ptr 1000000000 0 0 0), .one (.r false (row nil 1 (rowsI bs)))] [(1000000000, .var 28 [.r true (int r), Zc, Zc, Zc])] (.one (.r true (bool false))) [] := by
  have hlen := Zag bs
  refine Zac (l := [.tmp 4]) Try.func64 kRf rfl Try.ntmps64 rfl rfl ?_; simp only [dEnv, Nat.reduceAdd]
  repeat' (first|refine wk ?_|(refine wkB ?_ ?_<;>intro hg_<;>try exact wkX)|fail)
  obtain ⟨F, hF0, hF1⟩ : ∃ F : Nat × List E3 → St, (∀ k, F (k, []) = mkS 42 [(11, .one (.r true (int (k : Int)))), (10, .one (.r true (int (bs.length : Int)))), (9, .one (.r false (row nil 1 (rowsI bs)))), (0, .one (.ptr 1000000000 0 0 0))] [(1000000000, .var 28 [.r true (int r), Zc, Zc, Zc])]) ∧
      (∀ k l, l ≠ [] → F (k, l) = mkS 42 [(11, .one (.r true (int (k : Int)))), (10, .one (.r true (int (bs.length : Int)))), (9, .one (.r false (row nil 1 (rowsI bs)))), (0, .one (.ptr 1000000000 0 0 0))] [(1000000000, .var 28 [.r true (int r), Zc, Zc, .own 103 0 (l).length 3]), (103, .sl 70 3 true (edges (l)))]) := by
    refine ⟨fun y => if y.2.isEmpty then mkS 42 [(11, .one (.r true (int (y.1 : Int)))), (10, .one (.r true (int (bs.length : Int)))), (9, .one (.r false (row nil 1 (rowsI bs)))), (0, .one (.ptr 1000000000 0 0 0))] [(1000000000, .var 28 [.r true (int r), Zc, Zc, Zc])] else mkS 42 [(11, .one (.r true (int (y.1 : Int)))), (10, .one (.r true (int (bs.length : Int)))), (9, .one (.r false (row nil 1 (rowsI bs)))), (0, .one (.ptr 1000000000 0 0 0))] [(1000000000, .var 28 [.r true (int r), Zc, Zc, .own 103 0 (y.2).length 3]), (103, .sl 70 3 true (edges (y.2)))], fun k => rfl, fun k l h => ?_⟩
    cases l with
    | nil => exact absurd rfl h
    | cons v l => rfl
  refine Z7 (fun y : Nat × List E3 => y.1 ≤ bs.length ∧ y.2.length = y.1 ∧ rdAll rdM1 (bs.drop y.1) = none) F (fun y => bs.length - y.1) (0, []) ⟨Nat.zero_le _, rfl, hn⟩ (by
    rw [hF0]
    (refine Zg [] rfl ?_ ?_ <;> repeat' (first|refine wkS ?_ ?_|exact wkE|exact Zq (by rw [hlen])))) ?_
  rintro ⟨k, l⟩ ⟨hk, hkl, hE⟩
  dsimp only at hk hkl hE
  by_cases hlt : k < bs.length
  · have hx := Za3 hlt
    rw [Zbu hlt] at hE
    have KN := Zav false bs[k] 3 3 oM
    have hform := rdM1_form bs[k]
    generalize bs[k] = b at *
    have hwk : IntKind.i64.wrap ((k : Int) + 1) = ((k + 1 : Nat) : Int) := by rw [IntWalk.i64_in _ oM]; omega
    have hmi := (Zv l).symm
    rcases hform with ⟨nn, ns, e1, e2⟩ | ⟨a, c, d, e1, e2⟩
    · rw [e1] at KN
      clear hE e2 e1
      have hx0 := hx
      have hx1 := hx
      have hx2 := hx
      by_cases hll : l = []
      · subst hll
        rw [hF0]
        clear hF0 hF1
        repeat' (first|refine wk ?_|((first|refine' w_q rfl rfl ?xa rfl ?_|refine' v_q rfl rfl ?xa rfl ?_|refine' Zh rfl rfl (Zb rfl) rfl ?xa rfl ?_|refine' Zi rfl rfl (Zb rfl) rfl ?xa rfl ?_);case xa => first|exact Zn tbOk rfl rfl rfl rfl oM (by first|exact hx|exact hx0|exact hx1|exact hx2)|exact Ze KN rfl ⟨Zd (Za rfl), Zd (Za rfl), Zd (Za rfl), trivial⟩)|(refine wkB ?_ ?_<;>intro hg_<;>try exact wkX)|fail)
        all_goals first
          | exact Zu [] rfl sbH (Zay rfl rfl rfl)
          | (exfalso; omega)
      · rw [hF1 _ _ hll]
        clear hF0 hF1
        repeat' (first|refine wk ?_|((first|refine' w_q rfl rfl ?xa rfl ?_|refine' v_q rfl rfl ?xa rfl ?_|refine' Zh rfl rfl (Zb rfl) rfl ?xa rfl ?_|refine' Zi rfl rfl (Zb rfl) rfl ?xa rfl ?_);case xa => first|exact Zn tbOk rfl rfl rfl rfl oM (by first|exact hx|exact hx0|exact hx1|exact hx2)|exact Ze KN rfl ⟨Zd (Za rfl), Zd (Za rfl), Zd (Za rfl), trivial⟩)|(refine wkB ?_ ?_<;>intro hg_<;>try exact wkX)|fail)
        all_goals first
          | exact Zu [] rfl sbH (Zay rfl rfl rfl)
          | (exfalso; omega)
    · rw [e1] at KN
      rw [e2] at hE
      have hx0 : (ints [a, c, d])[(0 : Int).toNat]? = some (iP a) := rfl
      have hx1 : (ints [a, c, d])[(1 : Int).toNat]? = some (iP c) := rfl
      have hx2 : (ints [a, c, d])[(2 : Int).toNat]? = some (iP d) := rfl
      have hE2 : rdAll rdM1 (bs.drop (k + 1)) = none := by
        cases h : rdAll rdM1 (bs.drop (k + 1)) with
        | none => rfl
        | some xs => rw [h] at hE; cases hE
      have hfin : ∀ s' : St, Weak s' (F (k + 1, l ++ [(a, c, d)])) → ∃ y' : Nat × List E3, (y'.1 ≤ bs.length ∧ y'.2.length = y'.1 ∧ rdAll rdM1 (bs.drop y'.1) = none) ∧ Weak s' (F y') ∧ bs.length - y'.1 < bs.length - k := fun s' h => ⟨(k + 1, l ++ [(a, c, d)]), ⟨by dsimp only; omega, by simp; omega, hE2⟩, h, by dsimp only; omega⟩
      have happ : edges (l ++ [(a, c, d)]) = edges l ++ [edgeP (a, c, d)] := by unfold edges; simp
      rw [hF1 _ _ (by simp), happ] at hfin
      clear hE hE2 e1 e2 happ
      by_cases hll : l = []
      · subst hll
        rw [hF0]
        clear hF0 hF1
        repeat' (first|refine wk ?_|((first|refine' w_q rfl rfl ?xa rfl ?_|refine' v_q rfl rfl ?xa rfl ?_|refine' Zh rfl rfl (Zb rfl) rfl ?xa rfl ?_|refine' Zi rfl rfl (Zb rfl) rfl ?xa rfl ?_);case xa => first|exact Zn tbOk rfl rfl rfl rfl oM (by first|exact hx|exact hx0|exact hx1|exact hx2)|exact Ze KN rfl ⟨Zd (Za rfl), Zd (Za rfl), Zd (Za rfl), trivial⟩)|((first|refine' w_e rfl ?xa ?xb ?xc ?xe ?_|refine' v_e rfl ?xa ?xb ?xc ?xe ?_);(case xa => first|exact Z0 [.tmp 36] tlOk rfl rfl rfl rfl rfl rfl (Zad rfl) (by simp)|exact Zj 38 rfl (Zaw tlOk rfl rfl rfl rfl rfl (Zaa (Z8 (Zf rfl) rfl) (Zax _ _ _)) (by simp) (by simp [maxLen]) (by simp)));(case xb|xc|xe=>rfl);try refine wkD ?_)|(refine wkB ?_ ?_<;>intro hg_<;>try exact wkX)|fail)
        all_goals first
          | (refine hfin _ ?_
             (refine Zg [(103, 38)] rfl ?_ ?_ <;> repeat' (first|refine wkS ?_ ?_|exact wkE|exact Zq hwk|exact Zaf rfl rfl|exact var4 rfl rfl rfl (cown (by simp only [List.length_append, List.length_cons, List.length_nil, Zv])))))
          | (exfalso; omega)
      · rw [hF1 _ _ hll]
        clear hF0 hF1
        repeat' (first|refine wk ?_|((first|refine' w_q rfl rfl ?xa rfl ?_|refine' v_q rfl rfl ?xa rfl ?_|refine' Zh rfl rfl (Zb rfl) rfl ?xa rfl ?_|refine' Zi rfl rfl (Zb rfl) rfl ?xa rfl ?_);case xa => first|exact Zn tbOk rfl rfl rfl rfl oM (by first|exact hx|exact hx0|exact hx1|exact hx2)|exact Ze KN rfl ⟨Zd (Za rfl), Zd (Za rfl), Zd (Za rfl), trivial⟩)|((first|refine' w_e rfl ?xa ?xb ?xc ?xe ?_|refine' v_e rfl ?xa ?xb ?xc ?xe ?_);(case xa => first|exact Z0 [.tmp 36] tlOk rfl rfl rfl rfl rfl rfl (Zad rfl) (by simp)|exact Zj 38 rfl (Zah tlOk rfl rfl rfl rfl rfl rfl (Zaa (Z8 (Zf rfl) rfl) (Zax _ _ _)) hmi (by simp only [maxLen, List.length_cons, List.length_nil];omega) (by simp only [List.length_cons, List.length_nil];omega)));(case xb|xc|xe=>rfl);try refine wkD ?_)|(refine wkB ?_ ?_<;>intro hg_<;>try exact wkX)|fail)
        all_goals first
          | (refine hfin _ ?_
             (refine Zg [(103, 38)] rfl ?_ ?_ <;> repeat' (first|refine wkS ?_ ?_|exact wkE|exact Zq hwk|exact Zaf rfl rfl|exact var4 rfl rfl rfl (cown (by simp only [List.length_append, List.length_cons, List.length_nil, Zv])))))
          | (exfalso; omega)
  · exfalso
    rw [List.drop_of_length_le oM] at hE
    cases hE
theorem f_readMsYesZ (nil : Bool) (bs : List (List Int)) (r : Int) (hl : bs.length ≤ 2000) (L : List E3) (hn : rdAll rdM1 bs = some L) (hLn : L ≠ []) :
    FnS Try.prog 64 [.one (.ptr 1000000000 0 0 0), .one (.r false (row nil 1 (rowsI bs)))] [(1000000000, .var 28 [.r true (int r), Zc, Zc, Zc])] (.one (.r true (bool true))) [(1000000000, .var 28 [.r true (int r), Zc, Zc, .own 2000001 0 (L).length 3]), (2000001, .sl 70 3 true (edges (L)))] := by
  have hlen := Zag bs
  refine Zac (l := [.tmp 4]) Try.func64 kRf rfl Try.ntmps64 rfl rfl ?_; simp only [dEnv, Nat.reduceAdd]
  repeat' (first|refine wk ?_|(refine wkB ?_ ?_<;>intro hg_<;>try exact wkX)|fail)
  obtain ⟨F, hF0, hF1⟩ : ∃ F : Nat × List E3 → St, (∀ k, F (k, []) = mkS 42 [(11, .one (.r true (int (k : Int)))), (10, .one (.r true (int (bs.length : Int)))), (9, .one (.r false (row nil 1 (rowsI bs)))), (0, .one (.ptr 1000000000 0 0 0))] [(1000000000, .var 28 [.r true (int r), Zc, Zc, Zc])]) ∧
      (∀ k l, l ≠ [] → F (k, l) = mkS 42 [(11, .one (.r true (int (k : Int)))), (10, .one (.r true (int (bs.length : Int)))), (9, .one (.r false (row nil 1 (rowsI bs)))), (0, .one (.ptr 1000000000 0 0 0))] [(1000000000, .var 28 [.r true (int r), Zc, Zc, .own 103 0 (l).length 3]), (103, .sl 70 3 true (edges (l)))]) := by
    refine ⟨fun y => if y.2.isEmpty then mkS 42 [(11, .one (.r true (int (y.1 : Int)))), (10, .one (.r true (int (bs.length : Int)))), (9, .one (.r false (row nil 1 (rowsI bs)))), (0, .one (.ptr 1000000000 0 0 0))] [(1000000000, .var 28 [.r true (int r), Zc, Zc, Zc])] else mkS 42 [(11, .one (.r true (int (y.1 : Int)))), (10, .one (.r true (int (bs.length : Int)))), (9, .one (.r false (row nil 1 (rowsI bs)))), (0, .one (.ptr 1000000000 0 0 0))] [(1000000000, .var 28 [.r true (int r), Zc, Zc, .own 103 0 (y.2).length 3]), (103, .sl 70 3 true (edges (y.2)))], fun k => rfl, fun k l h => ?_⟩
    cases l with
    | nil => exact absurd rfl h
    | cons v l => rfl
  refine Z7 (fun y : Nat × List E3 => y.1 ≤ bs.length ∧ y.2.length = y.1 ∧ ∃ xs, rdAll rdM1 (bs.drop y.1) = some xs ∧ y.2 ++ xs = L) F (fun y => bs.length - y.1) (0, []) ⟨Nat.zero_le _, rfl, L, hn, rfl⟩ (by
    rw [hF0]
    (refine Zg [] rfl ?_ ?_ <;> repeat' (first|refine wkS ?_ ?_|exact wkE|exact Zq (by rw [hlen])))) ?_
  rintro ⟨k, l⟩ ⟨hk, hkl, xs, hE, hxs⟩
  dsimp only at hk hkl hE hxs
  by_cases hlt : k < bs.length
  · have hx := Za3 hlt
    rw [Zbu hlt] at hE
    have KN := Zav false bs[k] 3 3 oM
    have hform := rdM1_form bs[k]
    generalize bs[k] = b at *
    have hwk : IntKind.i64.wrap ((k : Int) + 1) = ((k + 1 : Nat) : Int) := by rw [IntWalk.i64_in _ oM]; omega
    have hmi := (Zv l).symm
    rcases hform with ⟨nn, ns, e1, e2⟩ | ⟨a, c, d, e1, e2⟩
    · rw [e2] at hE
      cases hE
    · rw [e1] at KN
      rw [e2] at hE
      have hx0 : (ints [a, c, d])[(0 : Int).toNat]? = some (iP a) := rfl
      have hx1 : (ints [a, c, d])[(1 : Int).toNat]? = some (iP c) := rfl
      have hx2 : (ints [a, c, d])[(2 : Int).toNat]? = some (iP d) := rfl
      have hE2 : ∃ ys, rdAll rdM1 (bs.drop (k + 1)) = some ys ∧ (l ++ [(a, c, d)]) ++ ys = L := by
        cases h : rdAll rdM1 (bs.drop (k + 1)) with
        | none => rw [h] at hE; cases hE
        | some ys =>
          rw [h] at hE
          injection hE with hE
          exact ⟨ys, rfl, by rw [← hxs, ← hE]; simp⟩
      have hfin : ∀ s' : St, Weak s' (F (k + 1, l ++ [(a, c, d)])) → ∃ y' : Nat × List E3, (y'.1 ≤ bs.length ∧ y'.2.length = y'.1 ∧ ∃ xs, rdAll rdM1 (bs.drop y'.1) = some xs ∧ y'.2 ++ xs = L) ∧ Weak s' (F y') ∧ bs.length - y'.1 < bs.length - k := fun s' h => ⟨(k + 1, l ++ [(a, c, d)]), ⟨by dsimp only; omega, by simp; omega, hE2⟩, h, by dsimp only; omega⟩
      have happ : edges (l ++ [(a, c, d)]) = edges l ++ [edgeP (a, c, d)] := by unfold edges; simp
      rw [hF1 _ _ (by simp), happ] at hfin
      clear hE hE2 e1 e2 happ
      by_cases hll : l = []
      · subst hll
        rw [hF0]
        clear hF0 hF1
        repeat' (first|refine wk ?_|((first|refine' w_q rfl rfl ?xa rfl ?_|refine' v_q rfl rfl ?xa rfl ?_|refine' Zh rfl rfl (Zb rfl) rfl ?xa rfl ?_|refine' Zi rfl rfl (Zb rfl) rfl ?xa rfl ?_);case xa => first|exact Zn tbOk rfl rfl rfl rfl oM (by first|exact hx|exact hx0|exact hx1|exact hx2)|exact Ze KN rfl ⟨Zd (Za rfl), Zd (Za rfl), Zd (Za rfl), trivial⟩)|((first|refine' w_e rfl ?xa ?xb ?xc ?xe ?_|refine' v_e rfl ?xa ?xb ?xc ?xe ?_);(case xa => first|exact Z0 [.tmp 36] tlOk rfl rfl rfl rfl rfl rfl (Zad rfl) (by simp)|exact Zj 38 rfl (Zaw tlOk rfl rfl rfl rfl rfl (Zaa (Z8 (Zf rfl) rfl) (Zax _ _ _)) (by simp) (by simp [maxLen]) (by simp)));(case xb|xc|xe=>rfl);try refine wkD ?_)|(refine wkB ?_ ?_<;>intro hg_<;>try exact wkX)|fail)
        all_goals first
          | (refine hfin _ ?_
             (refine Zg [(103, 38)] rfl ?_ ?_ <;> repeat' (first|refine wkS ?_ ?_|exact wkE|exact Zq hwk|exact Zaf rfl rfl|exact var4 rfl rfl rfl (cown (by simp only [List.length_append, List.length_cons, List.length_nil, Zv])))))
          | (exfalso; omega)
      · rw [hF1 _ _ hll]
        clear hF0 hF1
        repeat' (first|refine wk ?_|((first|refine' w_q rfl rfl ?xa rfl ?_|refine' v_q rfl rfl ?xa rfl ?_|refine' Zh rfl rfl (Zb rfl) rfl ?xa rfl ?_|refine' Zi rfl rfl (Zb rfl) rfl ?xa rfl ?_);case xa => first|exact Zn tbOk rfl rfl rfl rfl oM (by first|exact hx|exact hx0|exact hx1|exact hx2)|exact Ze KN rfl ⟨Zd (Za rfl), Zd (Za rfl), Zd (Za rfl), trivial⟩)|((first|refine' w_e rfl ?xa ?xb ?xc ?xe ?_|refine' v_e rfl ?xa ?xb ?xc ?xe ?_);(case xa => first|exact Z0 [.tmp 36] tlOk rfl rfl rfl rfl rfl rfl (Zad rfl) (by simp)|exact Zj 38 rfl (Zah tlOk rfl rfl rfl rfl rfl rfl (Zaa (Z8 (Zf rfl) rfl) (Zax _ _ _)) hmi (by simp only [maxLen, List.length_cons, List.length_nil];omega) (by simp only [List.length_cons, List.length_nil];omega)));(case xb|xc|xe=>rfl);try refine wkD ?_)|(refine wkB ?_ ?_<;>intro hg_<;>try exact wkX)|fail)
        all_goals first
          | (refine hfin _ ?_
             (refine Zg [(103, 38)] rfl ?_ ?_ <;> repeat' (first|refine wkS ?_ ?_|exact wkE|exact Zq hwk|exact Zaf rfl rfl|exact var4 rfl rfl rfl (cown (by simp only [List.length_append, List.length_cons, List.length_nil, Zv])))))
          | (exfalso; omega)
  · rw [List.drop_of_length_le oM, rdAll] at hE
    injection hE with hE
    rw [← hE, List.append_nil] at hxs
    subst hxs
    rw [hF1 _ _ hLn]
    clear hF0 hF1
    repeat' (first|refine wk ?_|(refine wkB ?_ ?_<;>intro hg_<;>try exact wkX)|fail)
    all_goals first
      | exact Zu [(2000001, 103)] rfl sbH (Zay rfl rfl rfl)
      | (exfalso; omega)
theorem f_readMsNilZ (nil : Bool) (r : Int) :
  FnS Try.prog 64 [.one (.ptr 1000000000 0 0 0),.one (.r false (row nil 1 (rowsI [])))] [(1000000000,.var 28 [.r true (int r),Zc,Zc,Zc])] (.one (.r true (bool true))) [(1000000000,.var 28 [.r true (int r),Zc,Zc,Zc])]:=by
 have hlen : (rowsI []).length = 0:=rfl
 refine Zac (l:=[.tmp 4]) Try.func64 kRf rfl Try.ntmps64 rfl rfl ?_; simp only [dEnv,Nat.reduceAdd]
 repeat' (first|refine wk ?_|(refine wkB ?_ ?_<;>intro hg_<;>try exact wkX)|fail)
 refine Z7 (fun y : Nat=>y = 0) (fun y=>mkS 42 [(11,.one (.r true (int (y : Int)))),(10,.one (.r true (int 0))),(9,.one (.r false (row nil 1 (rowsI [])))),(0,.one (.ptr 1000000000 0 0 0))] [(1000000000,.var 28 [.r true (int r),Zc,Zc,Zc])]) (fun y=>y) 0 rfl (by (refine Zg [] rfl ?_ ?_ <;>exact wkW)) ?_
 rintro y rfl
 repeat' (first|refine wk ?_|(refine wkB ?_ ?_<;>intro hg_<;>try exact wkX)|fail)
 all_goals first
  | exact Zu [] rfl sbH (Zay rfl rfl rfl)
  | (exfalso; omega)
theorem f_readMsNoO (nil : Bool) (bs : List (List Int)) (r : Int) (vs : List Int) (gs : List Bool) (hl : bs.length ≤ 2000) (hn : rdAll rdM1 bs = none) :
    FnS Try.prog 64 [.one (.ptr 1000000000 0 0 0), .one (.r false (row nil 1 (rowsI bs)))] [(1000000000, .var 28 [.r true (int r), .own 1000000001 0 vs.length 1, .own 1000000002 0 gs.length 1, Zc]), (1000000001, .sl 3 1 true (ints vs)), (1000000002, .sl 4 1 true (bools gs))] (.one (.r true (bool false))) [] := by
  have hlen := Zag bs
  refine Zac (l := [.tmp 4]) Try.func64 kRf rfl Try.ntmps64 rfl rfl ?_; simp only [dEnv, Nat.reduceAdd]
  repeat' (first|refine wk ?_|(refine wkB ?_ ?_<;>intro hg_<;>try exact wkX)|fail)
  obtain ⟨F, hF0, hF1⟩ : ∃ F : Nat × List E3 → St, (∀ k, F (k, []) = mkS 42 [(11, .one (.r true (int (k : Int)))), (10, .one (.r true (int (bs.length : Int)))), (9, .one (.r false (row nil 1 (rowsI bs)))), (0, .one (.ptr 1000000000 0 0 0))] [(1000000000, .var 28 [.r true (int r), .own 1000000001 0 vs.length 1, .own 1000000002 0 gs.length 1, Zc]), (1000000001, .sl 3 1 true (ints vs)), (1000000002, .sl 4 1 true (bools gs))]) ∧
      (∀ k l, l ≠ [] → F (k, l) = mkS 42 [(11, .one (.r true (int (k : Int)))), (10, .one (.r true (int (bs.length : Int)))), (9, .one (.r false (row nil 1 (rowsI bs)))), (0, .one (.ptr 1000000000 0 0 0))] [(1000000000, .var 28 [.r true (int r), .own 1000000001 0 vs.length 1, .own 1000000002 0 gs.length 1, .own 103 0 (l).length 3]), (1000000001, .sl 3 1 true (ints vs)), (1000000002, .sl 4 1 true (bools gs)), (103, .sl 70 3 true (edges (l)))]) := by
    refine ⟨fun y => if y.2.isEmpty then mkS 42 [(11, .one (.r true (int (y.1 : Int)))), (10, .one (.r true (int (bs.length : Int)))), (9, .one (.r false (row nil 1 (rowsI bs)))), (0, .one (.ptr 1000000000 0 0 0))] [(1000000000, .var 28 [.r true (int r), .own 1000000001 0 vs.length 1, .own 1000000002 0 gs.length 1, Zc]), (1000000001, .sl 3 1 true (ints vs)), (1000000002, .sl 4 1 true (bools gs))] else mkS 42 [(11, .one (.r true (int (y.1 : Int)))), (10, .one (.r true (int (bs.length : Int)))), (9, .one (.r false (row nil 1 (rowsI bs)))), (0, .one (.ptr 1000000000 0 0 0))] [(1000000000, .var 28 [.r true (int r), .own 1000000001 0 vs.length 1, .own 1000000002 0 gs.length 1, .own 103 0 (y.2).length 3]), (1000000001, .sl 3 1 true (ints vs)), (1000000002, .sl 4 1 true (bools gs)), (103, .sl 70 3 true (edges (y.2)))], fun k => rfl, fun k l h => ?_⟩
    cases l with
    | nil => exact absurd rfl h
    | cons v l => rfl
  refine Z7 (fun y : Nat × List E3 => y.1 ≤ bs.length ∧ y.2.length = y.1 ∧ rdAll rdM1 (bs.drop y.1) = none) F (fun y => bs.length - y.1) (0, []) ⟨Nat.zero_le _, rfl, hn⟩ (by
    rw [hF0]
    (refine Zg [] rfl ?_ ?_ <;> repeat' (first|refine wkS ?_ ?_|exact wkE|exact Zq (by rw [hlen])))) ?_
  rintro ⟨k, l⟩ ⟨hk, hkl, hE⟩
  dsimp only at hk hkl hE
  by_cases hlt : k < bs.length
  · have hx := Za3 hlt
    rw [Zbu hlt] at hE
    have KN := Zav false bs[k] 3 3 oM
    have hform := rdM1_form bs[k]
    generalize bs[k] = b at *
    have hwk : IntKind.i64.wrap ((k : Int) + 1) = ((k + 1 : Nat) : Int) := by rw [IntWalk.i64_in _ oM]; omega
    have hmi := (Zv l).symm
    rcases hform with ⟨nn, ns, e1, e2⟩ | ⟨a, c, d, e1, e2⟩
    · rw [e1] at KN
      clear hE e2 e1
      have hx0 := hx
      have hx1 := hx
      have hx2 := hx
      by_cases hll : l = []
      · subst hll
        rw [hF0]
        clear hF0 hF1
        repeat' (first|refine wk ?_|((first|refine' w_q rfl rfl ?xa rfl ?_|refine' v_q rfl rfl ?xa rfl ?_|refine' Zh rfl rfl (Zb rfl) rfl ?xa rfl ?_|refine' Zi rfl rfl (Zb rfl) rfl ?xa rfl ?_);case xa => first|exact Zn tbOk rfl rfl rfl rfl oM (by first|exact hx|exact hx0|exact hx1|exact hx2)|exact Ze KN rfl ⟨Zd (Za rfl), Zd (Za rfl), Zd (Za rfl), trivial⟩)|(refine wkB ?_ ?_<;>intro hg_<;>try exact wkX)|fail)
        all_goals first
          | exact Zu [] rfl sbH (Zay rfl rfl rfl)
          | (exfalso; omega)
      · rw [hF1 _ _ hll]
        clear hF0 hF1
        repeat' (first|refine wk ?_|((first|refine' w_q rfl rfl ?xa rfl ?_|refine' v_q rfl rfl ?xa rfl ?_|refine' Zh rfl rfl (Zb rfl) rfl ?xa rfl ?_|refine' Zi rfl rfl (Zb rfl) rfl ?xa rfl ?_);case xa => first|exact Zn tbOk rfl rfl rfl rfl oM (by first|exact hx|exact hx0|exact hx1|exact hx2)|exact Ze KN rfl ⟨Zd (Za rfl), Zd (Za rfl), Zd (Za rfl), trivial⟩)|(refine wkB ?_ ?_<;>intro hg_<;>try exact wkX)|fail)
        all_goals first
          | exact Zu [] rfl sbH (Zay rfl rfl rfl)
          | (exfalso; omega)
    · rw [e1] at KN
      rw [e2] at hE
      have hx0 : (ints [a, c, d])[(0 : Int).toNat]? = some (iP a) := rfl
      have hx1 : (ints [a, c, d])[(1 : Int).toNat]? = some (iP c) := rfl
      have hx2 : (ints [a, c, d])[(2 : Int).toNat]? = some (iP d) := rfl
      have hE2 : rdAll rdM1 (bs.drop (k + 1)) = none := by
        cases h : rdAll rdM1 (bs.drop (k + 1)) with
        | none => rfl
        | some xs => rw [h] at hE; cases hE
      have hfin : ∀ s' : St, Weak s' (F (k + 1, l ++ [(a, c, d)])) → ∃ y' : Nat × List E3, (y'.1 ≤ bs.length ∧ y'.2.length = y'.1 ∧ rdAll rdM1 (bs.drop y'.1) = none) ∧ Weak s' (F y') ∧ bs.length - y'.1 < bs.length - k := fun s' h => ⟨(k + 1, l ++ [(a, c, d)]), ⟨by dsimp only; omega, by simp; omega, hE2⟩, h, by dsimp only; omega⟩
      have happ : edges (l ++ [(a, c, d)]) = edges l ++ [edgeP (a, c, d)] := by unfold edges; simp
      rw [hF1 _ _ (by simp), happ] at hfin
      clear hE hE2 e1 e2 happ
      by_cases hll : l = []
      · subst hll
        rw [hF0]
        clear hF0 hF1
        repeat' (first|refine wk ?_|((first|refine' w_q rfl rfl ?xa rfl ?_|refine' v_q rfl rfl ?xa rfl ?_|refine' Zh rfl rfl (Zb rfl) rfl ?xa rfl ?_|refine' Zi rfl rfl (Zb rfl) rfl ?xa rfl ?_);case xa => first|exact Zn tbOk rfl rfl rfl rfl oM (by first|exact hx|exact hx0|exact hx1|exact hx2)|exact Ze KN rfl ⟨Zd (Za rfl), Zd (Za rfl), Zd (Za rfl), trivial⟩)|((first|refine' w_e rfl ?xa ?xb ?xc ?xe ?_|refine' v_e rfl ?xa ?xb ?xc ?xe ?_);(case xa => first|exact Z0 [.tmp 36] tlOk rfl rfl rfl rfl rfl rfl (Zad rfl) (by simp)|exact Zj 38 rfl (Zaw tlOk rfl rfl rfl rfl rfl (Zaa (Z8 (Zf rfl) rfl) (Zax _ _ _)) (by simp) (by simp [maxLen]) (by simp)));(case xb|xc|xe=>rfl);try refine wkD ?_)|(refine wkB ?_ ?_<;>intro hg_<;>try exact wkX)|fail)
        all_goals first
          | (refine hfin _ ?_
             (refine Zg [(103, 38)] rfl ?_ ?_ <;> repeat' (first|refine wkS ?_ ?_|exact wkE|exact Zq hwk|exact Zaf rfl rfl|exact var4 rfl rfl rfl (cown (by simp only [List.length_append, List.length_cons, List.length_nil, Zv])))))
          | (exfalso; omega)
      · rw [hF1 _ _ hll]
        clear hF0 hF1
        repeat' (first|refine wk ?_|((first|refine' w_q rfl rfl ?xa rfl ?_|refine' v_q rfl rfl ?xa rfl ?_|refine' Zh rfl rfl (Zb rfl) rfl ?xa rfl ?_|refine' Zi rfl rfl (Zb rfl) rfl ?xa rfl ?_);case xa => first|exact Zn tbOk rfl rfl rfl rfl oM (by first|exact hx|exact hx0|exact hx1|exact hx2)|exact Ze KN rfl ⟨Zd (Za rfl), Zd (Za rfl), Zd (Za rfl), trivial⟩)|((first|refine' w_e rfl ?xa ?xb ?xc ?xe ?_|refine' v_e rfl ?xa ?xb ?xc ?xe ?_);(case xa => first|exact Z0 [.tmp 36] tlOk rfl rfl rfl rfl rfl rfl (Zad rfl) (by simp)|exact Zj 38 rfl (Zah tlOk rfl rfl rfl rfl rfl rfl (Zaa (Z8 (Zf rfl) rfl) (Zax _ _ _)) hmi (by simp only [maxLen, List.length_cons, List.length_nil];omega) (by simp only [List.length_cons, List.length_nil];omega)));(case xb|xc|xe=>rfl);try refine wkD ?_)|(refine wkB ?_ ?_<;>intro hg_<;>try exact wkX)|fail)
        all_goals first
          | (refine hfin _ ?_
             (refine Zg [(103, 38)] rfl ?_ ?_ <;> repeat' (first|refine wkS ?_ ?_|exact wkE|exact Zq hwk|exact Zaf rfl rfl|exact var4 rfl rfl rfl (cown (by simp only [List.length_append, List.length_cons, List.length_nil, Zv])))))
          | (exfalso; omega)
  · exfalso
    rw [List.drop_of_length_le oM] at hE
    cases hE
theorem f_readMsYesO (nil : Bool) (bs : List (List Int)) (r : Int) (vs : List Int) (gs : List Bool) (hl : bs.length ≤ 2000) (L : List E3) (hn : rdAll rdM1 bs = some L) (hLn : L ≠ []) :
    FnS Try.prog 64 [.one (.ptr 1000000000 0 0 0), .one (.r false (row nil 1 (rowsI bs)))] [(1000000000, .var 28 [.r true (int r), .own 1000000001 0 vs.length 1, .own 1000000002 0 gs.length 1, Zc]), (1000000001, .sl 3 1 true (ints vs)), (1000000002, .sl 4 1 true (bools gs))] (.one (.r true (bool true))) [(1000000000, .var 28 [.r true (int r), .own 1000000001 0 vs.length 1, .own 1000000002 0 gs.length 1, .own 2000001 0 (L).length 3]), (1000000001, .sl 3 1 true (ints vs)), (1000000002, .sl 4 1 true (bools gs)), (2000001, .sl 70 3 true (edges (L)))] := by
  have hlen := Zag bs
  refine Zac (l := [.tmp 4]) Try.func64 kRf rfl Try.ntmps64 rfl rfl ?_; simp only [dEnv, Nat.reduceAdd]
  repeat' (first|refine wk ?_|(refine wkB ?_ ?_<;>intro hg_<;>try exact wkX)|fail)
  obtain ⟨F, hF0, hF1⟩ : ∃ F : Nat × List E3 → St, (∀ k, F (k, []) = mkS 42 [(11, .one (.r true (int (k : Int)))), (10, .one (.r true (int (bs.length : Int)))), (9, .one (.r false (row nil 1 (rowsI bs)))), (0, .one (.ptr 1000000000 0 0 0))] [(1000000000, .var 28 [.r true (int r), .own 1000000001 0 vs.length 1, .own 1000000002 0 gs.length 1, Zc]), (1000000001, .sl 3 1 true (ints vs)), (1000000002, .sl 4 1 true (bools gs))]) ∧
      (∀ k l, l ≠ [] → F (k, l) = mkS 42 [(11, .one (.r true (int (k : Int)))), (10, .one (.r true (int (bs.length : Int)))), (9, .one (.r false (row nil 1 (rowsI bs)))), (0, .one (.ptr 1000000000 0 0 0))] [(1000000000, .var 28 [.r true (int r), .own 1000000001 0 vs.length 1, .own 1000000002 0 gs.length 1, .own 103 0 (l).length 3]), (1000000001, .sl 3 1 true (ints vs)), (1000000002, .sl 4 1 true (bools gs)), (103, .sl 70 3 true (edges (l)))]) := by
    refine ⟨fun y => if y.2.isEmpty then mkS 42 [(11, .one (.r true (int (y.1 : Int)))), (10, .one (.r true (int (bs.length : Int)))), (9, .one (.r false (row nil 1 (rowsI bs)))), (0, .one (.ptr 1000000000 0 0 0))] [(1000000000, .var 28 [.r true (int r), .own 1000000001 0 vs.length 1, .own 1000000002 0 gs.length 1, Zc]), (1000000001, .sl 3 1 true (ints vs)), (1000000002, .sl 4 1 true (bools gs))] else mkS 42 [(11, .one (.r true (int (y.1 : Int)))), (10, .one (.r true (int (bs.length : Int)))), (9, .one (.r false (row nil 1 (rowsI bs)))), (0, .one (.ptr 1000000000 0 0 0))] [(1000000000, .var 28 [.r true (int r), .own 1000000001 0 vs.length 1, .own 1000000002 0 gs.length 1, .own 103 0 (y.2).length 3]), (1000000001, .sl 3 1 true (ints vs)), (1000000002, .sl 4 1 true (bools gs)), (103, .sl 70 3 true (edges (y.2)))], fun k => rfl, fun k l h => ?_⟩
    cases l with
    | nil => exact absurd rfl h
    | cons v l => rfl
  refine Z7 (fun y : Nat × List E3 => y.1 ≤ bs.length ∧ y.2.length = y.1 ∧ ∃ xs, rdAll rdM1 (bs.drop y.1) = some xs ∧ y.2 ++ xs = L) F (fun y => bs.length - y.1) (0, []) ⟨Nat.zero_le _, rfl, L, hn, rfl⟩ (by
    rw [hF0]
    (refine Zg [] rfl ?_ ?_ <;> repeat' (first|refine wkS ?_ ?_|exact wkE|exact Zq (by rw [hlen])))) ?_
  rintro ⟨k, l⟩ ⟨hk, hkl, xs, hE, hxs⟩
  dsimp only at hk hkl hE hxs
  by_cases hlt : k < bs.length
  · have hx := Za3 hlt
    rw [Zbu hlt] at hE
    have KN := Zav false bs[k] 3 3 oM
    have hform := rdM1_form bs[k]
    generalize bs[k] = b at *
    have hwk : IntKind.i64.wrap ((k : Int) + 1) = ((k + 1 : Nat) : Int) := by rw [IntWalk.i64_in _ oM]; omega
    have hmi := (Zv l).symm
    rcases hform with ⟨nn, ns, e1, e2⟩ | ⟨a, c, d, e1, e2⟩
    · rw [e2] at hE
      cases hE
    · rw [e1] at KN
      rw [e2] at hE
      have hx0 : (ints [a, c, d])[(0 : Int).toNat]? = some (iP a) := rfl
      have hx1 : (ints [a, c, d])[(1 : Int).toNat]? = some (iP c) := rfl
      have hx2 : (ints [a, c, d])[(2 : Int).toNat]? = some (iP d) := rfl
      have hE2 : ∃ ys, rdAll rdM1 (bs.drop (k + 1)) = some ys ∧ (l ++ [(a, c, d)]) ++ ys = L := by
        cases h : rdAll rdM1 (bs.drop (k + 1)) with
        | none => rw [h] at hE; cases hE
        | some ys =>
          rw [h] at hE
          injection hE with hE
          exact ⟨ys, rfl, by rw [← hxs, ← hE]; simp⟩
      have hfin : ∀ s' : St, Weak s' (F (k + 1, l ++ [(a, c, d)])) → ∃ y' : Nat × List E3, (y'.1 ≤ bs.length ∧ y'.2.length = y'.1 ∧ ∃ xs, rdAll rdM1 (bs.drop y'.1) = some xs ∧ y'.2 ++ xs = L) ∧ Weak s' (F y') ∧ bs.length - y'.1 < bs.length - k := fun s' h => ⟨(k + 1, l ++ [(a, c, d)]), ⟨by dsimp only; omega, by simp; omega, hE2⟩, h, by dsimp only; omega⟩
      have happ : edges (l ++ [(a, c, d)]) = edges l ++ [edgeP (a, c, d)] := by unfold edges; simp
      rw [hF1 _ _ (by simp), happ] at hfin
      clear hE hE2 e1 e2 happ
      by_cases hll : l = []
      · subst hll
        rw [hF0]
        clear hF0 hF1
        repeat' (first|refine wk ?_|((first|refine' w_q rfl rfl ?xa rfl ?_|refine' v_q rfl rfl ?xa rfl ?_|refine' Zh rfl rfl (Zb rfl) rfl ?xa rfl ?_|refine' Zi rfl rfl (Zb rfl) rfl ?xa rfl ?_);case xa => first|exact Zn tbOk rfl rfl rfl rfl oM (by first|exact hx|exact hx0|exact hx1|exact hx2)|exact Ze KN rfl ⟨Zd (Za rfl), Zd (Za rfl), Zd (Za rfl), trivial⟩)|((first|refine' w_e rfl ?xa ?xb ?xc ?xe ?_|refine' v_e rfl ?xa ?xb ?xc ?xe ?_);(case xa => first|exact Z0 [.tmp 36] tlOk rfl rfl rfl rfl rfl rfl (Zad rfl) (by simp)|exact Zj 38 rfl (Zaw tlOk rfl rfl rfl rfl rfl (Zaa (Z8 (Zf rfl) rfl) (Zax _ _ _)) (by simp) (by simp [maxLen]) (by simp)));(case xb|xc|xe=>rfl);try refine wkD ?_)|(refine wkB ?_ ?_<;>intro hg_<;>try exact wkX)|fail)
        all_goals first
          | (refine hfin _ ?_
             (refine Zg [(103, 38)] rfl ?_ ?_ <;> repeat' (first|refine wkS ?_ ?_|exact wkE|exact Zq hwk|exact Zaf rfl rfl|exact var4 rfl rfl rfl (cown (by simp only [List.length_append, List.length_cons, List.length_nil, Zv])))))
          | (exfalso; omega)
      · rw [hF1 _ _ hll]
        clear hF0 hF1
        repeat' (first|refine wk ?_|((first|refine' w_q rfl rfl ?xa rfl ?_|refine' v_q rfl rfl ?xa rfl ?_|refine' Zh rfl rfl (Zb rfl) rfl ?xa rfl ?_|refine' Zi rfl rfl (Zb rfl) rfl ?xa rfl ?_);case xa => first|exact Zn tbOk rfl rfl rfl rfl oM (by first|exact hx|exact hx0|exact hx1|exact hx2)|exact Ze KN rfl ⟨Zd (Za rfl), Zd (Za rfl), Zd (Za rfl), trivial⟩)|((first|refine' w_e rfl ?xa ?xb ?xc ?xe ?_|refine' v_e rfl ?xa ?xb ?xc ?xe ?_);(case xa => first|exact Z0 [.tmp 36] tlOk rfl rfl rfl rfl rfl rfl (Zad rfl) (by simp)|exact Zj 38 rfl (Zah tlOk rfl rfl rfl rfl rfl rfl (Zaa (Z8 (Zf rfl) rfl) (Zax _ _ _)) hmi (by simp only [maxLen, List.length_cons, List.length_nil];omega) (by simp only [List.length_cons, List.length_nil];omega)));(case xb|xc|xe=>rfl);try refine wkD ?_)|(refine wkB ?_ ?_<;>intro hg_<;>try exact wkX)|fail)
        all_goals first
          | (refine hfin _ ?_
             (refine Zg [(103, 38)] rfl ?_ ?_ <;> repeat' (first|refine wkS ?_ ?_|exact wkE|exact Zq hwk|exact Zaf rfl rfl|exact var4 rfl rfl rfl (cown (by simp only [List.length_append, List.length_cons, List.length_nil, Zv])))))
          | (exfalso; omega)
  · rw [List.drop_of_length_le oM, rdAll] at hE
    injection hE with hE
    rw [← hE, List.append_nil] at hxs
    subst hxs
    rw [hF1 _ _ hLn]
    clear hF0 hF1
    repeat' (first|refine wk ?_|(refine wkB ?_ ?_<;>intro hg_<;>try exact wkX)|fail)
    all_goals first
      | exact Zu [(2000001, 103)] rfl sbH (Zay rfl rfl rfl)
      | (exfalso; omega)
theorem f_readMsNilO (nil : Bool) (r : Int) (vs : List Int) (gs : List Bool) :
  FnS Try.prog 64 [.one (.ptr 1000000000 0 0 0),.one (.r false (row nil 1 (rowsI [])))] [(1000000000,.var 28 [.r true (int r),.own 1000000001 0 vs.length 1,.own 1000000002 0 gs.length 1,Zc]),(1000000001,.sl 3 1 true (ints vs)),(1000000002,.sl 4 1 true (bools gs))] (.one (.r true (bool true))) [(1000000000,.var 28 [.r true (int r),.own 1000000001 0 vs.length 1,.own 1000000002 0 gs.length 1,Zc]),(1000000001,.sl 3 1 true (ints vs)),(1000000002,.sl 4 1 true (bools gs))]:=by
 have hlen : (rowsI []).length = 0:=rfl
 refine Zac (l:=[.tmp 4]) Try.func64 kRf rfl Try.ntmps64 rfl rfl ?_; simp only [dEnv,Nat.reduceAdd]
 repeat' (first|refine wk ?_|(refine wkB ?_ ?_<;>intro hg_<;>try exact wkX)|fail)
 refine Z7 (fun y : Nat=>y = 0) (fun y=>mkS 42 [(11,.one (.r true (int (y : Int)))),(10,.one (.r true (int 0))),(9,.one (.r false (row nil 1 (rowsI [])))),(0,.one (.ptr 1000000000 0 0 0))] [(1000000000,.var 28 [.r true (int r),.own 1000000001 0 vs.length 1,.own 1000000002 0 gs.length 1,Zc]),(1000000001,.sl 3 1 true (ints vs)),(1000000002,.sl 4 1 true (bools gs))]) (fun y=>y) 0 rfl (by (refine Zg [] rfl ?_ ?_ <;>exact wkW)) ?_
 rintro y rfl
 repeat' (first|refine wk ?_|(refine wkB ?_ ?_<;>intro hg_<;>try exact wkX)|fail)
 all_goals first
  | exact Zu [] rfl sbH (Zay rfl rfl rfl)
  | (exfalso; omega)
end Go.Proofs.Ytmkijbfiilpccaa.Abs
