/- Checkpoints by states: the program's readers of values and messages. No statement of the seat is proved here. -/
import Derived.Lib.Hide
import Derived.Test.YtmkijbfiilpccaaLaTy
import Derived.Test.YtmkijbfiilpccaaLaGCkn
import Derived.Test.YtmkijbfiilpccaaLaACkRL
set_option linter.unusedSimpArgs false
set_option linter.unusedVariables false
set_option maxRecDepth 100000
set_option maxHeartbeats 8000000
namespace Go.Proofs.Ytmkijbfiilpccaa.Abs
open Go.RowKit
open R (val row ref)
def rdV1 (b : List Int) : Option (Int × Bool) :=
 match nbF 2 2 b with
 | (some [a,g],true)=>if g ≤ 1 then some (a - 1,g == 1) else none
 | _=>none
def rdM1 (b : List Int) : Option E3 :=
 match nbF 3 3 b with
 | (some [a,c,d],true)=>some (a,c,d)
 | _=>none
def rdAll {α : Type} (f : List Int → Option α) : List (List Int) → Option (List α)
 | []=>some []
 | b :: bs=>match f b with
  | some x=>match rdAll f bs with
   | some xs=>some (x :: xs)
   | none=>none
  | none=>none
theorem rdV1_form (b : List Int) : (∃ nn ns,nbRes (nbF 2 2 b) = .tup [.one (row nn 1 (ints ns)),.one (bool false)] ∧ rdV1 b = none) ∨ (∃ a g,nbRes (nbF 2 2 b) = .tup [.one (row false 1 (ints [a,g])),.one (bool true)] ∧ 0 ≤ a ∧ a ≤ 1000000 ∧ rdV1 b = if g ≤ 1 then some (a - 1,g == 1) else none):=by
 unfold rdV1
 rcases h : nbF 2 2 b with ⟨o,q⟩
 cases o with
 | none=>exact .inl ⟨true,[],rfl,rfl⟩
 | some ns =>
  have hl:=nbF_len h
  match ns,hl with
  | [a,g],_ =>
   cases q
   ·exact .inl ⟨false,[a,g],rfl,rfl⟩
   ·have:=(nbF_yes h).2.2 a (by simp)
    exact .inr ⟨a,g,rfl,this.1,this.2,rfl⟩
theorem rdM1_form (b : List Int) : (∃ nn ns,nbRes (nbF 3 3 b) = .tup [.one (row nn 1 (ints ns)),.one (bool false)] ∧ rdM1 b = none) ∨ (∃ a c d,nbRes (nbF 3 3 b) = .tup [.one (row false 1 (ints [a,c,d])),.one (bool true)] ∧ rdM1 b = some (a,c,d)):=by
 unfold rdM1
 rcases h : nbF 3 3 b with ⟨o,q⟩
 cases o with
 | none=>exact .inl ⟨true,[],rfl,rfl⟩
 | some ns =>
  have hl:=nbF_len h
  match ns,hl with
  | [a,c,d],_ =>
   cases q
   ·exact .inl ⟨false,[a,c,d],rfl,rfl⟩
   ·exact .inr ⟨a,c,d,rfl,rfl⟩
theorem Zcx {α : Type} {f : List Int → Option α} {bs : List (List Int)} {k : Nat} (h : k < bs.length) : rdAll f (bs.drop k) = match f bs[k] with
  | some x=>match rdAll f (bs.drop (k + 1)) with
   | some xs=>some (x :: xs)
   | none=>none
  | none=>none:=by
 rw [List.drop_eq_getElem_cons h,rdAll]
def vsOf (l : List (Int × Bool)) : List Int:=l.map Prod.fst
def gsOf (l : List (Int × Bool)) : List Bool:=l.map Prod.snd
theorem Zbs (l : List (Int × Bool)) : (vsOf l).length = l.length:=List.length_map ..
theorem Zbt (l : List (Int × Bool)) : (gsOf l).length = l.length:=List.length_map ..
theorem vsOf_app (l : List (Int × Bool)) (v : Int) (g : Bool) : ints (vsOf (l ++ [(v,g)])) = ints (vsOf l) ++ [.one (int v)]:=by unfold vsOf ints; simp
theorem gsOf_app (l : List (Int × Bool)) (v : Int) (g : Bool) : bools (gsOf (l ++ [(v,g)])) = bools (gsOf l) ++ [.one (bool g)]:=by unfold gsOf bools; simp
abbrev Zc : Cell:=.r true (row true 0 [])
theorem f_readValuesNo (nil : Bool) (bs : List (List Int)) (r : Int) (hl : bs.length ≤ 2000) (hn : rdAll rdV1 bs = none) :
    FnS Try.prog 63 [.one (.ptr 1000000000 0 0 0), .one (.r false (row nil 1 (rowsI bs)))] [(1000000000, .var 28 [.r true (int r), Zc, Zc, Zc])] (.one (.r true (bool false))) [] := by
  have hlen := Zan bs
  refine Zad (l := [.tmp 4]) Try.func63 kRf rfl Try.ntmps63 rfl rfl ?_; simp only [dEnv, Nat.reduceAdd]
  repeat' (first|refine wk ?_|(refine wkB ?_ ?_<;>intro hg_<;>try exact wkX)|fail)
  obtain ⟨F, hF0, hF1⟩ : ∃ F : Nat × List (Int × Bool) → St, (∀ k, F (k, []) = mkS 55 [(11, .one (.r true (int (k : Int)))), (10, .one (.r true (int (bs.length : Int)))), (9, .one (.r false (row nil 1 (rowsI bs)))), (0, .one (.ptr 1000000000 0 0 0))] [(1000000000, .var 28 [.r true (int r), Zc, Zc, Zc])]) ∧
      (∀ k l, l ≠ [] → F (k, l) = mkS 55 [(11, .one (.r true (int (k : Int)))), (10, .one (.r true (int (bs.length : Int)))), (9, .one (.r false (row nil 1 (rowsI bs)))), (0, .one (.ptr 1000000000 0 0 0))] [(1000000000, .var 28 [.r true (int r), .own 101 0 (vsOf l).length 1, .own 102 0 (gsOf l).length 1, Zc]), (101, .sl 3 1 true (ints (vsOf l))), (102, .sl 4 1 true (bools (gsOf l)))]) := by
    refine ⟨fun y => if y.2.isEmpty then mkS 55 [(11, .one (.r true (int (y.1 : Int)))), (10, .one (.r true (int (bs.length : Int)))), (9, .one (.r false (row nil 1 (rowsI bs)))), (0, .one (.ptr 1000000000 0 0 0))] [(1000000000, .var 28 [.r true (int r), Zc, Zc, Zc])] else mkS 55 [(11, .one (.r true (int (y.1 : Int)))), (10, .one (.r true (int (bs.length : Int)))), (9, .one (.r false (row nil 1 (rowsI bs)))), (0, .one (.ptr 1000000000 0 0 0))] [(1000000000, .var 28 [.r true (int r), .own 101 0 (vsOf y.2).length 1, .own 102 0 (gsOf y.2).length 1, Zc]), (101, .sl 3 1 true (ints (vsOf y.2))), (102, .sl 4 1 true (bools (gsOf y.2)))], fun k => rfl, fun k l h => ?_⟩
    cases l with
    | nil => exact absurd rfl h
    | cons v l => rfl
  refine Zaa (fun y : Nat × List (Int × Bool) => y.1 ≤ bs.length ∧ y.2.length = y.1 ∧ rdAll rdV1 (bs.drop y.1) = none) F (fun y => bs.length - y.1) (0, []) ⟨Nat.zero_le _, rfl, hn⟩ (by
    rw [hF0]
    (refine Zi [] rfl ?_ ?_ <;> repeat' (first|refine wkS ?_ ?_|exact wkE|exact Zt (by rw [hlen])))) ?_
  rintro ⟨k, l⟩ ⟨hk, hkl, hE⟩
  dsimp only at hk hkl hE
  by_cases hlt : k < bs.length
  · have hx := Zbr hlt
    rw [Zcx hlt] at hE
    have KN := Zbh false bs[k] 2 2 oM
    have hform := rdV1_form bs[k]
    generalize bs[k] = b at *
    have hwk : IntKind.i64.wrap ((k : Int) + 1) = ((k + 1 : Nat) : Int) := by rw [IntWalk.i64_in _ oM]; omega
    have hvi := (Zu (vsOf l)).symm
    have hgi := (Zah (gsOf l)).symm
    have hvl := Zbs l
    have hgl := Zbt l
    rcases hform with ⟨nn, ns, e1, e2⟩ | ⟨a, g, e1, ha0, ha1, e2⟩
    · rw [e1] at KN
      clear hE e2 e1
      by_cases hll : l = []
      · subst hll
        rw [hF0]
        clear hF0 hF1
        repeat' (first|refine wk ?_|((first|refine' w_q rfl rfl ?xa rfl ?_|refine' v_q rfl rfl ?xa rfl ?_|refine' Zn rfl rfl (Zb rfl) rfl ?xa rfl ?_|refine' Zo rfl rfl (Zb rfl) rfl ?xa rfl ?_);case xa => first|exact Zx tbOk rfl rfl rfl rfl oM hx|exact Zm KN rfl ⟨Zf (Za rfl), Zf (Za rfl), Zf (Za rfl), trivial⟩)|(refine wkB ?_ ?_<;>intro hg_<;>try exact wkX)|fail)
        all_goals first
          | exact Z4 [] rfl sbH (Zbl rfl rfl rfl)
          | (exfalso; omega)
      · rw [hF1 _ _ hll]
        clear hF0 hF1
        repeat' (first|refine wk ?_|((first|refine' w_q rfl rfl ?xa rfl ?_|refine' v_q rfl rfl ?xa rfl ?_|refine' Zn rfl rfl (Zb rfl) rfl ?xa rfl ?_|refine' Zo rfl rfl (Zb rfl) rfl ?xa rfl ?_);case xa => first|exact Zx tbOk rfl rfl rfl rfl oM hx|exact Zm KN rfl ⟨Zf (Za rfl), Zf (Za rfl), Zf (Za rfl), trivial⟩)|(refine wkB ?_ ?_<;>intro hg_<;>try exact wkX)|fail)
        all_goals first
          | exact Z4 [] rfl sbH (Zbl rfl rfl rfl)
          | (exfalso; omega)
    · rw [e1] at KN
      rw [e2] at hE
      have hx0 : (ints [a, g])[(0 : Int).toNat]? = some (iP a) := rfl
      have hx1 : (ints [a, g])[(1 : Int).toNat]? = some (iP g) := rfl
      by_cases hg : g ≤ 1
      · rw [if_pos hg] at hE
        have hE2 : rdAll rdV1 (bs.drop (k + 1)) = none := by
          cases h : rdAll rdV1 (bs.drop (k + 1)) with
          | none => rfl
          | some xs => rw [h] at hE; cases hE
        have hwa : IntKind.i64.wrap (a - 1) = a - 1 := IntWalk.i64_in _ oM
        have hfin : ∀ s' : St, Weak s' (F (k + 1, l ++ [(a - 1, g == 1)])) → ∃ y' : Nat × List (Int × Bool), (y'.1 ≤ bs.length ∧ y'.2.length = y'.1 ∧ rdAll rdV1 (bs.drop y'.1) = none) ∧ Weak s' (F y') ∧ bs.length - y'.1 < bs.length - k := fun s' h => ⟨(k + 1, l ++ [(a - 1, g == 1)]), ⟨by dsimp only; omega, by simp; omega, hE2⟩, h, by dsimp only; omega⟩
        rw [hF1 _ _ (by simp), vsOf_app, gsOf_app, ← hwa] at hfin
        clear hE hE2 e1 e2 hwa
        by_cases hll : l = []
        · subst hll
          rw [hF0]
          clear hF0 hF1
          repeat' (first|refine wk ?_|((first|refine' w_q rfl rfl ?xa rfl ?_|refine' v_q rfl rfl ?xa rfl ?_|refine' Zn rfl rfl (Zb rfl) rfl ?xa rfl ?_|refine' Zo rfl rfl (Zb rfl) rfl ?xa rfl ?_);case xa => first|exact Zx tbOk rfl rfl rfl rfl oM (by first|exact hx|exact hx0|exact hx1)|exact Zm KN rfl ⟨Zf (Za rfl), Zf (Za rfl), Zf (Za rfl), trivial⟩)|((first|refine' w_e rfl ?xa ?xb ?xc ?xe ?_|refine' v_e rfl ?xa ?xb ?xc ?xe ?_);(case xa => first|exact Zl [.tmp 36] tlOk rfl rfl rfl rfl rfl rfl (Zy rfl) (by simp)|exact Zl [.tmp 49] tlOk rfl rfl rfl rfl rfl rfl (Zy rfl) (by simp)|exact Ze 38 rfl (Zas tlOk rfl rfl rfl rfl rfl (Z6 (Z0 (Zj rfl) rfl) (by simp [plain1])) (by simp) (by simp [maxLen]) (by simp))|exact Ze 51 rfl (Zas tlOk rfl rfl rfl rfl rfl (Z6 (Z0 (Zj rfl) rfl) (by simp [plain1])) (by simp) (by simp [maxLen]) (by simp)));(case xb|xc|xe=>rfl);try refine wkD ?_)|(refine wkB ?_ ?_<;>intro hg_<;>try exact wkX)|fail)
          all_goals first
            | (refine hfin _ ?_
               (refine Zi [(101, 38), (102, 51)] rfl ?_ ?_ <;> repeat' (first|refine wkS ?_ ?_|exact wkE|exact Zt hwk|exact Zz rfl rfl|exact var4 rfl (cown (by simp [vsOf])) (cown (by simp [gsOf])) rfl)))
            | (exfalso; omega)
        · rw [hF1 _ _ hll]
          clear hF0 hF1
          repeat' (first|refine wk ?_|((first|refine' w_q rfl rfl ?xa rfl ?_|refine' v_q rfl rfl ?xa rfl ?_|refine' Zn rfl rfl (Zb rfl) rfl ?xa rfl ?_|refine' Zo rfl rfl (Zb rfl) rfl ?xa rfl ?_);case xa => first|exact Zx tbOk rfl rfl rfl rfl oM (by first|exact hx|exact hx0|exact hx1)|exact Zm KN rfl ⟨Zf (Za rfl), Zf (Za rfl), Zf (Za rfl), trivial⟩)|((first|refine' w_e rfl ?xa ?xb ?xc ?xe ?_|refine' v_e rfl ?xa ?xb ?xc ?xe ?_);(case xa => first|exact Zl [.tmp 36] tlOk rfl rfl rfl rfl rfl rfl (Zy rfl) (by simp)|exact Zl [.tmp 49] tlOk rfl rfl rfl rfl rfl rfl (Zy rfl) (by simp)|exact Ze 38 rfl (Zw tlOk rfl rfl rfl rfl rfl rfl (Z6 (Z0 (Zj rfl) rfl) (by simp [plain1])) hvi (by simp only [maxLen, List.length_cons, List.length_nil];omega) (by simp only [List.length_cons, List.length_nil];omega))|exact Ze 51 rfl (Zw tlOk rfl rfl rfl rfl rfl rfl (Z6 (Z0 (Zj rfl) rfl) (by simp [plain1])) hgi (by simp only [maxLen, List.length_cons, List.length_nil];omega) (by simp only [List.length_cons, List.length_nil];omega)));(case xb|xc|xe=>rfl);try refine wkD ?_)|(refine wkB ?_ ?_<;>intro hg_<;>try exact wkX)|fail)
          all_goals first
            | (refine hfin _ ?_
               (refine Zi [(101, 38), (102, 51)] rfl ?_ ?_ <;> repeat' (first|refine wkS ?_ ?_|exact wkE|exact Zt hwk|exact Zz rfl rfl|exact var4 rfl (cown (by simp only [vsOf, List.map_append, List.length_append, List.length_map, List.map_cons, List.map_nil, List.length_cons, List.length_nil, Zu])) (cown (by simp only [gsOf, List.map_append, List.length_append, List.length_map, List.map_cons, List.map_nil, List.length_cons, List.length_nil, Zah])) rfl)))
            | (exfalso; omega)
      · clear hE e1 e2
        by_cases hll : l = []
        · subst hll
          rw [hF0]
          clear hF0 hF1
          repeat' (first|refine wk ?_|((first|refine' w_q rfl rfl ?xa rfl ?_|refine' v_q rfl rfl ?xa rfl ?_|refine' Zn rfl rfl (Zb rfl) rfl ?xa rfl ?_|refine' Zo rfl rfl (Zb rfl) rfl ?xa rfl ?_);case xa => first|exact Zx tbOk rfl rfl rfl rfl oM (by first|exact hx|exact hx0|exact hx1)|exact Zm KN rfl ⟨Zf (Za rfl), Zf (Za rfl), Zf (Za rfl), trivial⟩)|(refine wkB ?_ ?_<;>intro hg_<;>try exact wkX)|fail)
          all_goals first
            | exact Z4 [] rfl sbH (Zbl rfl rfl rfl)
            | (exfalso; omega)
        · rw [hF1 _ _ hll]
          clear hF0 hF1
          repeat' (first|refine wk ?_|((first|refine' w_q rfl rfl ?xa rfl ?_|refine' v_q rfl rfl ?xa rfl ?_|refine' Zn rfl rfl (Zb rfl) rfl ?xa rfl ?_|refine' Zo rfl rfl (Zb rfl) rfl ?xa rfl ?_);case xa => first|exact Zx tbOk rfl rfl rfl rfl oM (by first|exact hx|exact hx0|exact hx1)|exact Zm KN rfl ⟨Zf (Za rfl), Zf (Za rfl), Zf (Za rfl), trivial⟩)|(refine wkB ?_ ?_<;>intro hg_<;>try exact wkX)|fail)
          all_goals first
            | exact Z4 [] rfl sbH (Zbl rfl rfl rfl)
            | (exfalso; omega)
  · exfalso
    rw [List.drop_of_length_le oM] at hE
    cases hE
theorem Zdd (nil : Bool) (bs : List (List Int)) (r : Int) (hl : bs.length ≤ 2000) (L : List (Int × Bool)) (hn : rdAll rdV1 bs = some L) (hLn : L ≠ []) :
    FnS Try.prog 63 [.one (.ptr 1000000000 0 0 0), .one (.r false (row nil 1 (rowsI bs)))] [(1000000000, .var 28 [.r true (int r), Zc, Zc, Zc])] (.one (.r true (bool true))) [(1000000000, .var 28 [.r true (int r), .own 2000001 0 L.length 1, .own 2000002 0 L.length 1, Zc]), (2000001, .sl 3 1 true (ints (vsOf L))), (2000002, .sl 4 1 true (bools (gsOf L)))] := by
  have hlen := Zan bs
  refine Zad (l := [.tmp 4]) Try.func63 kRf rfl Try.ntmps63 rfl rfl ?_; simp only [dEnv, Nat.reduceAdd]
  repeat' (first|refine wk ?_|(refine wkB ?_ ?_<;>intro hg_<;>try exact wkX)|fail)
  obtain ⟨F, hF0, hF1⟩ : ∃ F : Nat × List (Int × Bool) → St, (∀ k, F (k, []) = mkS 55 [(11, .one (.r true (int (k : Int)))), (10, .one (.r true (int (bs.length : Int)))), (9, .one (.r false (row nil 1 (rowsI bs)))), (0, .one (.ptr 1000000000 0 0 0))] [(1000000000, .var 28 [.r true (int r), Zc, Zc, Zc])]) ∧
      (∀ k l, l ≠ [] → F (k, l) = mkS 55 [(11, .one (.r true (int (k : Int)))), (10, .one (.r true (int (bs.length : Int)))), (9, .one (.r false (row nil 1 (rowsI bs)))), (0, .one (.ptr 1000000000 0 0 0))] [(1000000000, .var 28 [.r true (int r), .own 101 0 (vsOf l).length 1, .own 102 0 (gsOf l).length 1, Zc]), (101, .sl 3 1 true (ints (vsOf l))), (102, .sl 4 1 true (bools (gsOf l)))]) := by
    refine ⟨fun y => if y.2.isEmpty then mkS 55 [(11, .one (.r true (int (y.1 : Int)))), (10, .one (.r true (int (bs.length : Int)))), (9, .one (.r false (row nil 1 (rowsI bs)))), (0, .one (.ptr 1000000000 0 0 0))] [(1000000000, .var 28 [.r true (int r), Zc, Zc, Zc])] else mkS 55 [(11, .one (.r true (int (y.1 : Int)))), (10, .one (.r true (int (bs.length : Int)))), (9, .one (.r false (row nil 1 (rowsI bs)))), (0, .one (.ptr 1000000000 0 0 0))] [(1000000000, .var 28 [.r true (int r), .own 101 0 (vsOf y.2).length 1, .own 102 0 (gsOf y.2).length 1, Zc]), (101, .sl 3 1 true (ints (vsOf y.2))), (102, .sl 4 1 true (bools (gsOf y.2)))], fun k => rfl, fun k l h => ?_⟩
    cases l with
    | nil => exact absurd rfl h
    | cons v l => rfl
  refine Zaa (fun y : Nat × List (Int × Bool) => y.1 ≤ bs.length ∧ y.2.length = y.1 ∧ ∃ xs, rdAll rdV1 (bs.drop y.1) = some xs ∧ y.2 ++ xs = L) F (fun y => bs.length - y.1) (0, []) ⟨Nat.zero_le _, rfl, L, hn, rfl⟩ (by
    rw [hF0]
    (refine Zi [] rfl ?_ ?_ <;> repeat' (first|refine wkS ?_ ?_|exact wkE|exact Zt (by rw [hlen])))) ?_
  rintro ⟨k, l⟩ ⟨hk, hkl, xs, hE, hxs⟩
  dsimp only at hk hkl hE hxs
  by_cases hlt : k < bs.length
  · have hx := Zbr hlt
    rw [Zcx hlt] at hE
    have KN := Zbh false bs[k] 2 2 oM
    have hform := rdV1_form bs[k]
    generalize bs[k] = b at *
    have hwk : IntKind.i64.wrap ((k : Int) + 1) = ((k + 1 : Nat) : Int) := by rw [IntWalk.i64_in _ oM]; omega
    have hvi := (Zu (vsOf l)).symm
    have hgi := (Zah (gsOf l)).symm
    have hvl := Zbs l
    have hgl := Zbt l
    rcases hform with ⟨nn, ns, e1, e2⟩ | ⟨a, g, e1, ha0, ha1, e2⟩
    · rw [e2] at hE
      cases hE
    · rw [e1] at KN
      rw [e2] at hE
      have hx0 : (ints [a, g])[(0 : Int).toNat]? = some (iP a) := rfl
      have hx1 : (ints [a, g])[(1 : Int).toNat]? = some (iP g) := rfl
      by_cases hg : g ≤ 1
      · rw [if_pos hg] at hE
        have hE2 : ∃ ys, rdAll rdV1 (bs.drop (k + 1)) = some ys ∧ (l ++ [(a - 1, g == 1)]) ++ ys = L := by
          cases h : rdAll rdV1 (bs.drop (k + 1)) with
          | none => rw [h] at hE; cases hE
          | some ys =>
            rw [h] at hE
            injection hE with hE
            exact ⟨ys, rfl, by rw [← hxs, ← hE]; simp⟩
        have hwa : IntKind.i64.wrap (a - 1) = a - 1 := IntWalk.i64_in _ oM
        have hfin : ∀ s' : St, Weak s' (F (k + 1, l ++ [(a - 1, g == 1)])) → ∃ y' : Nat × List (Int × Bool), (y'.1 ≤ bs.length ∧ y'.2.length = y'.1 ∧ ∃ xs, rdAll rdV1 (bs.drop y'.1) = some xs ∧ y'.2 ++ xs = L) ∧ Weak s' (F y') ∧ bs.length - y'.1 < bs.length - k := fun s' h => ⟨(k + 1, l ++ [(a - 1, g == 1)]), ⟨by dsimp only; omega, by simp; omega, hE2⟩, h, by dsimp only; omega⟩
        rw [hF1 _ _ (by simp), vsOf_app, gsOf_app, ← hwa] at hfin
        clear hE hE2 e1 e2 hwa
        by_cases hll : l = []
        · subst hll
          rw [hF0]
          clear hF0 hF1
          repeat' (first|refine wk ?_|((first|refine' w_q rfl rfl ?xa rfl ?_|refine' v_q rfl rfl ?xa rfl ?_|refine' Zn rfl rfl (Zb rfl) rfl ?xa rfl ?_|refine' Zo rfl rfl (Zb rfl) rfl ?xa rfl ?_);case xa => first|exact Zx tbOk rfl rfl rfl rfl oM (by first|exact hx|exact hx0|exact hx1)|exact Zm KN rfl ⟨Zf (Za rfl), Zf (Za rfl), Zf (Za rfl), trivial⟩)|((first|refine' w_e rfl ?xa ?xb ?xc ?xe ?_|refine' v_e rfl ?xa ?xb ?xc ?xe ?_);(case xa => first|exact Zl [.tmp 36] tlOk rfl rfl rfl rfl rfl rfl (Zy rfl) (by simp)|exact Zl [.tmp 49] tlOk rfl rfl rfl rfl rfl rfl (Zy rfl) (by simp)|exact Ze 38 rfl (Zas tlOk rfl rfl rfl rfl rfl (Z6 (Z0 (Zj rfl) rfl) (by simp [plain1])) (by simp) (by simp [maxLen]) (by simp))|exact Ze 51 rfl (Zas tlOk rfl rfl rfl rfl rfl (Z6 (Z0 (Zj rfl) rfl) (by simp [plain1])) (by simp) (by simp [maxLen]) (by simp)));(case xb|xc|xe=>rfl);try refine wkD ?_)|(refine wkB ?_ ?_<;>intro hg_<;>try exact wkX)|fail)
          all_goals first
            | (refine hfin _ ?_
               (refine Zi [(101, 38), (102, 51)] rfl ?_ ?_ <;> repeat' (first|refine wkS ?_ ?_|exact wkE|exact Zt hwk|exact Zz rfl rfl|exact var4 rfl (cown (by simp [vsOf])) (cown (by simp [gsOf])) rfl)))
            | (exfalso; omega)
        · rw [hF1 _ _ hll]
          clear hF0 hF1
          repeat' (first|refine wk ?_|((first|refine' w_q rfl rfl ?xa rfl ?_|refine' v_q rfl rfl ?xa rfl ?_|refine' Zn rfl rfl (Zb rfl) rfl ?xa rfl ?_|refine' Zo rfl rfl (Zb rfl) rfl ?xa rfl ?_);case xa => first|exact Zx tbOk rfl rfl rfl rfl oM (by first|exact hx|exact hx0|exact hx1)|exact Zm KN rfl ⟨Zf (Za rfl), Zf (Za rfl), Zf (Za rfl), trivial⟩)|((first|refine' w_e rfl ?xa ?xb ?xc ?xe ?_|refine' v_e rfl ?xa ?xb ?xc ?xe ?_);(case xa => first|exact Zl [.tmp 36] tlOk rfl rfl rfl rfl rfl rfl (Zy rfl) (by simp)|exact Zl [.tmp 49] tlOk rfl rfl rfl rfl rfl rfl (Zy rfl) (by simp)|exact Ze 38 rfl (Zw tlOk rfl rfl rfl rfl rfl rfl (Z6 (Z0 (Zj rfl) rfl) (by simp [plain1])) hvi (by simp only [maxLen, List.length_cons, List.length_nil];omega) (by simp only [List.length_cons, List.length_nil];omega))|exact Ze 51 rfl (Zw tlOk rfl rfl rfl rfl rfl rfl (Z6 (Z0 (Zj rfl) rfl) (by simp [plain1])) hgi (by simp only [maxLen, List.length_cons, List.length_nil];omega) (by simp only [List.length_cons, List.length_nil];omega)));(case xb|xc|xe=>rfl);try refine wkD ?_)|(refine wkB ?_ ?_<;>intro hg_<;>try exact wkX)|fail)
          all_goals first
            | (refine hfin _ ?_
               (refine Zi [(101, 38), (102, 51)] rfl ?_ ?_ <;> repeat' (first|refine wkS ?_ ?_|exact wkE|exact Zt hwk|exact Zz rfl rfl|exact var4 rfl (cown (by simp only [vsOf, List.map_append, List.length_append, List.length_map, List.map_cons, List.map_nil, List.length_cons, List.length_nil, Zu])) (cown (by simp only [gsOf, List.map_append, List.length_append, List.length_map, List.map_cons, List.map_nil, List.length_cons, List.length_nil, Zah])) rfl)))
            | (exfalso; omega)
      · rw [if_neg hg] at hE
        cases hE
  · rw [List.drop_of_length_le oM, rdAll] at hE
    injection hE with hE
    rw [← hE, List.append_nil] at hxs
    subst hxs
    rw [hF1 _ _ hLn]
    clear hF0 hF1
    have hvl := Zbs l
    have hgl := Zbt l
    rw [hvl, hgl]
    repeat' (first|refine wk ?_|(refine wkB ?_ ?_<;>intro hg_<;>try exact wkX)|fail)
    all_goals first
      | exact Z4 [(2000001, 101), (2000002, 102)] rfl sbH (Zbl rfl rfl rfl)
      | (exfalso; omega)
theorem Zdc (nil : Bool) (r : Int) :
  FnS Try.prog 63 [.one (.ptr 1000000000 0 0 0),.one (.r false (row nil 1 (rowsI [])))] [(1000000000,.var 28 [.r true (int r),Zc,Zc,Zc])] (.one (.r true (bool true))) [(1000000000,.var 28 [.r true (int r),Zc,Zc,Zc])]:=by
 have hlen : (rowsI []).length = 0:=rfl
 refine Zad (l:=[.tmp 4]) Try.func63 kRf rfl Try.ntmps63 rfl rfl ?_; simp only [dEnv,Nat.reduceAdd]
 repeat' (first|refine wk ?_|(refine wkB ?_ ?_<;>intro hg_<;>try exact wkX)|fail)
 refine Zaa (fun y : Nat=>y = 0) (fun y=>mkS 55 [(11,.one (.r true (int (y : Int)))),(10,.one (.r true (int 0))),(9,.one (.r false (row nil 1 (rowsI [])))),(0,.one (.ptr 1000000000 0 0 0))] [(1000000000,.var 28 [.r true (int r),Zc,Zc,Zc])]) (fun y=>y) 0 rfl (by (refine Zi [] rfl ?_ ?_ <;>exact wkW)) ?_
 rintro y rfl
 repeat' (first|refine wk ?_|(refine wkB ?_ ?_<;>intro hg_<;>try exact wkX)|fail)
 all_goals first
  | exact Z4 [] rfl sbH (Zbl rfl rfl rfl)
  | (exfalso; omega)
theorem f_readMsNoZ (nil : Bool) (bs : List (List Int)) (r : Int) (hl : bs.length ≤ 2000) (hn : rdAll rdM1 bs = none) :
    FnS Try.prog 64 [.one (.ptr 1000000000 0 0 0), .one (.r false (row nil 1 (rowsI bs)))] [(1000000000, .var 28 [.r true (int r), Zc, Zc, Zc])] (.one (.r true (bool false))) [] := by
  have hlen := Zan bs
  refine Zad (l := [.tmp 4]) Try.func64 kRf rfl Try.ntmps64 rfl rfl ?_; simp only [dEnv, Nat.reduceAdd]
  repeat' (first|refine wk ?_|(refine wkB ?_ ?_<;>intro hg_<;>try exact wkX)|fail)
  obtain ⟨F, hF0, hF1⟩ : ∃ F : Nat × List E3 → St, (∀ k, F (k, []) = mkS 42 [(11, .one (.r true (int (k : Int)))), (10, .one (.r true (int (bs.length : Int)))), (9, .one (.r false (row nil 1 (rowsI bs)))), (0, .one (.ptr 1000000000 0 0 0))] [(1000000000, .var 28 [.r true (int r), Zc, Zc, Zc])]) ∧
      (∀ k l, l ≠ [] → F (k, l) = mkS 42 [(11, .one (.r true (int (k : Int)))), (10, .one (.r true (int (bs.length : Int)))), (9, .one (.r false (row nil 1 (rowsI bs)))), (0, .one (.ptr 1000000000 0 0 0))] [(1000000000, .var 28 [.r true (int r), Zc, Zc, .own 103 0 (l).length 3]), (103, .sl 70 3 true (edges (l)))]) := by
    refine ⟨fun y => if y.2.isEmpty then mkS 42 [(11, .one (.r true (int (y.1 : Int)))), (10, .one (.r true (int (bs.length : Int)))), (9, .one (.r false (row nil 1 (rowsI bs)))), (0, .one (.ptr 1000000000 0 0 0))] [(1000000000, .var 28 [.r true (int r), Zc, Zc, Zc])] else mkS 42 [(11, .one (.r true (int (y.1 : Int)))), (10, .one (.r true (int (bs.length : Int)))), (9, .one (.r false (row nil 1 (rowsI bs)))), (0, .one (.ptr 1000000000 0 0 0))] [(1000000000, .var 28 [.r true (int r), Zc, Zc, .own 103 0 (y.2).length 3]), (103, .sl 70 3 true (edges (y.2)))], fun k => rfl, fun k l h => ?_⟩
    cases l with
    | nil => exact absurd rfl h
    | cons v l => rfl
  refine Zaa (fun y : Nat × List E3 => y.1 ≤ bs.length ∧ y.2.length = y.1 ∧ rdAll rdM1 (bs.drop y.1) = none) F (fun y => bs.length - y.1) (0, []) ⟨Nat.zero_le _, rfl, hn⟩ (by
    rw [hF0]
    (refine Zi [] rfl ?_ ?_ <;> repeat' (first|refine wkS ?_ ?_|exact wkE|exact Zt (by rw [hlen])))) ?_
  rintro ⟨k, l⟩ ⟨hk, hkl, hE⟩
  dsimp only at hk hkl hE
  by_cases hlt : k < bs.length
  · have hx := Zbr hlt
    rw [Zcx hlt] at hE
    have KN := Zbh false bs[k] 3 3 oM
    have hform := rdM1_form bs[k]
    generalize bs[k] = b at *
    have hwk : IntKind.i64.wrap ((k : Int) + 1) = ((k + 1 : Nat) : Int) := by rw [IntWalk.i64_in _ oM]; omega
    have hmi := (Zp l).symm
    rcases hform with ⟨nn, ns, e1, e2⟩ | ⟨a, c, d, e1, e2⟩
    · rw [e1] at KN
      clear hE e2 e1
      have hx0 := hx
      have hx1 := hx
      have hx2 := hx
      by_cases hll : l = []
      · subst hll
        rw [hF0]
        clear hF0 hF1
        repeat' (first|refine wk ?_|((first|refine' w_q rfl rfl ?xa rfl ?_|refine' v_q rfl rfl ?xa rfl ?_|refine' Zn rfl rfl (Zb rfl) rfl ?xa rfl ?_|refine' Zo rfl rfl (Zb rfl) rfl ?xa rfl ?_);case xa => first|exact Zx tbOk rfl rfl rfl rfl oM (by first|exact hx|exact hx0|exact hx1|exact hx2)|exact Zm KN rfl ⟨Zf (Za rfl), Zf (Za rfl), Zf (Za rfl), trivial⟩)|(refine wkB ?_ ?_<;>intro hg_<;>try exact wkX)|fail)
        all_goals first
          | exact Z4 [] rfl sbH (Zbl rfl rfl rfl)
          | (exfalso; omega)
      · rw [hF1 _ _ hll]
        clear hF0 hF1
        repeat' (first|refine wk ?_|((first|refine' w_q rfl rfl ?xa rfl ?_|refine' v_q rfl rfl ?xa rfl ?_|refine' Zn rfl rfl (Zb rfl) rfl ?xa rfl ?_|refine' Zo rfl rfl (Zb rfl) rfl ?xa rfl ?_);case xa => first|exact Zx tbOk rfl rfl rfl rfl oM (by first|exact hx|exact hx0|exact hx1|exact hx2)|exact Zm KN rfl ⟨Zf (Za rfl), Zf (Za rfl), Zf (Za rfl), trivial⟩)|(refine wkB ?_ ?_<;>intro hg_<;>try exact wkX)|fail)
        all_goals first
          | exact Z4 [] rfl sbH (Zbl rfl rfl rfl)
          | (exfalso; omega)
    · rw [e1] at KN
      rw [e2] at hE
      have hx0 : (ints [a, c, d])[(0 : Int).toNat]? = some (iP a) := rfl
      have hx1 : (ints [a, c, d])[(1 : Int).toNat]? = some (iP c) := rfl
      have hx2 : (ints [a, c, d])[(2 : Int).toNat]? = some (iP d) := rfl
      have hE2 : rdAll rdM1 (bs.drop (k + 1)) = none := by
        cases h : rdAll rdM1 (bs.drop (k + 1)) with
        | none => rfl
        | some xs => rw [h] at hE; cases hE
      have hfin : ∀ s' : St, Weak s' (F (k + 1, l ++ [(a, c, d)])) → ∃ y' : Nat × List E3, (y'.1 ≤ bs.length ∧ y'.2.length = y'.1 ∧ rdAll rdM1 (bs.drop y'.1) = none) ∧ Weak s' (F y') ∧ bs.length - y'.1 < bs.length - k := fun s' h => ⟨(k + 1, l ++ [(a, c, d)]), ⟨by dsimp only; omega, by simp; omega, hE2⟩, h, by dsimp only; omega⟩
      have happ : edges (l ++ [(a, c, d)]) = edges l ++ [edgeP (a, c, d)] := by unfold edges; simp
      rw [hF1 _ _ (by simp), happ] at hfin
      clear hE hE2 e1 e2 happ
      by_cases hll : l = []
      · subst hll
        rw [hF0]
        clear hF0 hF1
        repeat' (first|refine wk ?_|((first|refine' w_q rfl rfl ?xa rfl ?_|refine' v_q rfl rfl ?xa rfl ?_|refine' Zn rfl rfl (Zb rfl) rfl ?xa rfl ?_|refine' Zo rfl rfl (Zb rfl) rfl ?xa rfl ?_);case xa => first|exact Zx tbOk rfl rfl rfl rfl oM (by first|exact hx|exact hx0|exact hx1|exact hx2)|exact Zm KN rfl ⟨Zf (Za rfl), Zf (Za rfl), Zf (Za rfl), trivial⟩)|((first|refine' w_e rfl ?xa ?xb ?xc ?xe ?_|refine' v_e rfl ?xa ?xb ?xc ?xe ?_);(case xa => first|exact Zl [.tmp 36] tlOk rfl rfl rfl rfl rfl rfl (Zy rfl) (by simp)|exact Ze 38 rfl (Zas tlOk rfl rfl rfl rfl rfl (Z6 (Z0 (Zj rfl) rfl) (Za6 _ _ _)) (by simp) (by simp [maxLen]) (by simp)));(case xb|xc|xe=>rfl);try refine wkD ?_)|(refine wkB ?_ ?_<;>intro hg_<;>try exact wkX)|fail)
        all_goals first
          | (refine hfin _ ?_
             (refine Zi [(103, 38)] rfl ?_ ?_ <;> repeat' (first|refine wkS ?_ ?_|exact wkE|exact Zt hwk|exact Zz rfl rfl|exact var4 rfl rfl rfl (cown (by simp only [List.length_append, List.length_cons, List.length_nil, Zp])))))
          | (exfalso; omega)
      · rw [hF1 _ _ hll]
        clear hF0 hF1
        repeat' (first|refine wk ?_|((first|refine' w_q rfl rfl ?xa rfl ?_|refine' v_q rfl rfl ?xa rfl ?_|refine' Zn rfl rfl (Zb rfl) rfl ?xa rfl ?_|refine' Zo rfl rfl (Zb rfl) rfl ?xa rfl ?_);case xa => first|exact Zx tbOk rfl rfl rfl rfl oM (by first|exact hx|exact hx0|exact hx1|exact hx2)|exact Zm KN rfl ⟨Zf (Za rfl), Zf (Za rfl), Zf (Za rfl), trivial⟩)|((first|refine' w_e rfl ?xa ?xb ?xc ?xe ?_|refine' v_e rfl ?xa ?xb ?xc ?xe ?_);(case xa => first|exact Zl [.tmp 36] tlOk rfl rfl rfl rfl rfl rfl (Zy rfl) (by simp)|exact Ze 38 rfl (Zw tlOk rfl rfl rfl rfl rfl rfl (Z6 (Z0 (Zj rfl) rfl) (Za6 _ _ _)) hmi (by simp only [maxLen, List.length_cons, List.length_nil];omega) (by simp only [List.length_cons, List.length_nil];omega)));(case xb|xc|xe=>rfl);try refine wkD ?_)|(refine wkB ?_ ?_<;>intro hg_<;>try exact wkX)|fail)
        all_goals first
          | (refine hfin _ ?_
             (refine Zi [(103, 38)] rfl ?_ ?_ <;> repeat' (first|refine wkS ?_ ?_|exact wkE|exact Zt hwk|exact Zz rfl rfl|exact var4 rfl rfl rfl (cown (by simp only [List.length_append, List.length_cons, List.length_nil, Zp])))))
          | (exfalso; omega)
  · exfalso
    rw [List.drop_of_length_le oM] at hE
    cases hE
theorem f_readMsYesZ (nil : Bool) (bs : List (List Int)) (r : Int) (hl : bs.length ≤ 2000) (L : List E3) (hn : rdAll rdM1 bs = some L) (hLn : L ≠ []) :
    FnS Try.prog 64 [.one (.ptr 1000000000 0 0 0), .one (.r false (row nil 1 (rowsI bs)))] [(1000000000, .var 28 [.r true (int r), Zc, Zc, Zc])] (.one (.r true (bool true))) [(1000000000, .var 28 [.r true (int r), Zc, Zc, .own 2000001 0 (L).length 3]), (2000001, .sl 70 3 true (edges (L)))] := by
  have hlen := Zan bs
  refine Zad (l := [.tmp 4]) Try.func64 kRf rfl Try.ntmps64 rfl rfl ?_; simp only [dEnv, Nat.reduceAdd]
  repeat' (first|refine wk ?_|(refine wkB ?_ ?_<;>intro hg_<;>try exact wkX)|fail)
  obtain ⟨F, hF0, hF1⟩ : ∃ F : Nat × List E3 → St, (∀ k, F (k, []) = mkS 42 [(11, .one (.r true (int (k : Int)))), (10, .one (.r true (int (bs.length : Int)))), (9, .one (.r false (row nil 1 (rowsI bs)))), (0, .one (.ptr 1000000000 0 0 0))] [(1000000000, .var 28 [.r true (int r), Zc, Zc, Zc])]) ∧
      (∀ k l, l ≠ [] → F (k, l) = mkS 42 [(11, .one (.r true (int (k : Int)))), (10, .one (.r true (int (bs.length : Int)))), (9, .one (.r false (row nil 1 (rowsI bs)))), (0, .one (.ptr 1000000000 0 0 0))] [(1000000000, .var 28 [.r true (int r), Zc, Zc, .own 103 0 (l).length 3]), (103, .sl 70 3 true (edges (l)))]) := by
    refine ⟨fun y => if y.2.isEmpty then mkS 42 [(11, .one (.r true (int (y.1 : Int)))), (10, .one (.r true (int (bs.length : Int)))), (9, .one (.r false (row nil 1 (rowsI bs)))), (0, .one (.ptr 1000000000 0 0 0))] [(1000000000, .var 28 [.r true (int r), Zc, Zc, Zc])] else mkS 42 [(11, .one (.r true (int (y.1 : Int)))), (10, .one (.r true (int (bs.length : Int)))), (9, .one (.r false (row nil 1 (rowsI bs)))), (0, .one (.ptr 1000000000 0 0 0))] [(1000000000, .var 28 [.r true (int r), Zc, Zc, .own 103 0 (y.2).length 3]), (103, .sl 70 3 true (edges (y.2)))], fun k => rfl, fun k l h => ?_⟩
    cases l with
    | nil => exact absurd rfl h
    | cons v l => rfl
  refine Zaa (fun y : Nat × List E3 => y.1 ≤ bs.length ∧ y.2.length = y.1 ∧ ∃ xs, rdAll rdM1 (bs.drop y.1) = some xs ∧ y.2 ++ xs = L) F (fun y => bs.length - y.1) (0, []) ⟨Nat.zero_le _, rfl, L, hn, rfl⟩ (by
    rw [hF0]
    (refine Zi [] rfl ?_ ?_ <;> repeat' (first|refine wkS ?_ ?_|exact wkE|exact Zt (by rw [hlen])))) ?_
  rintro ⟨k, l⟩ ⟨hk, hkl, xs, hE, hxs⟩
  dsimp only at hk hkl hE hxs
  by_cases hlt : k < bs.length
  · have hx := Zbr hlt
    rw [Zcx hlt] at hE
    have KN := Zbh false bs[k] 3 3 oM
    have hform := rdM1_form bs[k]
    generalize bs[k] = b at *
    have hwk : IntKind.i64.wrap ((k : Int) + 1) = ((k + 1 : Nat) : Int) := by rw [IntWalk.i64_in _ oM]; omega
    have hmi := (Zp l).symm
    rcases hform with ⟨nn, ns, e1, e2⟩ | ⟨a, c, d, e1, e2⟩
    · rw [e2] at hE
      cases hE
    · rw [e1] at KN
      rw [e2] at hE
      have hx0 : (ints [a, c, d])[(0 : Int).toNat]? = some (iP a) := rfl
      have hx1 : (ints [a, c, d])[(1 : Int).toNat]? = some (iP c) := rfl
      have hx2 : (ints [a, c, d])[(2 : Int).toNat]? = some (iP d) := rfl
      have hE2 : ∃ ys, rdAll rdM1 (bs.drop (k + 1)) = some ys ∧ (l ++ [(a, c, d)]) ++ ys = L := by
        cases h : rdAll rdM1 (bs.drop (k + 1)) with
        | none => rw [h] at hE; cases hE
        | some ys =>
          rw [h] at hE
          injection hE with hE
          exact ⟨ys, rfl, by rw [← hxs, ← hE]; simp⟩
      have hfin : ∀ s' : St, Weak s' (F (k + 1, l ++ [(a, c, d)])) → ∃ y' : Nat × List E3, (y'.1 ≤ bs.length ∧ y'.2.length = y'.1 ∧ ∃ xs, rdAll rdM1 (bs.drop y'.1) = some xs ∧ y'.2 ++ xs = L) ∧ Weak s' (F y') ∧ bs.length - y'.1 < bs.length - k := fun s' h => ⟨(k + 1, l ++ [(a, c, d)]), ⟨by dsimp only; omega, by simp; omega, hE2⟩, h, by dsimp only; omega⟩
      have happ : edges (l ++ [(a, c, d)]) = edges l ++ [edgeP (a, c, d)] := by unfold edges; simp
      rw [hF1 _ _ (by simp), happ] at hfin
      clear hE hE2 e1 e2 happ
      by_cases hll : l = []
      · subst hll
        rw [hF0]
        clear hF0 hF1
        repeat' (first|refine wk ?_|((first|refine' w_q rfl rfl ?xa rfl ?_|refine' v_q rfl rfl ?xa rfl ?_|refine' Zn rfl rfl (Zb rfl) rfl ?xa rfl ?_|refine' Zo rfl rfl (Zb rfl) rfl ?xa rfl ?_);case xa => first|exact Zx tbOk rfl rfl rfl rfl oM (by first|exact hx|exact hx0|exact hx1|exact hx2)|exact Zm KN rfl ⟨Zf (Za rfl), Zf (Za rfl), Zf (Za rfl), trivial⟩)|((first|refine' w_e rfl ?xa ?xb ?xc ?xe ?_|refine' v_e rfl ?xa ?xb ?xc ?xe ?_);(case xa => first|exact Zl [.tmp 36] tlOk rfl rfl rfl rfl rfl rfl (Zy rfl) (by simp)|exact Ze 38 rfl (Zas tlOk rfl rfl rfl rfl rfl (Z6 (Z0 (Zj rfl) rfl) (Za6 _ _ _)) (by simp) (by simp [maxLen]) (by simp)));(case xb|xc|xe=>rfl);try refine wkD ?_)|(refine wkB ?_ ?_<;>intro hg_<;>try exact wkX)|fail)
        all_goals first
          | (refine hfin _ ?_
             (refine Zi [(103, 38)] rfl ?_ ?_ <;> repeat' (first|refine wkS ?_ ?_|exact wkE|exact Zt hwk|exact Zz rfl rfl|exact var4 rfl rfl rfl (cown (by simp only [List.length_append, List.length_cons, List.length_nil, Zp])))))
          | (exfalso; omega)
      · rw [hF1 _ _ hll]
        clear hF0 hF1
        repeat' (first|refine wk ?_|((first|refine' w_q rfl rfl ?xa rfl ?_|refine' v_q rfl rfl ?xa rfl ?_|refine' Zn rfl rfl (Zb rfl) rfl ?xa rfl ?_|refine' Zo rfl rfl (Zb rfl) rfl ?xa rfl ?_);case xa => first|exact Zx tbOk rfl rfl rfl rfl oM (by first|exact hx|exact hx0|exact hx1|exact hx2)|exact Zm KN rfl ⟨Zf (Za rfl), Zf (Za rfl), Zf (Za rfl), trivial⟩)|((first|refine' w_e rfl ?xa ?xb ?xc ?xe ?_|refine' v_e rfl ?xa ?xb ?xc ?xe ?_);(case xa => first|exact Zl [.tmp 36] tlOk rfl rfl rfl rfl rfl rfl (Zy rfl) (by simp)|exact Ze 38 rfl (Zw tlOk rfl rfl rfl rfl rfl rfl (Z6 (Z0 (Zj rfl) rfl) (Za6 _ _ _)) hmi (by simp only [maxLen, List.length_cons, List.length_nil];omega) (by simp only [List.length_cons, List.length_nil];omega)));(case xb|xc|xe=>rfl);try refine wkD ?_)|(refine wkB ?_ ?_<;>intro hg_<;>try exact wkX)|fail)
        all_goals first
          | (refine hfin _ ?_
             (refine Zi [(103, 38)] rfl ?_ ?_ <;> repeat' (first|refine wkS ?_ ?_|exact wkE|exact Zt hwk|exact Zz rfl rfl|exact var4 rfl rfl rfl (cown (by simp only [List.length_append, List.length_cons, List.length_nil, Zp])))))
          | (exfalso; omega)
  · rw [List.drop_of_length_le oM, rdAll] at hE
    injection hE with hE
    rw [← hE, List.append_nil] at hxs
    subst hxs
    rw [hF1 _ _ hLn]
    clear hF0 hF1
    repeat' (first|refine wk ?_|(refine wkB ?_ ?_<;>intro hg_<;>try exact wkX)|fail)
    all_goals first
      | exact Z4 [(2000001, 103)] rfl sbH (Zbl rfl rfl rfl)
      | (exfalso; omega)
theorem f_readMsNilZ (nil : Bool) (r : Int) :
  FnS Try.prog 64 [.one (.ptr 1000000000 0 0 0),.one (.r false (row nil 1 (rowsI [])))] [(1000000000,.var 28 [.r true (int r),Zc,Zc,Zc])] (.one (.r true (bool true))) [(1000000000,.var 28 [.r true (int r),Zc,Zc,Zc])]:=by
 have hlen : (rowsI []).length = 0:=rfl
 refine Zad (l:=[.tmp 4]) Try.func64 kRf rfl Try.ntmps64 rfl rfl ?_; simp only [dEnv,Nat.reduceAdd]
 repeat' (first|refine wk ?_|(refine wkB ?_ ?_<;>intro hg_<;>try exact wkX)|fail)
 refine Zaa (fun y : Nat=>y = 0) (fun y=>mkS 42 [(11,.one (.r true (int (y : Int)))),(10,.one (.r true (int 0))),(9,.one (.r false (row nil 1 (rowsI [])))),(0,.one (.ptr 1000000000 0 0 0))] [(1000000000,.var 28 [.r true (int r),Zc,Zc,Zc])]) (fun y=>y) 0 rfl (by (refine Zi [] rfl ?_ ?_ <;>exact wkW)) ?_
 rintro y rfl
 repeat' (first|refine wk ?_|(refine wkB ?_ ?_<;>intro hg_<;>try exact wkX)|fail)
 all_goals first
  | exact Z4 [] rfl sbH (Zbl rfl rfl rfl)
  | (exfalso; omega)
theorem f_readMsNoO (nil : Bool) (bs : List (List Int)) (r : Int) (vs : List Int) (gs : List Bool) (hl : bs.length ≤ 2000) (hn : rdAll rdM1 bs = none) :
    FnS Try.prog 64 [.one (.ptr 1000000000 0 0 0), .one (.r false (row nil 1 (rowsI bs)))] [(1000000000, .var 28 [.r true (int r), .own 1000000001 0 vs.length 1, .own 1000000002 0 gs.length 1, Zc]), (1000000001, .sl 3 1 true (ints vs)), (1000000002, .sl 4 1 true (bools gs))] (.one (.r true (bool false))) [] := by
  have hlen := Zan bs
  refine Zad (l := [.tmp 4]) Try.func64 kRf rfl Try.ntmps64 rfl rfl ?_; simp only [dEnv, Nat.reduceAdd]
  repeat' (first|refine wk ?_|(refine wkB ?_ ?_<;>intro hg_<;>try exact wkX)|fail)
  obtain ⟨F, hF0, hF1⟩ : ∃ F : Nat × List E3 → St, (∀ k, F (k, []) = mkS 42 [(11, .one (.r true (int (k : Int)))), (10, .one (.r true (int (bs.length : Int)))), (9, .one (.r false (row nil 1 (rowsI bs)))), (0, .one (.ptr 1000000000 0 0 0))] [(1000000000, .var 28 [.r true (int r), .own 1000000001 0 vs.length 1, .own 1000000002 0 gs.length 1, Zc]), (1000000001, .sl 3 1 true (ints vs)), (1000000002, .sl 4 1 true (bools gs))]) ∧
      (∀ k l, l ≠ [] → F (k, l) = mkS 42 [(11, .one (.r true (int (k : Int)))), (10, .one (.r true (int (bs.length : Int)))), (9, .one (.r false (row nil 1 (rowsI bs)))), (0, .one (.ptr 1000000000 0 0 0))] [(1000000000, .var 28 [.r true (int r), .own 1000000001 0 vs.length 1, .own 1000000002 0 gs.length 1, .own 103 0 (l).length 3]), (1000000001, .sl 3 1 true (ints vs)), (1000000002, .sl 4 1 true (bools gs)), (103, .sl 70 3 true (edges (l)))]) := by
    refine ⟨fun y => if y.2.isEmpty then mkS 42 [(11, .one (.r true (int (y.1 : Int)))), (10, .one (.r true (int (bs.length : Int)))), (9, .one (.r false (row nil 1 (rowsI bs)))), (0, .one (.ptr 1000000000 0 0 0))] [(1000000000, .var 28 [.r true (int r), .own 1000000001 0 vs.length 1, .own 1000000002 0 gs.length 1, Zc]), (1000000001, .sl 3 1 true (ints vs)), (1000000002, .sl 4 1 true (bools gs))] else mkS 42 [(11, .one (.r true (int (y.1 : Int)))), (10, .one (.r true (int (bs.length : Int)))), (9, .one (.r false (row nil 1 (rowsI bs)))), (0, .one (.ptr 1000000000 0 0 0))] [(1000000000, .var 28 [.r true (int r), .own 1000000001 0 vs.length 1, .own 1000000002 0 gs.length 1, .own 103 0 (y.2).length 3]), (1000000001, .sl 3 1 true (ints vs)), (1000000002, .sl 4 1 true (bools gs)), (103, .sl 70 3 true (edges (y.2)))], fun k => rfl, fun k l h => ?_⟩
    cases l with
    | nil => exact absurd rfl h
    | cons v l => rfl
  refine Zaa (fun y : Nat × List E3 => y.1 ≤ bs.length ∧ y.2.length = y.1 ∧ rdAll rdM1 (bs.drop y.1) = none) F (fun y => bs.length - y.1) (0, []) ⟨Nat.zero_le _, rfl, hn⟩ (by
    rw [hF0]
    (refine Zi [] rfl ?_ ?_ <;> repeat' (first|refine wkS ?_ ?_|exact wkE|exact Zt (by rw [hlen])))) ?_
  rintro ⟨k, l⟩ ⟨hk, hkl, hE⟩
  dsimp only at hk hkl hE
  by_cases hlt : k < bs.length
  · have hx := Zbr hlt
    rw [Zcx hlt] at hE
    have KN := Zbh false bs[k] 3 3 oM
    have hform := rdM1_form bs[k]
    generalize bs[k] = b at *
    have hwk : IntKind.i64.wrap ((k : Int) + 1) = ((k + 1 : Nat) : Int) := by rw [IntWalk.i64_in _ oM]; omega
    have hmi := (Zp l).symm
    rcases hform with ⟨nn, ns, e1, e2⟩ | ⟨a, c, d, e1, e2⟩
    · rw [e1] at KN
      clear hE e2 e1
      have hx0 := hx
      have hx1 := hx
      have hx2 := hx
      by_cases hll : l = []
      · subst hll
        rw [hF0]
        clear hF0 hF1
        repeat' (first|refine wk ?_|((first|refine' w_q rfl rfl ?xa rfl ?_|refine' v_q rfl rfl ?xa rfl ?_|refine' Zn rfl rfl (Zb rfl) rfl ?xa rfl ?_|refine' Zo rfl rfl (Zb rfl) rfl ?xa rfl ?_);case xa => first|exact Zx tbOk rfl rfl rfl rfl oM (by first|exact hx|exact hx0|exact hx1|exact hx2)|exact Zm KN rfl ⟨Zf (Za rfl), Zf (Za rfl), Zf (Za rfl), trivial⟩)|(refine wkB ?_ ?_<;>intro hg_<;>try exact wkX)|fail)
        all_goals first
          | exact Z4 [] rfl sbH (Zbl rfl rfl rfl)
          | (exfalso; omega)
      · rw [hF1 _ _ hll]
        clear hF0 hF1
        repeat' (first|refine wk ?_|((first|refine' w_q rfl rfl ?xa rfl ?_|refine' v_q rfl rfl ?xa rfl ?_|refine' Zn rfl rfl (Zb rfl) rfl ?xa rfl ?_|refine' Zo rfl rfl (Zb rfl) rfl ?xa rfl ?_);case xa => first|exact Zx tbOk rfl rfl rfl rfl oM (by first|exact hx|exact hx0|exact hx1|exact hx2)|exact Zm KN rfl ⟨Zf (Za rfl), Zf (Za rfl), Zf (Za rfl), trivial⟩)|(refine wkB ?_ ?_<;>intro hg_<;>try exact wkX)|fail)
        all_goals first
          | exact Z4 [] rfl sbH (Zbl rfl rfl rfl)
          | (exfalso; omega)
    · rw [e1] at KN
      rw [e2] at hE
      have hx0 : (ints [a, c, d])[(0 : Int).toNat]? = some (iP a) := rfl
      have hx1 : (ints [a, c, d])[(1 : Int).toNat]? = some (iP c) := rfl
      have hx2 : (ints [a, c, d])[(2 : Int).toNat]? = some (iP d) := rfl
      have hE2 : rdAll rdM1 (bs.drop (k + 1)) = none := by
        cases h : rdAll rdM1 (bs.drop (k + 1)) with
        | none => rfl
        | some xs => rw [h] at hE; cases hE
      have hfin : ∀ s' : St, Weak s' (F (k + 1, l ++ [(a, c, d)])) → ∃ y' : Nat × List E3, (y'.1 ≤ bs.length ∧ y'.2.length = y'.1 ∧ rdAll rdM1 (bs.drop y'.1) = none) ∧ Weak s' (F y') ∧ bs.length - y'.1 < bs.length - k := fun s' h => ⟨(k + 1, l ++ [(a, c, d)]), ⟨by dsimp only; omega, by simp; omega, hE2⟩, h, by dsimp only; omega⟩
      have happ : edges (l ++ [(a, c, d)]) = edges l ++ [edgeP (a, c, d)] := by unfold edges; simp
      rw [hF1 _ _ (by simp), happ] at hfin
      clear hE hE2 e1 e2 happ
      by_cases hll : l = []
      · subst hll
        rw [hF0]
        clear hF0 hF1
        repeat' (first|refine wk ?_|((first|refine' w_q rfl rfl ?xa rfl ?_|refine' v_q rfl rfl ?xa rfl ?_|refine' Zn rfl rfl (Zb rfl) rfl ?xa rfl ?_|refine' Zo rfl rfl (Zb rfl) rfl ?xa rfl ?_);case xa => first|exact Zx tbOk rfl rfl rfl rfl oM (by first|exact hx|exact hx0|exact hx1|exact hx2)|exact Zm KN rfl ⟨Zf (Za rfl), Zf (Za rfl), Zf (Za rfl), trivial⟩)|((first|refine' w_e rfl ?xa ?xb ?xc ?xe ?_|refine' v_e rfl ?xa ?xb ?xc ?xe ?_);(case xa => first|exact Zl [.tmp 36] tlOk rfl rfl rfl rfl rfl rfl (Zy rfl) (by simp)|exact Ze 38 rfl (Zas tlOk rfl rfl rfl rfl rfl (Z6 (Z0 (Zj rfl) rfl) (Za6 _ _ _)) (by simp) (by simp [maxLen]) (by simp)));(case xb|xc|xe=>rfl);try refine wkD ?_)|(refine wkB ?_ ?_<;>intro hg_<;>try exact wkX)|fail)
        all_goals first
          | (refine hfin _ ?_
             (refine Zi [(103, 38)] rfl ?_ ?_ <;> repeat' (first|refine wkS ?_ ?_|exact wkE|exact Zt hwk|exact Zz rfl rfl|exact var4 rfl rfl rfl (cown (by simp only [List.length_append, List.length_cons, List.length_nil, Zp])))))
          | (exfalso; omega)
      · rw [hF1 _ _ hll]
        clear hF0 hF1
        repeat' (first|refine wk ?_|((first|refine' w_q rfl rfl ?xa rfl ?_|refine' v_q rfl rfl ?xa rfl ?_|refine' Zn rfl rfl (Zb rfl) rfl ?xa rfl ?_|refine' Zo rfl rfl (Zb rfl) rfl ?xa rfl ?_);case xa => first|exact Zx tbOk rfl rfl rfl rfl oM (by first|exact hx|exact hx0|exact hx1|exact hx2)|exact Zm KN rfl ⟨Zf (Za rfl), Zf (Za rfl), Zf (Za rfl), trivial⟩)|((first|refine' w_e rfl ?xa ?xb ?xc ?xe ?_|refine' v_e rfl ?xa ?xb ?xc ?xe ?_);(case xa => first|exact Zl [.tmp 36] tlOk rfl rfl rfl rfl rfl rfl (Zy rfl) (by simp)|exact Ze 38 rfl (Zw tlOk rfl rfl rfl rfl rfl rfl (Z6 (Z0 (Zj rfl) rfl) (Za6 _ _ _)) hmi (by simp only [maxLen, List.length_cons, List.length_nil];omega) (by simp only [List.length_cons, List.length_nil];omega)));(case xb|xc|xe=>rfl);try refine wkD ?_)|(refine wkB ?_ ?_<;>intro hg_<;>try exact wkX)|fail)
        all_goals first
          | (refine hfin _ ?_
             (refine Zi [(103, 38)] rfl ?_ ?_ <;> repeat' (first|refine wkS ?_ ?_|exact wkE|exact Zt hwk|exact Zz rfl rfl|exact var4 rfl rfl rfl (cown (by simp only [List.length_append, List.length_cons, List.length_nil, Zp])))))
          | (exfalso; omega)
  · exfalso
    rw [List.drop_of_length_le oM] at hE
    cases hE
theorem f_readMsYesO (nil : Bool) (bs : List (List Int)) (r : Int) (vs : List Int) (gs : List Bool) (hl : bs.length ≤ 2000) (L : List E3) (hn : rdAll rdM1 bs = some L) (hLn : L ≠ []) :
    FnS Try.prog 64 [.one (.ptr 1000000000 0 0 0), .one (.r false (row nil 1 (rowsI bs)))] [(1000000000, .var 28 [.r true (int r), .own 1000000001 0 vs.length 1, .own 1000000002 0 gs.length 1, Zc]), (1000000001, .sl 3 1 true (ints vs)), (1000000002, .sl 4 1 true (bools gs))] (.one (.r true (bool true))) [(1000000000, .var 28 [.r true (int r), .own 1000000001 0 vs.length 1, .own 1000000002 0 gs.length 1, .own 2000001 0 (L).length 3]), (1000000001, .sl 3 1 true (ints vs)), (1000000002, .sl 4 1 true (bools gs)), (2000001, .sl 70 3 true (edges (L)))] := by
  have hlen := Zan bs
  refine Zad (l := [.tmp 4]) Try.func64 kRf rfl Try.ntmps64 rfl rfl ?_; simp only [dEnv, Nat.reduceAdd]
  repeat' (first|refine wk ?_|(refine wkB ?_ ?_<;>intro hg_<;>try exact wkX)|fail)
  obtain ⟨F, hF0, hF1⟩ : ∃ F : Nat × List E3 → St, (∀ k, F (k, []) = mkS 42 [(11, .one (.r true (int (k : Int)))), (10, .one (.r true (int (bs.length : Int)))), (9, .one (.r false (row nil 1 (rowsI bs)))), (0, .one (.ptr 1000000000 0 0 0))] [(1000000000, .var 28 [.r true (int r), .own 1000000001 0 vs.length 1, .own 1000000002 0 gs.length 1, Zc]), (1000000001, .sl 3 1 true (ints vs)), (1000000002, .sl 4 1 true (bools gs))]) ∧
      (∀ k l, l ≠ [] → F (k, l) = mkS 42 [(11, .one (.r true (int (k : Int)))), (10, .one (.r true (int (bs.length : Int)))), (9, .one (.r false (row nil 1 (rowsI bs)))), (0, .one (.ptr 1000000000 0 0 0))] [(1000000000, .var 28 [.r true (int r), .own 1000000001 0 vs.length 1, .own 1000000002 0 gs.length 1, .own 103 0 (l).length 3]), (1000000001, .sl 3 1 true (ints vs)), (1000000002, .sl 4 1 true (bools gs)), (103, .sl 70 3 true (edges (l)))]) := by
    refine ⟨fun y => if y.2.isEmpty then mkS 42 [(11, .one (.r true (int (y.1 : Int)))), (10, .one (.r true (int (bs.length : Int)))), (9, .one (.r false (row nil 1 (rowsI bs)))), (0, .one (.ptr 1000000000 0 0 0))] [(1000000000, .var 28 [.r true (int r), .own 1000000001 0 vs.length 1, .own 1000000002 0 gs.length 1, Zc]), (1000000001, .sl 3 1 true (ints vs)), (1000000002, .sl 4 1 true (bools gs))] else mkS 42 [(11, .one (.r true (int (y.1 : Int)))), (10, .one (.r true (int (bs.length : Int)))), (9, .one (.r false (row nil 1 (rowsI bs)))), (0, .one (.ptr 1000000000 0 0 0))] [(1000000000, .var 28 [.r true (int r), .own 1000000001 0 vs.length 1, .own 1000000002 0 gs.length 1, .own 103 0 (y.2).length 3]), (1000000001, .sl 3 1 true (ints vs)), (1000000002, .sl 4 1 true (bools gs)), (103, .sl 70 3 true (edges (y.2)))], fun k => rfl, fun k l h => ?_⟩
    cases l with
    | nil => exact absurd rfl h
    | cons v l => rfl
  refine Zaa (fun y : Nat × List E3 => y.1 ≤ bs.length ∧ y.2.length = y.1 ∧ ∃ xs, rdAll rdM1 (bs.drop y.1) = some xs ∧ y.2 ++ xs = L) F (fun y => bs.length - y.1) (0, []) ⟨Nat.zero_le _, rfl, L, hn, rfl⟩ (by
    rw [hF0]
    (refine Zi [] rfl ?_ ?_ <;> repeat' (first|refine wkS ?_ ?_|exact wkE|exact Zt (by rw [hlen])))) ?_
  rintro ⟨k, l⟩ ⟨hk, hkl, xs, hE, hxs⟩
  dsimp only at hk hkl hE hxs
  by_cases hlt : k < bs.length
  · have hx := Zbr hlt
    rw [Zcx hlt] at hE
    have KN := Zbh false bs[k] 3 3 oM
    have hform := rdM1_form bs[k]
    generalize bs[k] = b at *
    have hwk : IntKind.i64.wrap ((k : Int) + 1) = ((k + 1 : Nat) : Int) := by rw [IntWalk.i64_in _ oM]; omega
    have hmi := (Zp l).symm
    rcases hform with ⟨nn, ns, e1, e2⟩ | ⟨a, c, d, e1, e2⟩
    · rw [e2] at hE
      cases hE
    · rw [e1] at KN
      rw [e2] at hE
      have hx0 : (ints [a, c, d])[(0 : Int).toNat]? = some (iP a) := rfl
      have hx1 : (ints [a, c, d])[(1 : Int).toNat]? = some (iP c) := rfl
      have hx2 : (ints [a, c, d])[(2 : Int).toNat]? = some (iP d) := rfl
      have hE2 : ∃ ys, rdAll rdM1 (bs.drop (k + 1)) = some ys ∧ (l ++ [(a, c, d)]) ++ ys = L := by
        cases h : rdAll rdM1 (bs.drop (k + 1)) with
        | none => rw [h] at hE; cases hE
        | some ys =>
          rw [h] at hE
          injection hE with hE
          exact ⟨ys, rfl, by rw [← hxs, ← hE]; simp⟩
      have hfin : ∀ s' : St, Weak s' (F (k + 1, l ++ [(a, c, d)])) → ∃ y' : Nat × List E3, (y'.1 ≤ bs.length ∧ y'.2.length = y'.1 ∧ ∃ xs, rdAll rdM1 (bs.drop y'.1) = some xs ∧ y'.2 ++ xs = L) ∧ Weak s' (F y') ∧ bs.length - y'.1 < bs.length - k := fun s' h => ⟨(k + 1, l ++ [(a, c, d)]), ⟨by dsimp only; omega, by simp; omega, hE2⟩, h, by dsimp only; omega⟩
      have happ : edges (l ++ [(a, c, d)]) = edges l ++ [edgeP (a, c, d)] := by unfold edges; simp
      rw [hF1 _ _ (by simp), happ] at hfin
      clear hE hE2 e1 e2 happ
      by_cases hll : l = []
      · subst hll
        rw [hF0]
        clear hF0 hF1
        repeat' (first|refine wk ?_|((first|refine' w_q rfl rfl ?xa rfl ?_|refine' v_q rfl rfl ?xa rfl ?_|refine' Zn rfl rfl (Zb rfl) rfl ?xa rfl ?_|refine' Zo rfl rfl (Zb rfl) rfl ?xa rfl ?_);case xa => first|exact Zx tbOk rfl rfl rfl rfl oM (by first|exact hx|exact hx0|exact hx1|exact hx2)|exact Zm KN rfl ⟨Zf (Za rfl), Zf (Za rfl), Zf (Za rfl), trivial⟩)|((first|refine' w_e rfl ?xa ?xb ?xc ?xe ?_|refine' v_e rfl ?xa ?xb ?xc ?xe ?_);(case xa => first|exact Zl [.tmp 36] tlOk rfl rfl rfl rfl rfl rfl (Zy rfl) (by simp)|exact Ze 38 rfl (Zas tlOk rfl rfl rfl rfl rfl (Z6 (Z0 (Zj rfl) rfl) (Za6 _ _ _)) (by simp) (by simp [maxLen]) (by simp)));(case xb|xc|xe=>rfl);try refine wkD ?_)|(refine wkB ?_ ?_<;>intro hg_<;>try exact wkX)|fail)
        all_goals first
          | (refine hfin _ ?_
             (refine Zi [(103, 38)] rfl ?_ ?_ <;> repeat' (first|refine wkS ?_ ?_|exact wkE|exact Zt hwk|exact Zz rfl rfl|exact var4 rfl rfl rfl (cown (by simp only [List.length_append, List.length_cons, List.length_nil, Zp])))))
          | (exfalso; omega)
      · rw [hF1 _ _ hll]
        clear hF0 hF1
        repeat' (first|refine wk ?_|((first|refine' w_q rfl rfl ?xa rfl ?_|refine' v_q rfl rfl ?xa rfl ?_|refine' Zn rfl rfl (Zb rfl) rfl ?xa rfl ?_|refine' Zo rfl rfl (Zb rfl) rfl ?xa rfl ?_);case xa => first|exact Zx tbOk rfl rfl rfl rfl oM (by first|exact hx|exact hx0|exact hx1|exact hx2)|exact Zm KN rfl ⟨Zf (Za rfl), Zf (Za rfl), Zf (Za rfl), trivial⟩)|((first|refine' w_e rfl ?xa ?xb ?xc ?xe ?_|refine' v_e rfl ?xa ?xb ?xc ?xe ?_);(case xa => first|exact Zl [.tmp 36] tlOk rfl rfl rfl rfl rfl rfl (Zy rfl) (by simp)|exact Ze 38 rfl (Zw tlOk rfl rfl rfl rfl rfl rfl (Z6 (Z0 (Zj rfl) rfl) (Za6 _ _ _)) hmi (by simp only [maxLen, List.length_cons, List.length_nil];omega) (by simp only [List.length_cons, List.length_nil];omega)));(case xb|xc|xe=>rfl);try refine wkD ?_)|(refine wkB ?_ ?_<;>intro hg_<;>try exact wkX)|fail)
        all_goals first
          | (refine hfin _ ?_
             (refine Zi [(103, 38)] rfl ?_ ?_ <;> repeat' (first|refine wkS ?_ ?_|exact wkE|exact Zt hwk|exact Zz rfl rfl|exact var4 rfl rfl rfl (cown (by simp only [List.length_append, List.length_cons, List.length_nil, Zp])))))
          | (exfalso; omega)
  · rw [List.drop_of_length_le oM, rdAll] at hE
    injection hE with hE
    rw [← hE, List.append_nil] at hxs
    subst hxs
    rw [hF1 _ _ hLn]
    clear hF0 hF1
    repeat' (first|refine wk ?_|(refine wkB ?_ ?_<;>intro hg_<;>try exact wkX)|fail)
    all_goals first
      | exact Z4 [(2000001, 103)] rfl sbH (Zbl rfl rfl rfl)
      | (exfalso; omega)
theorem f_readMsNilO (nil : Bool) (r : Int) (vs : List Int) (gs : List Bool) :
  FnS Try.prog 64 [.one (.ptr 1000000000 0 0 0),.one (.r false (row nil 1 (rowsI [])))] [(1000000000,.var 28 [.r true (int r),.own 1000000001 0 vs.length 1,.own 1000000002 0 gs.length 1,Zc]),(1000000001,.sl 3 1 true (ints vs)),(1000000002,.sl 4 1 true (bools gs))] (.one (.r true (bool true))) [(1000000000,.var 28 [.r true (int r),.own 1000000001 0 vs.length 1,.own 1000000002 0 gs.length 1,Zc]),(1000000001,.sl 3 1 true (ints vs)),(1000000002,.sl 4 1 true (bools gs))]:=by
 have hlen : (rowsI []).length = 0:=rfl
 refine Zad (l:=[.tmp 4]) Try.func64 kRf rfl Try.ntmps64 rfl rfl ?_; simp only [dEnv,Nat.reduceAdd]
 repeat' (first|refine wk ?_|(refine wkB ?_ ?_<;>intro hg_<;>try exact wkX)|fail)
 refine Zaa (fun y : Nat=>y = 0) (fun y=>mkS 42 [(11,.one (.r true (int (y : Int)))),(10,.one (.r true (int 0))),(9,.one (.r false (row nil 1 (rowsI [])))),(0,.one (.ptr 1000000000 0 0 0))] [(1000000000,.var 28 [.r true (int r),.own 1000000001 0 vs.length 1,.own 1000000002 0 gs.length 1,Zc]),(1000000001,.sl 3 1 true (ints vs)),(1000000002,.sl 4 1 true (bools gs))]) (fun y=>y) 0 rfl (by (refine Zi [] rfl ?_ ?_ <;>exact wkW)) ?_
 rintro y rfl
 repeat' (first|refine wk ?_|(refine wkB ?_ ?_<;>intro hg_<;>try exact wkX)|fail)
 all_goals first
  | exact Z4 [] rfl sbH (Zbl rfl rfl rfl)
  | (exfalso; omega)
end Go.Proofs.Ytmkijbfiilpccaa.Abs
set_option linter.unusedSimpArgs false
set_option linter.unusedVariables false
namespace Go.Proofs.Ytmkijbfiilpccaa.Abs
open Go.RowKit
open R (val row ref)
theorem Zby {α : Type} {f : List Int → Option α} : ∀ {bs : List (List Int)} {xs : List α},rdAll f bs = some xs → xs.length = bs.length
 | [],xs,h=>by rw [rdAll] at h; injection h with h; rw [← h]; rfl
 | b :: bs,xs,h=>by
  rw [rdAll] at h
  cases hb : f b with
  | none=>rw [hb] at h; cases h
  | some x =>
   rw [hb] at h
   cases hr : rdAll f bs with
   | none=>rw [hr] at h; cases h
   | some ys =>
    rw [hr] at h
    injection h with h
    rw [← h,List.length_cons,List.length_cons,Zby hr]
theorem b01_enc {g : Int} (h0 : 0 ≤ g) (h1 : g ≤ 1) : enc g = [b01 (g == 1)]:=by
 rw [enc_last h0 oM]
 unfold b01
 by_cases h : g = 1
 ·subst h; rfl
 ·have : g = 0:=by omega
  subst this; rfl
theorem rdV1_rcV {b : List Int} {v : Int} {g : Bool} (h : rdV1 b = some (v,g)) : b = rcV v g:=by
 unfold rdV1 at h
 rcases hn : nbF 2 2 b with ⟨o,q⟩
 rw [hn] at h
 cases o with
 | none=>cases h
 | some ns =>
  match ns,nbF_len hn with
  | [a,c],_ =>
   cases q
   ·cases h
   ·dsimp only at h
    obtain ⟨e1,e2,e3⟩:=nbF_yes hn
    split at h
    ·rename_i hc
     injection h with h
     injection h with h1 h2
     rw [e1,← h1,← h2]
     unfold rcV
     rw [show a - 1 + 1 = a by omega]
     have:=(e3 c (by simp)).1
     simp [b01_enc this hc]
    ·cases h
theorem rcV_rdV1 {v : Int} {g : Bool} (h0 : -1 ≤ v) (h1 : v ≤ 999999) : rdV1 (rcV v g) = some (v,g):=by
 have hg : 0 ≤ b01 g ∧ b01 g ≤ 1:=by unfold b01; split<;>omega
 have e : rcV v g = 2 :: [v + 1,b01 g].flatMap enc:=by
  unfold rcV
  have:=b01_enc hg.1 hg.2
  have h2 : b01 (b01 g == 1) = b01 g:=by cases g<;>rfl
  simp [this,h2]
 have hN:=nbF_enc (tag:=2) (ns:=[v + 1,b01 g]) oM (by simp) (fun n hn=>by
  simp only [List.mem_cons,List.not_mem_nil,or_false] at hn
  rcases hn with rfl | rfl<;>omega)
 unfold rdV1
 rw [e]
 rw [show [v + 1,b01 g].length = 2 from rfl] at hN
 rw [hN]
 dsimp only
 rw [if_pos hg.2,show v + 1 - 1 = v by omega]
 cases g<;>rfl
theorem rdM1_rcM {b : List Int} {e : E3} (h : rdM1 b = some e) : b = rcM e:=by
 unfold rdM1 at h
 rcases hn : nbF 3 3 b with ⟨o,q⟩
 rw [hn] at h
 cases o with
 | none=>cases h
 | some ns =>
  match ns,nbF_len hn with
  | [a,c,d],_ =>
   cases q
   ·cases h
   ·dsimp only at h
    obtain ⟨e1,e2,e3⟩:=nbF_yes hn
    injection h with h
    rw [e1,← h]
    unfold rcM edgeB
    have h1:=e3 a (by simp)
    have h2:=e3 c (by simp)
    have h3:=e3 d (by simp)
    rw [if_pos (by simp [fits,h1,h2,h3])]
    simp
theorem rcM_rdM1 {m : E3} (h1 : 0 ≤ m.1 ∧ m.1 ≤ 1000000) (h2 : 0 ≤ m.2.1 ∧ m.2.1 ≤ 1000000) (h3 : 0 ≤ m.2.2 ∧ m.2.2 ≤ 1000000) : rdM1 (rcM m) = some m:=by
 obtain ⟨a,c,d⟩:=m
 dsimp only at h1 h2 h3
 have e : rcM (a,c,d) = 3 :: [a,c,d].flatMap enc:=by
  unfold rcM edgeB
  rw [if_pos (by simp [fits,h1,h2,h3])]
  simp
 have hN:=nbF_enc (tag:=3) (ns:=[a,c,d]) oM (by simp) (fun n hn=>by
  simp only [List.mem_cons,List.not_mem_nil,or_false] at hn
  rcases hn with rfl | rfl | rfl<;>omega)
 unfold rdM1
 rw [e]
 rw [show [a,c,d].length = 3 from rfl] at hN
 rw [hN]
theorem rdAllV_eq : ∀ {bs : List (List Int)} {L : List (Int × Bool)},rdAll rdV1 bs = some L → bs = List.zipWith rcV (vsOf L) (gsOf L)
 | [],L,h=>by rw [rdAll] at h; injection h with h; rw [← h]; rfl
 | b :: bs,L,h=>by
  rw [rdAll] at h
  cases hb : rdV1 b with
  | none=>rw [hb] at h; cases h
  | some x =>
   rw [hb] at h
   cases hr : rdAll rdV1 bs with
   | none=>rw [hr] at h; cases h
   | some ys =>
    rw [hr] at h
    injection h with h
    obtain ⟨v,g⟩:=x
    rw [← h,rdV1_rcV hb]
    unfold vsOf gsOf
    rw [List.map_cons,List.map_cons,List.zipWith_cons_cons]
    congr 1
    exact rdAllV_eq hr
theorem rdAllM_eq : ∀ {bs : List (List Int)} {L : List E3},rdAll rdM1 bs = some L → bs = L.map rcM
 | [],L,h=>by rw [rdAll] at h; injection h with h; rw [← h]; rfl
 | b :: bs,L,h=>by
  rw [rdAll] at h
  cases hb : rdM1 b with
  | none=>rw [hb] at h; cases h
  | some x =>
   rw [hb] at h
   cases hr : rdAll rdM1 bs with
   | none=>rw [hr] at h; cases h
   | some ys =>
    rw [hr] at h
    injection h with h
    rw [← h,rdM1_rcM hb,List.map_cons]
    congr 1
    exact rdAllM_eq hr
theorem rdAllV_yes : ∀ {vs : List Int} {gs : List Bool},gs.length = vs.length → (∀ v ∈ vs,-1 ≤ v ∧ v ≤ 999999) → rdAll rdV1 (List.zipWith rcV vs gs) = some (vs.zip gs)
 | [],gs,_,_=>by simp [rdAll]
 | v :: vs,[],h,_=>by simp at h
 | v :: vs,g :: gs,h,hv=>by
  have h0:=hv v (List.mem_cons_self ..)
  rw [List.zipWith_cons_cons,rdAll,rcV_rdV1 h0.1 h0.2,rdAllV_yes (by simpa using h) (fun z hz=>hv z (List.mem_cons_of_mem _ hz))]
  rfl
theorem rdAllM_yes : ∀ {ms : List E3},(∀ m ∈ ms,(0 ≤ m.1 ∧ m.1 ≤ 1000000) ∧ (0 ≤ m.2.1 ∧ m.2.1 ≤ 1000000) ∧ (0 ≤ m.2.2 ∧ m.2.2 ≤ 1000000)) → rdAll rdM1 (ms.map rcM) = some ms
 | [],_=>rfl
 | m :: ms,h=>by
  have h0:=h m (List.mem_cons_self ..)
  rw [List.map_cons,rdAll,rcM_rdM1 h0.1 h0.2.1 h0.2.2,rdAllM_yes (fun z hz=>h z (List.mem_cons_of_mem _ hz))]
theorem nbF_end : nbF 4 0 [4] = (some [],true):=nbF_enc (tag:=4) (ns:=[]) oM (by simp) (fun n hn=>absurd hn (by simp))
structure CkI (D : List (List Int)) (r : Int) (m w : Nat) (L : List (Int × Bool)) (M : List E3) : Prop where
 head : ∃ b,D[0]? = some b ∧ nbF 1 3 b = (some [r,(m : Int),(w : Int)],true)
 len : m + w + 2 ≤ D.length
 vals : rdAll rdV1 ((D.drop 1).take m) = some L
 msgs : rdAll rdM1 ((D.drop (1 + m)).take w) = some M
 fin : ∃ b,D[1 + m + w]? = some b ∧ nbF 4 0 b = (some [],true)
theorem Ck.ckI {D : List (List Int)} {s : Sta} (h : Ck D s) : CkI D s.r s.vs.length s.ms.length (s.vs.zip s.gs) s.ms:=by
 have hF:=Sta.okF h.1
 have hgl:=hF.gl
 have h1:=hF.many
 have h2:=hF.ml
 have h3:=hF.r0
 have h4:=hF.r1
 have hz : (List.zipWith rcV s.vs s.gs).length = s.vs.length:=by simp; omega
 obtain ⟨t,ht⟩:=h.2
 refine ⟨⟨rcH s,h.get rfl,?_⟩,by have:=h.len; omega,?_,?_,⟨[4],h.get ?_,nbF_end⟩⟩
 ·have e : rcH s = 1 :: [s.r,(s.vs.length : Int),(s.ms.length : Int)].flatMap enc:=by unfold rcH; simp
  rw [e]
  exact nbF_enc (tag:=1) (ns:=[s.r,(s.vs.length : Int),(s.ms.length : Int)]) oM (by simp) (fun n hn=>by
   simp only [List.mem_cons,List.not_mem_nil,or_false] at hn
   rcases hn with rfl | rfl | rfl<;>omega)
 ·rw [← ht]
  unfold ckB
  rw [List.cons_append,List.drop_one,List.tail_cons,List.append_assoc,List.take_left' hz]
  exact rdAllV_yes hgl hF.vin
 ·rw [← ht]
  unfold ckB
  rw [List.cons_append,Nat.add_comm 1,List.drop_succ_cons,List.append_assoc,List.drop_left' hz,List.append_assoc,List.take_left' (by simp)]
  exact rdAllM_yes fun m hm=>by have:=hF.min m hm; omega
 ·unfold ckB
  rw [show 1 + s.vs.length + s.ms.length = (s.vs.length + s.ms.length) + 1 by omega,List.getElem?_cons_succ,List.getElem?_append_right oM,hz,List.getElem?_append_right (by simp)]
  simp
theorem CkI.ck {D : List (List Int)} {r : Int} {m w : Nat} {L : List (Int × Bool)} {M : List E3} (h : CkI D r m w L M) (hok : Sta.ok ⟨r,vsOf L,gsOf L,M⟩ = true) : Ck D ⟨r,vsOf L,gsOf L,M⟩:=by
 obtain ⟨⟨b,hb1,hb2⟩,hl,hv,hm,⟨c,hc1,hc2⟩⟩:=h
 have lv:=Zby hv
 have lm:=Zby hm
 have ev:=rdAllV_eq hv
 have em:=rdAllM_eq hm
 have eb:=(nbF_yes hb2).1
 have ec:=(nbF_yes hc2).1
 rw [List.length_take,List.length_drop] at lv lm
 have hLm : L.length = m:=by omega
 have hMw : M.length = w:=by omega
 refine ⟨hok,?_⟩
 have eH : rcH ⟨r,vsOf L,gsOf L,M⟩ = b:=by
  rw [eb]
  unfold rcH
  dsimp only
  rw [Zbs,hLm,hMw]
  simp
 unfold ckB
 rw [eH]
 dsimp only
 rw [← ev,← em]
 have ec' : c = [4]:=by rw [ec]; rfl
 subst ec'
 refine ⟨D.drop (1 + m + w + 1),?_⟩
 have hD0 : D = b :: D.drop 1:=by
  cases D with
  | nil=>cases hb1
  | cons x D=>simp only [List.getElem?_cons_zero,Option.some.injEq] at hb1; rw [hb1]; rfl
 have hDv : D.drop 1 = (D.drop 1).take m ++ D.drop (1 + m):=by
  conv=>lhs; rw [← List.take_append_drop m (D.drop 1),List.drop_drop]
 have hDm : D.drop (1 + m) = (D.drop (1 + m)).take w ++ D.drop (1 + m + w):=by
  conv=>lhs; rw [← List.take_append_drop w (D.drop (1 + m)),List.drop_drop]
 have hDe : D.drop (1 + m + w) = [4] :: D.drop (1 + m + w + 1):=by
  have hlt : 1 + m + w < D.length:=by omega
  rw [List.drop_eq_getElem_cons hlt]
  rw [List.getElem?_eq_getElem hlt] at hc1
  injection hc1 with hc1
  rw [hc1]
 conv=>rhs; rw [hD0,hDv,hDm,hDe]
 simp
end Go.Proofs.Ytmkijbfiilpccaa.Abs
set_option linter.unusedSimpArgs false
set_option linter.unusedVariables false
namespace Go.Proofs.Ytmkijbfiilpccaa.Abs
open Go.RowKit
open R (val row ref)
def rowC (e : Bool) (k n sz : Nat) : Cell:=if e then Zc else .own k 0 n sz
def stT : Option Sta → D
 | none=>.tups [(true,[.r true (int 0),Zc,Zc,Zc]),(false,[.r true (bool false)])]
 | some s=>.tups [(true,[.r true (int s.r),rowC s.vs.isEmpty 2000001 s.vs.length 1,rowC s.vs.isEmpty 2000002 s.gs.length 1,rowC s.ms.isEmpty 2000003 s.ms.length 3]),(false,[.r true (bool true)])]
def stH : Option Sta → List (Nat × Ob)
 | none=>[]
 | some s=>(if s.vs.isEmpty then [] else [(2000001,.sl 3 1 true (ints s.vs)),(2000002,.sl 4 1 true (bools s.gs))]) ++ (if s.ms.isEmpty then [] else [(2000003,.sl 70 3 true (edges s.ms))])
theorem nbForm1 (tag : Int) (k : Nat) (b : List Int) : (∃ nn ns,nbRes (nbF tag k b) = .tup [.one (row nn 1 (ints ns)),.one (bool false)] ∧ ∀ ms,nbF tag k b ≠ (some ms,true)) ∨ (∃ ns,nbF tag k b = (some ns,true) ∧ nbRes (nbF tag k b) = .tup [.one (row false 1 (ints ns)),.one (bool true)]):=by
 rcases h : nbF tag k b with ⟨o,q⟩
 cases o with
 | none=>exact .inl ⟨true,[],rfl,fun ms e=>by cases e⟩
 | some ns =>
  cases q
  ·exact .inl ⟨false,ns,rfl,fun ms e=>by cases e⟩
  ·exact .inr ⟨ns,rfl,rfl⟩
theorem Zbo (D : List (List Int)) (a n : Nat) : ((rowsI D).drop a).take n = rowsI ((D.drop a).take n):=by unfold rowsI; rw [List.map_take,List.map_drop]
theorem Zcz (r : Int) (nv ng nm : Bool) (vs : List Int) (gs : List Bool) (ms : List E3) (hv : vs.length ≤ maxLen) (hg : gs.length ≤ maxLen) (hl : ms.length ≤ maxLen) : Fn Try.prog 42 [stateP r nv vs ng gs nm ms] (.v (.one (bool (stOk vs.length r vs gs.length ms)))):=by
 have hlenV:=Zu vs
 have K:=f_implStateValid ((ints vs).length : Int) r nv ng nm vs gs ms hv hg hl
 have e : stOk ((ints vs).length : Int) r vs gs.length ms = stOk (vs.length : Int) r vs gs.length ms:=by rw [hlenV]
 rw [e] at K
 clear e
 generalize stOk vs.length r vs gs.length ms = b at *
 refine Z8 (l:=[.tmp 2]) Try.func42 kRf rfl Try.ntmps42 rfl rfl ?_; simp only [argEnv,P0.d,Nat.reduceAdd,stateP,List.map_cons,List.map_nil]
 repeat' (first|refine wk ?_|((first|refine' w_q rfl rfl ?xa rfl ?_|refine' v_q rfl rfl ?xa rfl ?_|refine' Zn rfl rfl (Zb rfl) rfl ?xa rfl ?_|refine' Zo rfl rfl (Zb rfl) rfl ?xa rfl ?_);case xa=>exact Zm K rfl ⟨Zq (Za rfl) ⟨Zd,Zd,Zd,Zd,trivial⟩,Zf (Za rfl),trivial⟩)|(refine wkB ?_ ?_<;>intro hg_<;>try exact wkX)|fail)
 all_goals exact Zab rfl (Zr rfl)
theorem f_ckAtHead (nil : Bool) (D : List (List Int)) (b : List Int) (hx : (rowsI D)[(0 : Int).toNat]? = some (rowP b)) (h0 : 0 < D.length) (h : ∀ ns,nbF 1 3 b ≠ (some ns,true)) :
  FnS Try.prog 29 [.one (.r false (row nil 1 (rowsI D)))] [] (stT none) (stH none):=by
 have hlen:=Zan D
 have KN:=Zbh false b 1 3 oM
 rcases nbForm1 1 3 b with ⟨nn,ns,e1,_⟩ | ⟨ns,e1,_⟩
 ·rw [e1] at KN
  unfold stT stH
  clear e1 h
  refine Zad (l:=[.cell 2 28,.tmp 3]) Try.func29 kRf rfl Try.ntmps29 rfl rfl ?_; simp only [dEnv,Nat.reduceAdd]
  repeat' (first|refine wk ?_|((first|refine' w_q rfl rfl ?xa rfl ?_|refine' v_q rfl rfl ?xa rfl ?_|refine' Zn rfl rfl (Zb rfl) rfl ?xa rfl ?_|refine' Zo rfl rfl (Zb rfl) rfl ?xa rfl ?_);case xa=>first|exact Zx tbOk rfl rfl rfl rfl oM hx|exact Zm KN rfl ⟨Zf (Za rfl),Zf (Za rfl),Zf (Za rfl),trivial⟩)|(refine wkB ?_ ?_<;>intro hg_<;>try exact wkX)|fail)
  all_goals first
   | exact Z4 [] rfl sbH (Zau (x:=(true,_)) (y:=(false,[_])) (Zaq rfl rfl tyF0 rfl rfl rfl) rfl (Zat rfl) rfl (Zac (tups2 rfl rfl)))
 ·exact absurd e1 (h ns)
theorem f_ckAtSize (nil : Bool) (D : List (List Int)) (b : List Int) (r : Int) (m w : Nat) (hl : D.length ≤ 2000) (hm : m ≤ 1000000) (hw : w ≤ 1000000) (hx : (rowsI D)[(0 : Int).toNat]? = some (rowP b)) (h0 : 0 < D.length) (h : nbF 1 3 b = (some [r,(m : Int),(w : Int)],true)) (hs : D.length < m + w + 2) :
  FnS Try.prog 29 [.one (.r false (row nil 1 (rowsI D)))] [] (stT none) (stH none):=by
 have hlen:=Zan D
 have KN:=Zbh false b 1 3 oM
 rw [h] at KN
 unfold nbRes at KN
 dsimp only at KN
 have hx1 : (ints [r,(m : Int),(w : Int)])[(1 : Int).toNat]? = some (iP (m : Int)):=rfl
 have hx2 : (ints [r,(m : Int),(w : Int)])[(2 : Int).toNat]? = some (iP (w : Int)):=rfl
 have hli : (ints [r,(m : Int),(w : Int)]).length = 3:=rfl
 have hw1 : IntKind.i64.wrap (IntKind.i64.wrap ((m : Int) + (w : Int)) + 2) = (m : Int) + w + 2:=by rw [IntWalk.i64_in ((m : Int) + (w : Int)) oM,IntWalk.i64_in _ oM]
 unfold stT stH
 refine Zad (l:=[.cell 2 28,.tmp 3]) Try.func29 kRf rfl Try.ntmps29 rfl rfl ?_; simp only [dEnv,Nat.reduceAdd]
 repeat' (first|refine wk ?_|((first|refine' w_q rfl rfl ?xa rfl ?_|refine' v_q rfl rfl ?xa rfl ?_|refine' Zn rfl rfl (Zb rfl) rfl ?xa rfl ?_|refine' Zo rfl rfl (Zb rfl) rfl ?xa rfl ?_);case xa=>first|exact Zx tbOk rfl rfl rfl rfl oM (by first|exact hx|exact hx1|exact hx2)|exact Zm KN rfl ⟨Zf (Za rfl),Zf (Za rfl),Zf (Za rfl),trivial⟩)|(refine wkB ?_ ?_<;>intro hg_<;>try exact wkX)|fail)
 all_goals first
  | exact Z4 [] rfl sbH (Zau (x:=(true,_)) (y:=(false,[_])) (Zaq rfl rfl tyF0 rfl rfl rfl) rfl (Zat rfl) rfl (Zac (tups2 rfl rfl)))
  | (exfalso; omega)
theorem f_ckAtVals (nil : Bool) (D : List (List Int)) (b c : List Int) (r : Int) (m w : Nat) (hl : D.length ≤ 2000) (hx : (rowsI D)[(0 : Int).toNat]? = some (rowP b)) (h0 : 0 < D.length) (h : nbF 1 3 b = (some [r,(m : Int),(w : Int)],true)) (hs : m + w + 2 ≤ D.length) (hc : (rowsI D)[((1 + m + w : Nat) : Int).toNat]? = some (rowP c)) (hv : rdAll rdV1 ((D.drop 1).take m) = none) :
  FnS Try.prog 29 [.one (.r false (row nil 1 (rowsI D)))] [] (stT none) (stH none):=by
 have hlen:=Zan D
 have KN:=Zbh false b 1 3 oM
 rw [h] at KN
 unfold nbRes at KN
 dsimp only at KN
 have hx0 : (ints [r,(m : Int),(w : Int)])[(0 : Int).toNat]? = some (iP r):=rfl
 have hx1 : (ints [r,(m : Int),(w : Int)])[(1 : Int).toNat]? = some (iP (m : Int)):=rfl
 have hx2 : (ints [r,(m : Int),(w : Int)])[(2 : Int).toNat]? = some (iP (w : Int)):=rfl
 have hli : (ints [r,(m : Int),(w : Int)]).length = 3:=rfl
 have hw1 : IntKind.i64.wrap (IntKind.i64.wrap ((m : Int) + (w : Int)) + 2) = (m : Int) + w + 2:=by rw [IntWalk.i64_in ((m : Int) + (w : Int)) oM,IntWalk.i64_in _ oM]
 have hq1 : IntKind.i64.wrap (1 + (m : Int)) = ((1 + m : Nat) : Int):=by rw [IntWalk.i64_in _ oM]; omega
 have hq2 : IntKind.i64.wrap (IntKind.i64.wrap (1 + (m : Int)) + (w : Int)) = ((1 + m + w : Nat) : Int):=by rw [hq1,IntWalk.i64_in _ oM]; omega
 have hd1 : Abs.D.one (Cell.r true (int (IntKind.i64.wrap (1 + (m : Int))))) = Abs.D.one (.r true (int ((1 + m : Nat) : Int))):=by rw [hq1]
 have hd2 : Abs.D.one (Cell.r true (int (IntKind.i64.wrap (IntKind.i64.wrap (1 + (m : Int)) + (w : Int))))) = Abs.D.one (.r true (int ((1 + m + w : Nat) : Int))):=by rw [hq2]
 have hpV : ((rowsI D).drop 1).take (1 + m - 1) = rowsI ((D.drop 1).take m):=by rw [Zbo,show 1 + m - 1 = m by omega]
 have hpM : ((rowsI D).drop (1 + m)).take (1 + m + w - (1 + m)) = rowsI ((D.drop (1 + m)).take w):=by rw [Zbo,show 1 + m + w - (1 + m) = w by omega]
 have hbl : ((D.drop 1).take m).length ≤ 2000:=by simp; omega
 have hbm : ((D.drop (1 + m)).take w).length ≤ 2000:=by simp; omega
 rw [← hq2] at hc
 have hc0 : 0 ≤ IntKind.i64.wrap (IntKind.i64.wrap (1 + (m : Int)) + (w : Int)):=by rw [hq2]; omega
 have KV:=f_readValuesNo nil _ r hbl hv
 rw [← hpV] at KV
 unfold stT stH
 refine Zad (l:=[.cell 2 28,.tmp 3]) Try.func29 kRf rfl Try.ntmps29 rfl rfl ?_; simp only [dEnv,Nat.reduceAdd]
 repeat' (first|refine wk ?_|((first|refine' w_q rfl rfl ?xa rfl ?_|refine' v_q rfl rfl ?xa rfl ?_|refine' Zn rfl rfl (Zb rfl) rfl ?xa rfl ?_|refine' Zo rfl rfl (Zb rfl) rfl ?xa rfl ?_);case xa=>first|exact Zx tbOk rfl rfl rfl rfl (by first|omega|exact hc0) (by first|exact hx|exact hx0|exact hx1|exact hx2|exact hc)|exact Zam (a:=1) (b:=1 + m) tbOk rfl rfl rfl ⟨_,Za rfl⟩ ⟨_,(Za rfl).trans hd1⟩ oM oM|exact Zm KN rfl ⟨Zf (Za rfl),Zf (Za rfl),Zf (Za rfl),trivial⟩)|((first|refine' w_e rfl ?xa ?xb ?xc ?xe ?_|refine' v_e rfl ?xa ?xb ?xc ?xe ?_);(case xa=>exact Ze 43 rfl (Zg [(1000000000,8)] KV rfl ⟨Zh (Za rfl),asE,trivial⟩ sbH rfl));(case xb|xc|xe=>rfl);try refine wkD ?_)|((first|refine' w_ey rfl rfl (Zb rfl) ?xa ?xb ?xc ?xe ?_|refine' v_ey rfl rfl (Zb rfl) ?xa ?xb ?xc ?xe ?_);(case xa=>exact Ze 43 rfl (Zg [(1000000000,8)] KV rfl ⟨Zh (Za rfl),asE,trivial⟩ sbH rfl));(case xb|xc|xe=>rfl);try refine wkD ?_)|(refine wkB ?_ ?_<;>intro hg_<;>try exact wkX)|fail)
 all_goals first
  | exact Z4 [] rfl sbH (Zau (x:=(true,_)) (y:=(false,[_])) (Zaq rfl rfl tyF0 rfl rfl rfl) rfl (Zat rfl) rfl (Zac (tups2 rfl rfl)))
  | (exfalso; omega)
theorem f_ckAtMsgsZ (nil : Bool) (D : List (List Int)) (b c : List Int) (r : Int) (m w : Nat) (hl : D.length ≤ 2000) (hx : (rowsI D)[(0 : Int).toNat]? = some (rowP b)) (h0 : 0 < D.length) (h : nbF 1 3 b = (some [r,(m : Int),(w : Int)],true)) (hs : m + w + 2 ≤ D.length) (hc : (rowsI D)[((1 + m + w : Nat) : Int).toNat]? = some (rowP c)) (hv : rdAll rdV1 ((D.drop 1).take m) = some []) (hm : rdAll rdM1 ((D.drop (1 + m)).take w) = none) :
  FnS Try.prog 29 [.one (.r false (row nil 1 (rowsI D)))] [] (stT none) (stH none):=by
 have hlen:=Zan D
 have KN:=Zbh false b 1 3 oM
 rw [h] at KN
 unfold nbRes at KN
 dsimp only at KN
 have hx0 : (ints [r,(m : Int),(w : Int)])[(0 : Int).toNat]? = some (iP r):=rfl
 have hx1 : (ints [r,(m : Int),(w : Int)])[(1 : Int).toNat]? = some (iP (m : Int)):=rfl
 have hx2 : (ints [r,(m : Int),(w : Int)])[(2 : Int).toNat]? = some (iP (w : Int)):=rfl
 have hli : (ints [r,(m : Int),(w : Int)]).length = 3:=rfl
 have hw1 : IntKind.i64.wrap (IntKind.i64.wrap ((m : Int) + (w : Int)) + 2) = (m : Int) + w + 2:=by rw [IntWalk.i64_in ((m : Int) + (w : Int)) oM,IntWalk.i64_in _ oM]
 have hq1 : IntKind.i64.wrap (1 + (m : Int)) = ((1 + m : Nat) : Int):=by rw [IntWalk.i64_in _ oM]; omega
 have hq2 : IntKind.i64.wrap (IntKind.i64.wrap (1 + (m : Int)) + (w : Int)) = ((1 + m + w : Nat) : Int):=by rw [hq1,IntWalk.i64_in _ oM]; omega
 have hd1 : Abs.D.one (Cell.r true (int (IntKind.i64.wrap (1 + (m : Int))))) = Abs.D.one (.r true (int ((1 + m : Nat) : Int))):=by rw [hq1]
 have hd2 : Abs.D.one (Cell.r true (int (IntKind.i64.wrap (IntKind.i64.wrap (1 + (m : Int)) + (w : Int))))) = Abs.D.one (.r true (int ((1 + m + w : Nat) : Int))):=by rw [hq2]
 have hpV : ((rowsI D).drop 1).take (1 + m - 1) = rowsI ((D.drop 1).take m):=by rw [Zbo,show 1 + m - 1 = m by omega]
 have hpM : ((rowsI D).drop (1 + m)).take (1 + m + w - (1 + m)) = rowsI ((D.drop (1 + m)).take w):=by rw [Zbo,show 1 + m + w - (1 + m) = w by omega]
 have hbl : ((D.drop 1).take m).length ≤ 2000:=by simp; omega
 have hbm : ((D.drop (1 + m)).take w).length ≤ 2000:=by simp; omega
 rw [← hq2] at hc
 have hc0 : 0 ≤ IntKind.i64.wrap (IntKind.i64.wrap (1 + (m : Int)) + (w : Int)):=by rw [hq2]; omega
 have hnil : (D.drop 1).take m = []:=List.eq_nil_of_length_eq_zero (by rw [← Zby hv]; rfl)
 have KV:=Zdc nil r
 rw [← hnil,← hpV] at KV
 have KM:=f_readMsNoZ nil _ r hbm hm
 rw [← hpM] at KM
 unfold stT stH
 refine Zad (l:=[.cell 2 28,.tmp 3]) Try.func29 kRf rfl Try.ntmps29 rfl rfl ?_; simp only [dEnv,Nat.reduceAdd]
 repeat' (first|refine wk ?_|((first|refine' w_q rfl rfl ?xa rfl ?_|refine' v_q rfl rfl ?xa rfl ?_|refine' Zn rfl rfl (Zb rfl) rfl ?xa rfl ?_|refine' Zo rfl rfl (Zb rfl) rfl ?xa rfl ?_);case xa=>first|exact Zx tbOk rfl rfl rfl rfl (by first|omega|exact hc0) (by first|exact hx|exact hx0|exact hx1|exact hx2|exact hc)|exact Zam (a:=1) (b:=1 + m) tbOk rfl rfl rfl ⟨_,Za rfl⟩ ⟨_,(Za rfl).trans hd1⟩ oM oM|exact Zam (a:=1 + m) (b:=1 + m + w) tbOk rfl rfl rfl ⟨_,(Za rfl).trans hd1⟩ ⟨_,(Za rfl).trans hd2⟩ oM oM|exact Zm KN rfl ⟨Zf (Za rfl),Zf (Za rfl),Zf (Za rfl),trivial⟩)|((first|refine' w_e rfl ?xa ?xb ?xc ?xe ?_|refine' v_e rfl ?xa ?xb ?xc ?xe ?_);(case xa=>first|exact Ze 43 rfl (Zg [(1000000000,8)] KV rfl ⟨Zh (Za rfl),asE,trivial⟩ sbH rfl)|exact Ze 54 rfl (Zg [(1000000000,8),(2000001,503)] KM rfl ⟨Zh (Za rfl),asE,trivial⟩ sbH rfl));(case xb|xc|xe=>rfl);try refine wkD ?_)|((first|refine' w_ey rfl rfl (Zb rfl) ?xa ?xb ?xc ?xe ?_|refine' v_ey rfl rfl (Zb rfl) ?xa ?xb ?xc ?xe ?_);(case xa=>first|exact Ze 43 rfl (Zg [(1000000000,8)] KV rfl ⟨Zh (Za rfl),asE,trivial⟩ sbH rfl)|exact Ze 54 rfl (Zg [(1000000000,8),(2000001,503)] KM rfl ⟨Zh (Za rfl),asE,trivial⟩ sbH rfl));(case xb|xc|xe=>rfl);try refine wkD ?_)|(refine wkB ?_ ?_<;>intro hg_<;>try exact wkX)|fail)
 all_goals first
  | exact Z4 [] rfl sbH (Zau (x:=(true,_)) (y:=(false,[_])) (Zaq rfl rfl tyF0 rfl rfl rfl) rfl (Zat rfl) rfl (Zac (tups2 rfl rfl)))
  | (exfalso; omega)
theorem f_ckAtEndZZ (nil : Bool) (D : List (List Int)) (b c : List Int) (r : Int) (m w : Nat) (hl : D.length ≤ 2000) (hx : (rowsI D)[(0 : Int).toNat]? = some (rowP b)) (h0 : 0 < D.length) (h : nbF 1 3 b = (some [r,(m : Int),(w : Int)],true)) (hs : m + w + 2 ≤ D.length) (hc : (rowsI D)[((1 + m + w : Nat) : Int).toNat]? = some (rowP c)) (hv : rdAll rdV1 ((D.drop 1).take m) = some []) (hm : rdAll rdM1 ((D.drop (1 + m)).take w) = some []) (X : Option Sta) (hX0 : ((∀ ns,nbF 4 0 c ≠ (some ns,true)) ∨ Sta.ok ⟨r,[],[],[]⟩ = false) → X = none) (hX1 : (∃ ns,nbF 4 0 c = (some ns,true)) → Sta.ok ⟨r,[],[],[]⟩ = true → X = some ⟨r,[],[],[]⟩) :
  FnS Try.prog 29 [.one (.r false (row nil 1 (rowsI D)))] [] (stT X) (stH X):=by
 have hlen:=Zan D
 have KN:=Zbh false b 1 3 oM
 rw [h] at KN
 unfold nbRes at KN
 dsimp only at KN
 have hx0 : (ints [r,(m : Int),(w : Int)])[(0 : Int).toNat]? = some (iP r):=rfl
 have hx1 : (ints [r,(m : Int),(w : Int)])[(1 : Int).toNat]? = some (iP (m : Int)):=rfl
 have hx2 : (ints [r,(m : Int),(w : Int)])[(2 : Int).toNat]? = some (iP (w : Int)):=rfl
 have hli : (ints [r,(m : Int),(w : Int)]).length = 3:=rfl
 have hw1 : IntKind.i64.wrap (IntKind.i64.wrap ((m : Int) + (w : Int)) + 2) = (m : Int) + w + 2:=by rw [IntWalk.i64_in ((m : Int) + (w : Int)) oM,IntWalk.i64_in _ oM]
 have hq1 : IntKind.i64.wrap (1 + (m : Int)) = ((1 + m : Nat) : Int):=by rw [IntWalk.i64_in _ oM]; omega
 have hq2 : IntKind.i64.wrap (IntKind.i64.wrap (1 + (m : Int)) + (w : Int)) = ((1 + m + w : Nat) : Int):=by rw [hq1,IntWalk.i64_in _ oM]; omega
 have hd1 : Abs.D.one (Cell.r true (int (IntKind.i64.wrap (1 + (m : Int))))) = Abs.D.one (.r true (int ((1 + m : Nat) : Int))):=by rw [hq1]
 have hd2 : Abs.D.one (Cell.r true (int (IntKind.i64.wrap (IntKind.i64.wrap (1 + (m : Int)) + (w : Int))))) = Abs.D.one (.r true (int ((1 + m + w : Nat) : Int))):=by rw [hq2]
 have hpV : ((rowsI D).drop 1).take (1 + m - 1) = rowsI ((D.drop 1).take m):=by rw [Zbo,show 1 + m - 1 = m by omega]
 have hpM : ((rowsI D).drop (1 + m)).take (1 + m + w - (1 + m)) = rowsI ((D.drop (1 + m)).take w):=by rw [Zbo,show 1 + m + w - (1 + m) = w by omega]
 have hbl : ((D.drop 1).take m).length ≤ 2000:=by simp; omega
 have hbm : ((D.drop (1 + m)).take w).length ≤ 2000:=by simp; omega
 rw [← hq2] at hc
 have hc0 : 0 ≤ IntKind.i64.wrap (IntKind.i64.wrap (1 + (m : Int)) + (w : Int)):=by rw [hq2]; omega
 have hnil : (D.drop 1).take m = []:=List.eq_nil_of_length_eq_zero (by rw [← Zby hv]; rfl)
 have KV:=Zdc nil r
 rw [← hnil,← hpV] at KV
 have hnilM : (D.drop (1 + m)).take w = []:=List.eq_nil_of_length_eq_zero (by rw [← Zby hm]; rfl)
 have KM:=f_readMsNilZ nil r
 rw [← hnilM,← hpM] at KM
 have hMl : ([] : List E3).length ≤ 2000:=by simp
 have KE:=Zbh false c 4 0 oM
 have KO:=Zcz r true true true (⟨r,[],[],[]⟩ : Sta).vs (⟨r,[],[],[]⟩ : Sta).gs (⟨r,[],[],[]⟩ : Sta).ms (by simp only [maxLen,List.length_nil]; omega) (by simp only [maxLen,List.length_nil]; omega) (by simp only [maxLen]; omega)
 rw [show stOk (((⟨r,[],[],[]⟩ : Sta).vs.length : Nat) : Int) r (⟨r,[],[],[]⟩ : Sta).vs (⟨r,[],[],[]⟩ : Sta).gs.length (⟨r,[],[],[]⟩ : Sta).ms = Sta.ok ⟨r,[],[],[]⟩ from rfl] at KO
 dsimp only at KO
 generalize hok : Sta.ok ⟨r,[],[],[]⟩ = ok at *
 have hfall : (X = none) ∨ (X = some ⟨r,[],[],[]⟩ ∧ (∃ ns,nbF 4 0 c = (some ns,true) ∧ nbRes (nbF 4 0 c) = .tup [.one (row false 1 (ints ns)),.one (bool true)]) ∧ ok = true):=by
  rcases nbForm1 4 0 c with ⟨nn,ns,e1,e2⟩ | ⟨ns,e1,e2⟩
  ·exact .inl (hX0 (.inl e2))
  ·cases ok
   ·exact .inl (hX0 (.inr rfl))
   ·exact .inr ⟨hX1 ⟨ns,e1⟩ rfl,⟨ns,e1,e2⟩,rfl⟩
 rcases hfall with hX | ⟨hX,⟨ns,e1,e2⟩,rfl⟩
 ·have hno : X = none:=hX
  rw [hno]
  unfold stT stH
  rcases nbForm1 4 0 c with ⟨nn,ns,e1,e2⟩ | ⟨ns,e1,e2⟩
  ·rw [e1] at KE
   refine Zad (l:=[.cell 2 28,.tmp 3]) Try.func29 kRf rfl Try.ntmps29 rfl rfl ?_; simp only [dEnv,Nat.reduceAdd]
   repeat' (first|refine wk ?_|((first|refine' w_q rfl rfl ?xa rfl ?_|refine' v_q rfl rfl ?xa rfl ?_|refine' Zn rfl rfl (Zb rfl) rfl ?xa rfl ?_|refine' Zo rfl rfl (Zb rfl) rfl ?xa rfl ?_);case xa=>first|exact Zx tbOk rfl rfl rfl rfl (by first|omega|exact hc0) (by first|exact hx|exact hx0|exact hx1|exact hx2|exact hc)|exact Zam (a:=1) (b:=1 + m) tbOk rfl rfl rfl ⟨_,Za rfl⟩ ⟨_,(Za rfl).trans hd1⟩ oM oM|exact Zam (a:=1 + m) (b:=1 + m + w) tbOk rfl rfl rfl ⟨_,(Za rfl).trans hd1⟩ ⟨_,(Za rfl).trans hd2⟩ oM oM|exact Zm KN rfl ⟨Zf (Za rfl),Zf (Za rfl),Zf (Za rfl),trivial⟩|exact Zm KE rfl ⟨Zf (Za rfl),Zf (Za rfl),Zf (Za rfl),trivial⟩|exact Zm KO rfl ⟨Zq (Za rfl) ⟨Zd,Zav,Zav,Zav,trivial⟩,trivial⟩)|((first|refine' w_e rfl ?xa ?xb ?xc ?xe ?_|refine' v_e rfl ?xa ?xb ?xc ?xe ?_);(case xa=>first|exact Ze 43 rfl (Zg [(1000000000,8)] KV rfl ⟨Zh (Za rfl),asE,trivial⟩ sbH rfl)|exact Ze 54 rfl (Zg [(1000000000,8),(2000001,503)] KM rfl ⟨Zh (Za rfl),asE,trivial⟩ sbH rfl));(case xb|xc|xe=>rfl);try refine wkD ?_)|((first|refine' w_ey rfl rfl (Zb rfl) ?xa ?xb ?xc ?xe ?_|refine' v_ey rfl rfl (Zb rfl) ?xa ?xb ?xc ?xe ?_);(case xa=>first|exact Ze 43 rfl (Zg [(1000000000,8)] KV rfl ⟨Zh (Za rfl),asE,trivial⟩ sbH rfl)|exact Ze 54 rfl (Zg [(1000000000,8),(2000001,503)] KM rfl ⟨Zh (Za rfl),asE,trivial⟩ sbH rfl));(case xb|xc|xe=>rfl);try refine wkD ?_)|(refine wkB ?_ ?_<;>intro hg_<;>try exact wkX)|fail)
   all_goals first
  | exact Z4 [] rfl sbH (Zau (x:=(true,_)) (y:=(false,[_])) (Zaq rfl rfl tyF0 rfl rfl rfl) rfl (Zat rfl) rfl (Zac (tups2 rfl rfl)))
  | (exfalso; omega)
  ·have hok0 : ok = false:=by
    cases ok
    ·rfl
    ·have:=hX1 ⟨ns,e1⟩ rfl
     rw [hno] at this; cases this
   subst hok0
   rw [e2] at KE
   refine Zad (l:=[.cell 2 28,.tmp 3]) Try.func29 kRf rfl Try.ntmps29 rfl rfl ?_; simp only [dEnv,Nat.reduceAdd]
   repeat' (first|refine wk ?_|((first|refine' w_q rfl rfl ?xa rfl ?_|refine' v_q rfl rfl ?xa rfl ?_|refine' Zn rfl rfl (Zb rfl) rfl ?xa rfl ?_|refine' Zo rfl rfl (Zb rfl) rfl ?xa rfl ?_);case xa=>first|exact Zx tbOk rfl rfl rfl rfl (by first|omega|exact hc0) (by first|exact hx|exact hx0|exact hx1|exact hx2|exact hc)|exact Zam (a:=1) (b:=1 + m) tbOk rfl rfl rfl ⟨_,Za rfl⟩ ⟨_,(Za rfl).trans hd1⟩ oM oM|exact Zam (a:=1 + m) (b:=1 + m + w) tbOk rfl rfl rfl ⟨_,(Za rfl).trans hd1⟩ ⟨_,(Za rfl).trans hd2⟩ oM oM|exact Zm KN rfl ⟨Zf (Za rfl),Zf (Za rfl),Zf (Za rfl),trivial⟩|exact Zm KE rfl ⟨Zf (Za rfl),Zf (Za rfl),Zf (Za rfl),trivial⟩|exact Zm KO rfl ⟨Zq (Za rfl) ⟨Zd,Zav,Zav,Zav,trivial⟩,trivial⟩)|((first|refine' w_e rfl ?xa ?xb ?xc ?xe ?_|refine' v_e rfl ?xa ?xb ?xc ?xe ?_);(case xa=>first|exact Ze 43 rfl (Zg [(1000000000,8)] KV rfl ⟨Zh (Za rfl),asE,trivial⟩ sbH rfl)|exact Ze 54 rfl (Zg [(1000000000,8),(2000001,503)] KM rfl ⟨Zh (Za rfl),asE,trivial⟩ sbH rfl));(case xb|xc|xe=>rfl);try refine wkD ?_)|((first|refine' w_ey rfl rfl (Zb rfl) ?xa ?xb ?xc ?xe ?_|refine' v_ey rfl rfl (Zb rfl) ?xa ?xb ?xc ?xe ?_);(case xa=>first|exact Ze 43 rfl (Zg [(1000000000,8)] KV rfl ⟨Zh (Za rfl),asE,trivial⟩ sbH rfl)|exact Ze 54 rfl (Zg [(1000000000,8),(2000001,503)] KM rfl ⟨Zh (Za rfl),asE,trivial⟩ sbH rfl));(case xb|xc|xe=>rfl);try refine wkD ?_)|(refine wkB ?_ ?_<;>intro hg_<;>try exact wkX)|fail)
   all_goals first
  | exact Z4 [] rfl sbH (Zau (x:=(true,_)) (y:=(false,[_])) (Zaq rfl rfl tyF0 rfl rfl rfl) rfl (Zat rfl) rfl (Zac (tups2 rfl rfl)))
  | (exfalso; omega)
 ·rw [e2] at KE
  have hT : stT X = .tups [(true,[.r true (int r),Zc,Zc,Zc]),(false,[.r true (bool true)])]:=by rw [hX]; rfl
  have hH : stH X = []:=by rw [hX]; rfl
  rw [hT,hH]
  refine Zad (l:=[.cell 2 28,.tmp 3]) Try.func29 kRf rfl Try.ntmps29 rfl rfl ?_; simp only [dEnv,Nat.reduceAdd]
  repeat' (first|refine wk ?_|((first|refine' w_q rfl rfl ?xa rfl ?_|refine' v_q rfl rfl ?xa rfl ?_|refine' Zn rfl rfl (Zb rfl) rfl ?xa rfl ?_|refine' Zo rfl rfl (Zb rfl) rfl ?xa rfl ?_);case xa=>first|exact Zx tbOk rfl rfl rfl rfl (by first|omega|exact hc0) (by first|exact hx|exact hx0|exact hx1|exact hx2|exact hc)|exact Zam (a:=1) (b:=1 + m) tbOk rfl rfl rfl ⟨_,Za rfl⟩ ⟨_,(Za rfl).trans hd1⟩ oM oM|exact Zam (a:=1 + m) (b:=1 + m + w) tbOk rfl rfl rfl ⟨_,(Za rfl).trans hd1⟩ ⟨_,(Za rfl).trans hd2⟩ oM oM|exact Zm KN rfl ⟨Zf (Za rfl),Zf (Za rfl),Zf (Za rfl),trivial⟩|exact Zm KE rfl ⟨Zf (Za rfl),Zf (Za rfl),Zf (Za rfl),trivial⟩|exact Zm KO rfl ⟨Zq (Za rfl) ⟨Zd,Zav,Zav,Zav,trivial⟩,trivial⟩)|((first|refine' w_e rfl ?xa ?xb ?xc ?xe ?_|refine' v_e rfl ?xa ?xb ?xc ?xe ?_);(case xa=>first|exact Ze 43 rfl (Zg [(1000000000,8)] KV rfl ⟨Zh (Za rfl),asE,trivial⟩ sbH rfl)|exact Ze 54 rfl (Zg [(1000000000,8),(2000001,503)] KM rfl ⟨Zh (Za rfl),asE,trivial⟩ sbH rfl));(case xb|xc|xe=>rfl);try refine wkD ?_)|((first|refine' w_ey rfl rfl (Zb rfl) ?xa ?xb ?xc ?xe ?_|refine' v_ey rfl rfl (Zb rfl) ?xa ?xb ?xc ?xe ?_);(case xa=>first|exact Ze 43 rfl (Zg [(1000000000,8)] KV rfl ⟨Zh (Za rfl),asE,trivial⟩ sbH rfl)|exact Ze 54 rfl (Zg [(1000000000,8),(2000001,503)] KM rfl ⟨Zh (Za rfl),asE,trivial⟩ sbH rfl));(case xb|xc|xe=>rfl);try refine wkD ?_)|(refine wkB ?_ ?_<;>intro hg_<;>try exact wkX)|fail)
  all_goals first
  | exact Z4 [(2000001,501),(2000002,502),(2000003,503)] rfl sbH (Zau (x:=(true,_)) (y:=(false,[_])) (Zaq rfl rfl tyF0 rfl rfl rfl) rfl (Zat rfl) rfl (Zac (tups2 rfl rfl)))
  | (exfalso; omega)
theorem f_ckAtEndZO (nil : Bool) (D : List (List Int)) (b c : List Int) (r : Int) (m w : Nat) (hl : D.length ≤ 2000) (hx : (rowsI D)[(0 : Int).toNat]? = some (rowP b)) (h0 : 0 < D.length) (h : nbF 1 3 b = (some [r,(m : Int),(w : Int)],true)) (hs : m + w + 2 ≤ D.length) (hc : (rowsI D)[((1 + m + w : Nat) : Int).toNat]? = some (rowP c)) (hv : rdAll rdV1 ((D.drop 1).take m) = some []) (M : List E3) (hm : rdAll rdM1 ((D.drop (1 + m)).take w) = some M) (hMn : M ≠ []) (X : Option Sta) (hX0 : ((∀ ns,nbF 4 0 c ≠ (some ns,true)) ∨ Sta.ok ⟨r,[],[],M⟩ = false) → X = none) (hX1 : (∃ ns,nbF 4 0 c = (some ns,true)) → Sta.ok ⟨r,[],[],M⟩ = true → X = some ⟨r,[],[],M⟩) :
  FnS Try.prog 29 [.one (.r false (row nil 1 (rowsI D)))] [] (stT X) (stH X):=by
 have hlen:=Zan D
 have KN:=Zbh false b 1 3 oM
 rw [h] at KN
 unfold nbRes at KN
 dsimp only at KN
 have hx0 : (ints [r,(m : Int),(w : Int)])[(0 : Int).toNat]? = some (iP r):=rfl
 have hx1 : (ints [r,(m : Int),(w : Int)])[(1 : Int).toNat]? = some (iP (m : Int)):=rfl
 have hx2 : (ints [r,(m : Int),(w : Int)])[(2 : Int).toNat]? = some (iP (w : Int)):=rfl
 have hli : (ints [r,(m : Int),(w : Int)]).length = 3:=rfl
 have hw1 : IntKind.i64.wrap (IntKind.i64.wrap ((m : Int) + (w : Int)) + 2) = (m : Int) + w + 2:=by rw [IntWalk.i64_in ((m : Int) + (w : Int)) oM,IntWalk.i64_in _ oM]
 have hq1 : IntKind.i64.wrap (1 + (m : Int)) = ((1 + m : Nat) : Int):=by rw [IntWalk.i64_in _ oM]; omega
 have hq2 : IntKind.i64.wrap (IntKind.i64.wrap (1 + (m : Int)) + (w : Int)) = ((1 + m + w : Nat) : Int):=by rw [hq1,IntWalk.i64_in _ oM]; omega
 have hd1 : Abs.D.one (Cell.r true (int (IntKind.i64.wrap (1 + (m : Int))))) = Abs.D.one (.r true (int ((1 + m : Nat) : Int))):=by rw [hq1]
 have hd2 : Abs.D.one (Cell.r true (int (IntKind.i64.wrap (IntKind.i64.wrap (1 + (m : Int)) + (w : Int))))) = Abs.D.one (.r true (int ((1 + m + w : Nat) : Int))):=by rw [hq2]
 have hpV : ((rowsI D).drop 1).take (1 + m - 1) = rowsI ((D.drop 1).take m):=by rw [Zbo,show 1 + m - 1 = m by omega]
 have hpM : ((rowsI D).drop (1 + m)).take (1 + m + w - (1 + m)) = rowsI ((D.drop (1 + m)).take w):=by rw [Zbo,show 1 + m + w - (1 + m) = w by omega]
 have hbl : ((D.drop 1).take m).length ≤ 2000:=by simp; omega
 have hbm : ((D.drop (1 + m)).take w).length ≤ 2000:=by simp; omega
 rw [← hq2] at hc
 have hc0 : 0 ≤ IntKind.i64.wrap (IntKind.i64.wrap (1 + (m : Int)) + (w : Int)):=by rw [hq2]; omega
 have hnil : (D.drop 1).take m = []:=List.eq_nil_of_length_eq_zero (by rw [← Zby hv]; rfl)
 have KV:=Zdc nil r
 rw [← hnil,← hpV] at KV
 have KM:=f_readMsYesZ nil _ r hbm M hm hMn
 rw [← hpM] at KM
 have hMe : M.isEmpty = false:=by cases M with | nil=>exact absurd rfl hMn | cons x y=>rfl
 have hMl : M.length ≤ 2000:=by rw [Zby hm]; exact hbm
 have hmi:=(Zp M).symm
 have KE:=Zbh false c 4 0 oM
 have KO:=Zcz r true true false (⟨r,[],[],M⟩ : Sta).vs (⟨r,[],[],M⟩ : Sta).gs (⟨r,[],[],M⟩ : Sta).ms (by simp only [maxLen,List.length_nil]; omega) (by simp only [maxLen,List.length_nil]; omega) (by simp only [maxLen]; omega)
 rw [show stOk (((⟨r,[],[],M⟩ : Sta).vs.length : Nat) : Int) r (⟨r,[],[],M⟩ : Sta).vs (⟨r,[],[],M⟩ : Sta).gs.length (⟨r,[],[],M⟩ : Sta).ms = Sta.ok ⟨r,[],[],M⟩ from rfl] at KO
 dsimp only at KO
 generalize hok : Sta.ok ⟨r,[],[],M⟩ = ok at *
 have hfall : (X = none) ∨ (X = some ⟨r,[],[],M⟩ ∧ (∃ ns,nbF 4 0 c = (some ns,true) ∧ nbRes (nbF 4 0 c) = .tup [.one (row false 1 (ints ns)),.one (bool true)]) ∧ ok = true):=by
  rcases nbForm1 4 0 c with ⟨nn,ns,e1,e2⟩ | ⟨ns,e1,e2⟩
  ·exact .inl (hX0 (.inl e2))
  ·cases ok
   ·exact .inl (hX0 (.inr rfl))
   ·exact .inr ⟨hX1 ⟨ns,e1⟩ rfl,⟨ns,e1,e2⟩,rfl⟩
 rcases hfall with hX | ⟨hX,⟨ns,e1,e2⟩,rfl⟩
 ·have hno : X = none:=hX
  rw [hno]
  unfold stT stH
  rcases nbForm1 4 0 c with ⟨nn,ns,e1,e2⟩ | ⟨ns,e1,e2⟩
  ·rw [e1] at KE
   refine Zad (l:=[.cell 2 28,.tmp 3]) Try.func29 kRf rfl Try.ntmps29 rfl rfl ?_; simp only [dEnv,Nat.reduceAdd]
   repeat' (first|refine wk ?_|((first|refine' w_q rfl rfl ?xa rfl ?_|refine' v_q rfl rfl ?xa rfl ?_|refine' Zn rfl rfl (Zb rfl) rfl ?xa rfl ?_|refine' Zo rfl rfl (Zb rfl) rfl ?xa rfl ?_);case xa=>first|exact Zx tbOk rfl rfl rfl rfl (by first|omega|exact hc0) (by first|exact hx|exact hx0|exact hx1|exact hx2|exact hc)|exact Zam (a:=1) (b:=1 + m) tbOk rfl rfl rfl ⟨_,Za rfl⟩ ⟨_,(Za rfl).trans hd1⟩ oM oM|exact Zam (a:=1 + m) (b:=1 + m + w) tbOk rfl rfl rfl ⟨_,(Za rfl).trans hd1⟩ ⟨_,(Za rfl).trans hd2⟩ oM oM|exact Zm KN rfl ⟨Zf (Za rfl),Zf (Za rfl),Zf (Za rfl),trivial⟩|exact Zm KE rfl ⟨Zf (Za rfl),Zf (Za rfl),Zf (Za rfl),trivial⟩|exact Zm KO rfl ⟨Zq (Za rfl) ⟨Zd,Zav,Zav,Zaf (Zj rfl) hmi,trivial⟩,trivial⟩)|((first|refine' w_e rfl ?xa ?xb ?xc ?xe ?_|refine' v_e rfl ?xa ?xb ?xc ?xe ?_);(case xa=>first|exact Ze 43 rfl (Zg [(1000000000,8)] KV rfl ⟨Zh (Za rfl),asE,trivial⟩ sbH rfl)|exact Ze 54 rfl (Zg [(1000000000,8),(2000001,503)] KM rfl ⟨Zh (Za rfl),asE,trivial⟩ sbH rfl));(case xb|xc|xe=>rfl);try refine wkD ?_)|((first|refine' w_ey rfl rfl (Zb rfl) ?xa ?xb ?xc ?xe ?_|refine' v_ey rfl rfl (Zb rfl) ?xa ?xb ?xc ?xe ?_);(case xa=>first|exact Ze 43 rfl (Zg [(1000000000,8)] KV rfl ⟨Zh (Za rfl),asE,trivial⟩ sbH rfl)|exact Ze 54 rfl (Zg [(1000000000,8),(2000001,503)] KM rfl ⟨Zh (Za rfl),asE,trivial⟩ sbH rfl));(case xb|xc|xe=>rfl);try refine wkD ?_)|(refine wkB ?_ ?_<;>intro hg_<;>try exact wkX)|fail)
   all_goals first
  | exact Z4 [] rfl sbH (Zau (x:=(true,_)) (y:=(false,[_])) (Zaq rfl rfl tyF0 rfl rfl rfl) rfl (Zat rfl) rfl (Zac (tups2 rfl rfl)))
  | (exfalso; omega)
  ·have hok0 : ok = false:=by
    cases ok
    ·rfl
    ·have:=hX1 ⟨ns,e1⟩ rfl
     rw [hno] at this; cases this
   subst hok0
   rw [e2] at KE
   refine Zad (l:=[.cell 2 28,.tmp 3]) Try.func29 kRf rfl Try.ntmps29 rfl rfl ?_; simp only [dEnv,Nat.reduceAdd]
   repeat' (first|refine wk ?_|((first|refine' w_q rfl rfl ?xa rfl ?_|refine' v_q rfl rfl ?xa rfl ?_|refine' Zn rfl rfl (Zb rfl) rfl ?xa rfl ?_|refine' Zo rfl rfl (Zb rfl) rfl ?xa rfl ?_);case xa=>first|exact Zx tbOk rfl rfl rfl rfl (by first|omega|exact hc0) (by first|exact hx|exact hx0|exact hx1|exact hx2|exact hc)|exact Zam (a:=1) (b:=1 + m) tbOk rfl rfl rfl ⟨_,Za rfl⟩ ⟨_,(Za rfl).trans hd1⟩ oM oM|exact Zam (a:=1 + m) (b:=1 + m + w) tbOk rfl rfl rfl ⟨_,(Za rfl).trans hd1⟩ ⟨_,(Za rfl).trans hd2⟩ oM oM|exact Zm KN rfl ⟨Zf (Za rfl),Zf (Za rfl),Zf (Za rfl),trivial⟩|exact Zm KE rfl ⟨Zf (Za rfl),Zf (Za rfl),Zf (Za rfl),trivial⟩|exact Zm KO rfl ⟨Zq (Za rfl) ⟨Zd,Zav,Zav,Zaf (Zj rfl) hmi,trivial⟩,trivial⟩)|((first|refine' w_e rfl ?xa ?xb ?xc ?xe ?_|refine' v_e rfl ?xa ?xb ?xc ?xe ?_);(case xa=>first|exact Ze 43 rfl (Zg [(1000000000,8)] KV rfl ⟨Zh (Za rfl),asE,trivial⟩ sbH rfl)|exact Ze 54 rfl (Zg [(1000000000,8),(2000001,503)] KM rfl ⟨Zh (Za rfl),asE,trivial⟩ sbH rfl));(case xb|xc|xe=>rfl);try refine wkD ?_)|((first|refine' w_ey rfl rfl (Zb rfl) ?xa ?xb ?xc ?xe ?_|refine' v_ey rfl rfl (Zb rfl) ?xa ?xb ?xc ?xe ?_);(case xa=>first|exact Ze 43 rfl (Zg [(1000000000,8)] KV rfl ⟨Zh (Za rfl),asE,trivial⟩ sbH rfl)|exact Ze 54 rfl (Zg [(1000000000,8),(2000001,503)] KM rfl ⟨Zh (Za rfl),asE,trivial⟩ sbH rfl));(case xb|xc|xe=>rfl);try refine wkD ?_)|(refine wkB ?_ ?_<;>intro hg_<;>try exact wkX)|fail)
   all_goals first
  | exact Z4 [] rfl sbH (Zau (x:=(true,_)) (y:=(false,[_])) (Zaq rfl rfl tyF0 rfl rfl rfl) rfl (Zat rfl) rfl (Zac (tups2 rfl rfl)))
  | (exfalso; omega)
 ·rw [e2] at KE
  have hT : stT X = .tups [(true,[.r true (int r),Zc,Zc,.own 2000003 0 M.length 3]),(false,[.r true (bool true)])]:=by rw [hX]; simp only [stT,rowC,hMe]; rfl
  have hH : stH X = [(2000003,.sl 70 3 true (edges M))]:=by rw [hX]; simp only [stH,hMe]; rfl
  rw [hT,hH]
  refine Zad (l:=[.cell 2 28,.tmp 3]) Try.func29 kRf rfl Try.ntmps29 rfl rfl ?_; simp only [dEnv,Nat.reduceAdd]
  repeat' (first|refine wk ?_|((first|refine' w_q rfl rfl ?xa rfl ?_|refine' v_q rfl rfl ?xa rfl ?_|refine' Zn rfl rfl (Zb rfl) rfl ?xa rfl ?_|refine' Zo rfl rfl (Zb rfl) rfl ?xa rfl ?_);case xa=>first|exact Zx tbOk rfl rfl rfl rfl (by first|omega|exact hc0) (by first|exact hx|exact hx0|exact hx1|exact hx2|exact hc)|exact Zam (a:=1) (b:=1 + m) tbOk rfl rfl rfl ⟨_,Za rfl⟩ ⟨_,(Za rfl).trans hd1⟩ oM oM|exact Zam (a:=1 + m) (b:=1 + m + w) tbOk rfl rfl rfl ⟨_,(Za rfl).trans hd1⟩ ⟨_,(Za rfl).trans hd2⟩ oM oM|exact Zm KN rfl ⟨Zf (Za rfl),Zf (Za rfl),Zf (Za rfl),trivial⟩|exact Zm KE rfl ⟨Zf (Za rfl),Zf (Za rfl),Zf (Za rfl),trivial⟩|exact Zm KO rfl ⟨Zq (Za rfl) ⟨Zd,Zav,Zav,Zaf (Zj rfl) hmi,trivial⟩,trivial⟩)|((first|refine' w_e rfl ?xa ?xb ?xc ?xe ?_|refine' v_e rfl ?xa ?xb ?xc ?xe ?_);(case xa=>first|exact Ze 43 rfl (Zg [(1000000000,8)] KV rfl ⟨Zh (Za rfl),asE,trivial⟩ sbH rfl)|exact Ze 54 rfl (Zg [(1000000000,8),(2000001,503)] KM rfl ⟨Zh (Za rfl),asE,trivial⟩ sbH rfl));(case xb|xc|xe=>rfl);try refine wkD ?_)|((first|refine' w_ey rfl rfl (Zb rfl) ?xa ?xb ?xc ?xe ?_|refine' v_ey rfl rfl (Zb rfl) ?xa ?xb ?xc ?xe ?_);(case xa=>first|exact Ze 43 rfl (Zg [(1000000000,8)] KV rfl ⟨Zh (Za rfl),asE,trivial⟩ sbH rfl)|exact Ze 54 rfl (Zg [(1000000000,8),(2000001,503)] KM rfl ⟨Zh (Za rfl),asE,trivial⟩ sbH rfl));(case xb|xc|xe=>rfl);try refine wkD ?_)|(refine wkB ?_ ?_<;>intro hg_<;>try exact wkX)|fail)
  all_goals first
  | exact Z4 [(2000001,501),(2000002,502),(2000003,503)] rfl sbH (Zau (x:=(true,_)) (y:=(false,[_])) (Zaq rfl rfl tyF0 rfl rfl rfl) rfl (Zat rfl) rfl (Zac (tups2 rfl rfl)))
  | (exfalso; omega)
theorem f_ckAtMsgsO (nil : Bool) (D : List (List Int)) (b c : List Int) (r : Int) (m w : Nat) (hl : D.length ≤ 2000) (hx : (rowsI D)[(0 : Int).toNat]? = some (rowP b)) (h0 : 0 < D.length) (h : nbF 1 3 b = (some [r,(m : Int),(w : Int)],true)) (hs : m + w + 2 ≤ D.length) (hc : (rowsI D)[((1 + m + w : Nat) : Int).toNat]? = some (rowP c)) (L : List (Int × Bool)) (hv : rdAll rdV1 ((D.drop 1).take m) = some L) (hLn : L ≠ []) (hm : rdAll rdM1 ((D.drop (1 + m)).take w) = none) :
  FnS Try.prog 29 [.one (.r false (row nil 1 (rowsI D)))] [] (stT none) (stH none):=by
 have hlen:=Zan D
 have KN:=Zbh false b 1 3 oM
 rw [h] at KN
 unfold nbRes at KN
 dsimp only at KN
 have hx0 : (ints [r,(m : Int),(w : Int)])[(0 : Int).toNat]? = some (iP r):=rfl
 have hx1 : (ints [r,(m : Int),(w : Int)])[(1 : Int).toNat]? = some (iP (m : Int)):=rfl
 have hx2 : (ints [r,(m : Int),(w : Int)])[(2 : Int).toNat]? = some (iP (w : Int)):=rfl
 have hli : (ints [r,(m : Int),(w : Int)]).length = 3:=rfl
 have hw1 : IntKind.i64.wrap (IntKind.i64.wrap ((m : Int) + (w : Int)) + 2) = (m : Int) + w + 2:=by rw [IntWalk.i64_in ((m : Int) + (w : Int)) oM,IntWalk.i64_in _ oM]
 have hq1 : IntKind.i64.wrap (1 + (m : Int)) = ((1 + m : Nat) : Int):=by rw [IntWalk.i64_in _ oM]; omega
 have hq2 : IntKind.i64.wrap (IntKind.i64.wrap (1 + (m : Int)) + (w : Int)) = ((1 + m + w : Nat) : Int):=by rw [hq1,IntWalk.i64_in _ oM]; omega
 have hd1 : Abs.D.one (Cell.r true (int (IntKind.i64.wrap (1 + (m : Int))))) = Abs.D.one (.r true (int ((1 + m : Nat) : Int))):=by rw [hq1]
 have hd2 : Abs.D.one (Cell.r true (int (IntKind.i64.wrap (IntKind.i64.wrap (1 + (m : Int)) + (w : Int))))) = Abs.D.one (.r true (int ((1 + m + w : Nat) : Int))):=by rw [hq2]
 have hpV : ((rowsI D).drop 1).take (1 + m - 1) = rowsI ((D.drop 1).take m):=by rw [Zbo,show 1 + m - 1 = m by omega]
 have hpM : ((rowsI D).drop (1 + m)).take (1 + m + w - (1 + m)) = rowsI ((D.drop (1 + m)).take w):=by rw [Zbo,show 1 + m + w - (1 + m) = w by omega]
 have hbl : ((D.drop 1).take m).length ≤ 2000:=by simp; omega
 have hbm : ((D.drop (1 + m)).take w).length ≤ 2000:=by simp; omega
 rw [← hq2] at hc
 have hc0 : 0 ≤ IntKind.i64.wrap (IntKind.i64.wrap (1 + (m : Int)) + (w : Int)):=by rw [hq2]; omega
 have KV:=Zdd nil _ r hbl L hv hLn
 rw [← hpV] at KV
 have KM:=f_readMsNoO nil _ r (vsOf L) (gsOf L) hbm hm
 rw [← hpM,Zbs,Zbt] at KM
 unfold stT stH
 refine Zad (l:=[.cell 2 28,.tmp 3]) Try.func29 kRf rfl Try.ntmps29 rfl rfl ?_; simp only [dEnv,Nat.reduceAdd]
 repeat' (first|refine wk ?_|((first|refine' w_q rfl rfl ?xa rfl ?_|refine' v_q rfl rfl ?xa rfl ?_|refine' Zn rfl rfl (Zb rfl) rfl ?xa rfl ?_|refine' Zo rfl rfl (Zb rfl) rfl ?xa rfl ?_);case xa=>first|exact Zx tbOk rfl rfl rfl rfl (by first|omega|exact hc0) (by first|exact hx|exact hx0|exact hx1|exact hx2|exact hc)|exact Zam (a:=1) (b:=1 + m) tbOk rfl rfl rfl ⟨_,Za rfl⟩ ⟨_,(Za rfl).trans hd1⟩ oM oM|exact Zam (a:=1 + m) (b:=1 + m + w) tbOk rfl rfl rfl ⟨_,(Za rfl).trans hd1⟩ ⟨_,(Za rfl).trans hd2⟩ oM oM|exact Zm KN rfl ⟨Zf (Za rfl),Zf (Za rfl),Zf (Za rfl),trivial⟩)|((first|refine' w_e rfl ?xa ?xb ?xc ?xe ?_|refine' v_e rfl ?xa ?xb ?xc ?xe ?_);(case xa=>first|exact Ze 43 rfl (Zg [(1000000000,8),(2000001,501),(2000002,502)] KV rfl ⟨Zh (Za rfl),asE,trivial⟩ sbH rfl)|exact Ze 54 rfl (Zg [(1000000000,8),(1000000001,501),(1000000002,502),(2000001,503)] KM rfl ⟨Zh (Za rfl),asE,trivial⟩ sbH rfl));(case xb|xc|xe=>rfl);try refine wkD ?_)|((first|refine' w_ey rfl rfl (Zb rfl) ?xa ?xb ?xc ?xe ?_|refine' v_ey rfl rfl (Zb rfl) ?xa ?xb ?xc ?xe ?_);(case xa=>first|exact Ze 43 rfl (Zg [(1000000000,8),(2000001,501),(2000002,502)] KV rfl ⟨Zh (Za rfl),asE,trivial⟩ sbH rfl)|exact Ze 54 rfl (Zg [(1000000000,8),(1000000001,501),(1000000002,502),(2000001,503)] KM rfl ⟨Zh (Za rfl),asE,trivial⟩ sbH rfl));(case xb|xc|xe=>rfl);try refine wkD ?_)|(refine wkB ?_ ?_<;>intro hg_<;>try exact wkX)|fail)
 all_goals first
  | exact Z4 [] rfl sbH (Zau (x:=(true,_)) (y:=(false,[_])) (Zaq rfl rfl tyF0 rfl rfl rfl) rfl (Zat rfl) rfl (Zac (tups2 rfl rfl)))
  | (exfalso; omega)
theorem f_ckAtEndOZ (nil : Bool) (D : List (List Int)) (b c : List Int) (r : Int) (m w : Nat) (hl : D.length ≤ 2000) (hx : (rowsI D)[(0 : Int).toNat]? = some (rowP b)) (h0 : 0 < D.length) (h : nbF 1 3 b = (some [r,(m : Int),(w : Int)],true)) (hs : m + w + 2 ≤ D.length) (hc : (rowsI D)[((1 + m + w : Nat) : Int).toNat]? = some (rowP c)) (L : List (Int × Bool)) (hv : rdAll rdV1 ((D.drop 1).take m) = some L) (hLn : L ≠ []) (hm : rdAll rdM1 ((D.drop (1 + m)).take w) = some []) (X : Option Sta) (hX0 : ((∀ ns,nbF 4 0 c ≠ (some ns,true)) ∨ Sta.ok ⟨r,vsOf L,gsOf L,[]⟩ = false) → X = none) (hX1 : (∃ ns,nbF 4 0 c = (some ns,true)) → Sta.ok ⟨r,vsOf L,gsOf L,[]⟩ = true → X = some ⟨r,vsOf L,gsOf L,[]⟩) :
  FnS Try.prog 29 [.one (.r false (row nil 1 (rowsI D)))] [] (stT X) (stH X):=by
 have hlen:=Zan D
 have KN:=Zbh false b 1 3 oM
 rw [h] at KN
 unfold nbRes at KN
 dsimp only at KN
 have hx0 : (ints [r,(m : Int),(w : Int)])[(0 : Int).toNat]? = some (iP r):=rfl
 have hx1 : (ints [r,(m : Int),(w : Int)])[(1 : Int).toNat]? = some (iP (m : Int)):=rfl
 have hx2 : (ints [r,(m : Int),(w : Int)])[(2 : Int).toNat]? = some (iP (w : Int)):=rfl
 have hli : (ints [r,(m : Int),(w : Int)]).length = 3:=rfl
 have hw1 : IntKind.i64.wrap (IntKind.i64.wrap ((m : Int) + (w : Int)) + 2) = (m : Int) + w + 2:=by rw [IntWalk.i64_in ((m : Int) + (w : Int)) oM,IntWalk.i64_in _ oM]
 have hq1 : IntKind.i64.wrap (1 + (m : Int)) = ((1 + m : Nat) : Int):=by rw [IntWalk.i64_in _ oM]; omega
 have hq2 : IntKind.i64.wrap (IntKind.i64.wrap (1 + (m : Int)) + (w : Int)) = ((1 + m + w : Nat) : Int):=by rw [hq1,IntWalk.i64_in _ oM]; omega
 have hd1 : Abs.D.one (Cell.r true (int (IntKind.i64.wrap (1 + (m : Int))))) = Abs.D.one (.r true (int ((1 + m : Nat) : Int))):=by rw [hq1]
 have hd2 : Abs.D.one (Cell.r true (int (IntKind.i64.wrap (IntKind.i64.wrap (1 + (m : Int)) + (w : Int))))) = Abs.D.one (.r true (int ((1 + m + w : Nat) : Int))):=by rw [hq2]
 have hpV : ((rowsI D).drop 1).take (1 + m - 1) = rowsI ((D.drop 1).take m):=by rw [Zbo,show 1 + m - 1 = m by omega]
 have hpM : ((rowsI D).drop (1 + m)).take (1 + m + w - (1 + m)) = rowsI ((D.drop (1 + m)).take w):=by rw [Zbo,show 1 + m + w - (1 + m) = w by omega]
 have hbl : ((D.drop 1).take m).length ≤ 2000:=by simp; omega
 have hbm : ((D.drop (1 + m)).take w).length ≤ 2000:=by simp; omega
 rw [← hq2] at hc
 have hc0 : 0 ≤ IntKind.i64.wrap (IntKind.i64.wrap (1 + (m : Int)) + (w : Int)):=by rw [hq2]; omega
 have KV:=Zdd nil _ r hbl L hv hLn
 rw [← hpV] at KV
 have hnilM : (D.drop (1 + m)).take w = []:=List.eq_nil_of_length_eq_zero (by rw [← Zby hm]; rfl)
 have KM:=f_readMsNilO nil r (vsOf L) (gsOf L)
 rw [← hnilM,← hpM,Zbs,Zbt] at KM
 have hLe : (vsOf L).isEmpty = false:=by cases L with | nil=>exact absurd rfl hLn | cons x y=>rfl
 have hLl : L.length ≤ 2000:=by rw [Zby hv]; exact hbl
 have hvi : L.length = (ints (vsOf L)).length:=by rw [Zu,Zbs]
 have hgi : L.length = (bools (gsOf L)).length:=by rw [Zah,Zbt]
 have hMl : ([] : List E3).length ≤ 2000:=by simp
 have KE:=Zbh false c 4 0 oM
 have KO:=Zcz r false false true (⟨r,vsOf L,gsOf L,[]⟩ : Sta).vs (⟨r,vsOf L,gsOf L,[]⟩ : Sta).gs (⟨r,vsOf L,gsOf L,[]⟩ : Sta).ms (by simp only [maxLen,Zbs]; omega) (by simp only [maxLen,Zbt]; omega) (by simp only [maxLen]; omega)
 rw [show stOk (((⟨r,vsOf L,gsOf L,[]⟩ : Sta).vs.length : Nat) : Int) r (⟨r,vsOf L,gsOf L,[]⟩ : Sta).vs (⟨r,vsOf L,gsOf L,[]⟩ : Sta).gs.length (⟨r,vsOf L,gsOf L,[]⟩ : Sta).ms = Sta.ok ⟨r,vsOf L,gsOf L,[]⟩ from rfl] at KO
 dsimp only at KO
 generalize hok : Sta.ok ⟨r,vsOf L,gsOf L,[]⟩ = ok at *
 have hfall : (X = none) ∨ (X = some ⟨r,vsOf L,gsOf L,[]⟩ ∧ (∃ ns,nbF 4 0 c = (some ns,true) ∧ nbRes (nbF 4 0 c) = .tup [.one (row false 1 (ints ns)),.one (bool true)]) ∧ ok = true):=by
  rcases nbForm1 4 0 c with ⟨nn,ns,e1,e2⟩ | ⟨ns,e1,e2⟩
  ·exact .inl (hX0 (.inl e2))
  ·cases ok
   ·exact .inl (hX0 (.inr rfl))
   ·exact .inr ⟨hX1 ⟨ns,e1⟩ rfl,⟨ns,e1,e2⟩,rfl⟩
 rcases hfall with hX | ⟨hX,⟨ns,e1,e2⟩,rfl⟩
 ·have hno : X = none:=hX
  rw [hno]
  unfold stT stH
  rcases nbForm1 4 0 c with ⟨nn,ns,e1,e2⟩ | ⟨ns,e1,e2⟩
  ·rw [e1] at KE
   refine Zad (l:=[.cell 2 28,.tmp 3]) Try.func29 kRf rfl Try.ntmps29 rfl rfl ?_; simp only [dEnv,Nat.reduceAdd]
   repeat' (first|refine wk ?_|((first|refine' w_q rfl rfl ?xa rfl ?_|refine' v_q rfl rfl ?xa rfl ?_|refine' Zn rfl rfl (Zb rfl) rfl ?xa rfl ?_|refine' Zo rfl rfl (Zb rfl) rfl ?xa rfl ?_);case xa=>first|exact Zx tbOk rfl rfl rfl rfl (by first|omega|exact hc0) (by first|exact hx|exact hx0|exact hx1|exact hx2|exact hc)|exact Zam (a:=1) (b:=1 + m) tbOk rfl rfl rfl ⟨_,Za rfl⟩ ⟨_,(Za rfl).trans hd1⟩ oM oM|exact Zam (a:=1 + m) (b:=1 + m + w) tbOk rfl rfl rfl ⟨_,(Za rfl).trans hd1⟩ ⟨_,(Za rfl).trans hd2⟩ oM oM|exact Zm KN rfl ⟨Zf (Za rfl),Zf (Za rfl),Zf (Za rfl),trivial⟩|exact Zm KE rfl ⟨Zf (Za rfl),Zf (Za rfl),Zf (Za rfl),trivial⟩|exact Zm KO rfl ⟨Zq (Za rfl) ⟨Zd,Zaf (Zj rfl) hvi,Zaf (Zj rfl) hgi,Zav,trivial⟩,trivial⟩)|((first|refine' w_e rfl ?xa ?xb ?xc ?xe ?_|refine' v_e rfl ?xa ?xb ?xc ?xe ?_);(case xa=>first|exact Ze 43 rfl (Zg [(1000000000,8),(2000001,501),(2000002,502)] KV rfl ⟨Zh (Za rfl),asE,trivial⟩ sbH rfl)|exact Ze 54 rfl (Zg [(1000000000,8),(1000000001,501),(1000000002,502),(2000001,503)] KM rfl ⟨Zh (Za rfl),asE,trivial⟩ sbH rfl));(case xb|xc|xe=>rfl);try refine wkD ?_)|((first|refine' w_ey rfl rfl (Zb rfl) ?xa ?xb ?xc ?xe ?_|refine' v_ey rfl rfl (Zb rfl) ?xa ?xb ?xc ?xe ?_);(case xa=>first|exact Ze 43 rfl (Zg [(1000000000,8),(2000001,501),(2000002,502)] KV rfl ⟨Zh (Za rfl),asE,trivial⟩ sbH rfl)|exact Ze 54 rfl (Zg [(1000000000,8),(1000000001,501),(1000000002,502),(2000001,503)] KM rfl ⟨Zh (Za rfl),asE,trivial⟩ sbH rfl));(case xb|xc|xe=>rfl);try refine wkD ?_)|(refine wkB ?_ ?_<;>intro hg_<;>try exact wkX)|fail)
   all_goals first
  | exact Z4 [] rfl sbH (Zau (x:=(true,_)) (y:=(false,[_])) (Zaq rfl rfl tyF0 rfl rfl rfl) rfl (Zat rfl) rfl (Zac (tups2 rfl rfl)))
  | (exfalso; omega)
  ·have hok0 : ok = false:=by
    cases ok
    ·rfl
    ·have:=hX1 ⟨ns,e1⟩ rfl
     rw [hno] at this; cases this
   subst hok0
   rw [e2] at KE
   refine Zad (l:=[.cell 2 28,.tmp 3]) Try.func29 kRf rfl Try.ntmps29 rfl rfl ?_; simp only [dEnv,Nat.reduceAdd]
   repeat' (first|refine wk ?_|((first|refine' w_q rfl rfl ?xa rfl ?_|refine' v_q rfl rfl ?xa rfl ?_|refine' Zn rfl rfl (Zb rfl) rfl ?xa rfl ?_|refine' Zo rfl rfl (Zb rfl) rfl ?xa rfl ?_);case xa=>first|exact Zx tbOk rfl rfl rfl rfl (by first|omega|exact hc0) (by first|exact hx|exact hx0|exact hx1|exact hx2|exact hc)|exact Zam (a:=1) (b:=1 + m) tbOk rfl rfl rfl ⟨_,Za rfl⟩ ⟨_,(Za rfl).trans hd1⟩ oM oM|exact Zam (a:=1 + m) (b:=1 + m + w) tbOk rfl rfl rfl ⟨_,(Za rfl).trans hd1⟩ ⟨_,(Za rfl).trans hd2⟩ oM oM|exact Zm KN rfl ⟨Zf (Za rfl),Zf (Za rfl),Zf (Za rfl),trivial⟩|exact Zm KE rfl ⟨Zf (Za rfl),Zf (Za rfl),Zf (Za rfl),trivial⟩|exact Zm KO rfl ⟨Zq (Za rfl) ⟨Zd,Zaf (Zj rfl) hvi,Zaf (Zj rfl) hgi,Zav,trivial⟩,trivial⟩)|((first|refine' w_e rfl ?xa ?xb ?xc ?xe ?_|refine' v_e rfl ?xa ?xb ?xc ?xe ?_);(case xa=>first|exact Ze 43 rfl (Zg [(1000000000,8),(2000001,501),(2000002,502)] KV rfl ⟨Zh (Za rfl),asE,trivial⟩ sbH rfl)|exact Ze 54 rfl (Zg [(1000000000,8),(1000000001,501),(1000000002,502),(2000001,503)] KM rfl ⟨Zh (Za rfl),asE,trivial⟩ sbH rfl));(case xb|xc|xe=>rfl);try refine wkD ?_)|((first|refine' w_ey rfl rfl (Zb rfl) ?xa ?xb ?xc ?xe ?_|refine' v_ey rfl rfl (Zb rfl) ?xa ?xb ?xc ?xe ?_);(case xa=>first|exact Ze 43 rfl (Zg [(1000000000,8),(2000001,501),(2000002,502)] KV rfl ⟨Zh (Za rfl),asE,trivial⟩ sbH rfl)|exact Ze 54 rfl (Zg [(1000000000,8),(1000000001,501),(1000000002,502),(2000001,503)] KM rfl ⟨Zh (Za rfl),asE,trivial⟩ sbH rfl));(case xb|xc|xe=>rfl);try refine wkD ?_)|(refine wkB ?_ ?_<;>intro hg_<;>try exact wkX)|fail)
   all_goals first
  | exact Z4 [] rfl sbH (Zau (x:=(true,_)) (y:=(false,[_])) (Zaq rfl rfl tyF0 rfl rfl rfl) rfl (Zat rfl) rfl (Zac (tups2 rfl rfl)))
  | (exfalso; omega)
 ·rw [e2] at KE
  have hT : stT X = .tups [(true,[.r true (int r),.own 2000001 0 L.length 1,.own 2000002 0 L.length 1,Zc]),(false,[.r true (bool true)])]:=by rw [hX]; simp only [stT,rowC,hLe,Zbs,Zbt]; rfl
  have hH : stH X = [(2000001,.sl 3 1 true (ints (vsOf L))),(2000002,.sl 4 1 true (bools (gsOf L)))]:=by rw [hX]; simp only [stH,hLe,Zbs,Zbt]; rfl
  rw [hT,hH]
  refine Zad (l:=[.cell 2 28,.tmp 3]) Try.func29 kRf rfl Try.ntmps29 rfl rfl ?_; simp only [dEnv,Nat.reduceAdd]
  repeat' (first|refine wk ?_|((first|refine' w_q rfl rfl ?xa rfl ?_|refine' v_q rfl rfl ?xa rfl ?_|refine' Zn rfl rfl (Zb rfl) rfl ?xa rfl ?_|refine' Zo rfl rfl (Zb rfl) rfl ?xa rfl ?_);case xa=>first|exact Zx tbOk rfl rfl rfl rfl (by first|omega|exact hc0) (by first|exact hx|exact hx0|exact hx1|exact hx2|exact hc)|exact Zam (a:=1) (b:=1 + m) tbOk rfl rfl rfl ⟨_,Za rfl⟩ ⟨_,(Za rfl).trans hd1⟩ oM oM|exact Zam (a:=1 + m) (b:=1 + m + w) tbOk rfl rfl rfl ⟨_,(Za rfl).trans hd1⟩ ⟨_,(Za rfl).trans hd2⟩ oM oM|exact Zm KN rfl ⟨Zf (Za rfl),Zf (Za rfl),Zf (Za rfl),trivial⟩|exact Zm KE rfl ⟨Zf (Za rfl),Zf (Za rfl),Zf (Za rfl),trivial⟩|exact Zm KO rfl ⟨Zq (Za rfl) ⟨Zd,Zaf (Zj rfl) hvi,Zaf (Zj rfl) hgi,Zav,trivial⟩,trivial⟩)|((first|refine' w_e rfl ?xa ?xb ?xc ?xe ?_|refine' v_e rfl ?xa ?xb ?xc ?xe ?_);(case xa=>first|exact Ze 43 rfl (Zg [(1000000000,8),(2000001,501),(2000002,502)] KV rfl ⟨Zh (Za rfl),asE,trivial⟩ sbH rfl)|exact Ze 54 rfl (Zg [(1000000000,8),(1000000001,501),(1000000002,502),(2000001,503)] KM rfl ⟨Zh (Za rfl),asE,trivial⟩ sbH rfl));(case xb|xc|xe=>rfl);try refine wkD ?_)|((first|refine' w_ey rfl rfl (Zb rfl) ?xa ?xb ?xc ?xe ?_|refine' v_ey rfl rfl (Zb rfl) ?xa ?xb ?xc ?xe ?_);(case xa=>first|exact Ze 43 rfl (Zg [(1000000000,8),(2000001,501),(2000002,502)] KV rfl ⟨Zh (Za rfl),asE,trivial⟩ sbH rfl)|exact Ze 54 rfl (Zg [(1000000000,8),(1000000001,501),(1000000002,502),(2000001,503)] KM rfl ⟨Zh (Za rfl),asE,trivial⟩ sbH rfl));(case xb|xc|xe=>rfl);try refine wkD ?_)|(refine wkB ?_ ?_<;>intro hg_<;>try exact wkX)|fail)
  all_goals first
  | exact Z4 [(2000001,501),(2000002,502),(2000003,503)] rfl sbH (Zau (x:=(true,_)) (y:=(false,[_])) (Zaq rfl rfl tyF0 rfl rfl rfl) rfl (Zat rfl) rfl (Zac (tups2 rfl rfl)))
  | (exfalso; omega)
theorem f_ckAtEndOO (nil : Bool) (D : List (List Int)) (b c : List Int) (r : Int) (m w : Nat) (hl : D.length ≤ 2000) (hx : (rowsI D)[(0 : Int).toNat]? = some (rowP b)) (h0 : 0 < D.length) (h : nbF 1 3 b = (some [r,(m : Int),(w : Int)],true)) (hs : m + w + 2 ≤ D.length) (hc : (rowsI D)[((1 + m + w : Nat) : Int).toNat]? = some (rowP c)) (L : List (Int × Bool)) (hv : rdAll rdV1 ((D.drop 1).take m) = some L) (hLn : L ≠ []) (M : List E3) (hm : rdAll rdM1 ((D.drop (1 + m)).take w) = some M) (hMn : M ≠ []) (X : Option Sta) (hX0 : ((∀ ns,nbF 4 0 c ≠ (some ns,true)) ∨ Sta.ok ⟨r,vsOf L,gsOf L,M⟩ = false) → X = none) (hX1 : (∃ ns,nbF 4 0 c = (some ns,true)) → Sta.ok ⟨r,vsOf L,gsOf L,M⟩ = true → X = some ⟨r,vsOf L,gsOf L,M⟩) :
  FnS Try.prog 29 [.one (.r false (row nil 1 (rowsI D)))] [] (stT X) (stH X):=by
 have hlen:=Zan D
 have KN:=Zbh false b 1 3 oM
 rw [h] at KN
 unfold nbRes at KN
 dsimp only at KN
 have hx0 : (ints [r,(m : Int),(w : Int)])[(0 : Int).toNat]? = some (iP r):=rfl
 have hx1 : (ints [r,(m : Int),(w : Int)])[(1 : Int).toNat]? = some (iP (m : Int)):=rfl
 have hx2 : (ints [r,(m : Int),(w : Int)])[(2 : Int).toNat]? = some (iP (w : Int)):=rfl
 have hli : (ints [r,(m : Int),(w : Int)]).length = 3:=rfl
 have hw1 : IntKind.i64.wrap (IntKind.i64.wrap ((m : Int) + (w : Int)) + 2) = (m : Int) + w + 2:=by rw [IntWalk.i64_in ((m : Int) + (w : Int)) oM,IntWalk.i64_in _ oM]
 have hq1 : IntKind.i64.wrap (1 + (m : Int)) = ((1 + m : Nat) : Int):=by rw [IntWalk.i64_in _ oM]; omega
 have hq2 : IntKind.i64.wrap (IntKind.i64.wrap (1 + (m : Int)) + (w : Int)) = ((1 + m + w : Nat) : Int):=by rw [hq1,IntWalk.i64_in _ oM]; omega
 have hd1 : Abs.D.one (Cell.r true (int (IntKind.i64.wrap (1 + (m : Int))))) = Abs.D.one (.r true (int ((1 + m : Nat) : Int))):=by rw [hq1]
 have hd2 : Abs.D.one (Cell.r true (int (IntKind.i64.wrap (IntKind.i64.wrap (1 + (m : Int)) + (w : Int))))) = Abs.D.one (.r true (int ((1 + m + w : Nat) : Int))):=by rw [hq2]
 have hpV : ((rowsI D).drop 1).take (1 + m - 1) = rowsI ((D.drop 1).take m):=by rw [Zbo,show 1 + m - 1 = m by omega]
 have hpM : ((rowsI D).drop (1 + m)).take (1 + m + w - (1 + m)) = rowsI ((D.drop (1 + m)).take w):=by rw [Zbo,show 1 + m + w - (1 + m) = w by omega]
 have hbl : ((D.drop 1).take m).length ≤ 2000:=by simp; omega
 have hbm : ((D.drop (1 + m)).take w).length ≤ 2000:=by simp; omega
 rw [← hq2] at hc
 have hc0 : 0 ≤ IntKind.i64.wrap (IntKind.i64.wrap (1 + (m : Int)) + (w : Int)):=by rw [hq2]; omega
 have KV:=Zdd nil _ r hbl L hv hLn
 rw [← hpV] at KV
 have KM:=f_readMsYesO nil _ r (vsOf L) (gsOf L) hbm M hm hMn
 rw [← hpM,Zbs,Zbt] at KM
 have hLe : (vsOf L).isEmpty = false:=by cases L with | nil=>exact absurd rfl hLn | cons x y=>rfl
 have hMe : M.isEmpty = false:=by cases M with | nil=>exact absurd rfl hMn | cons x y=>rfl
 have hLl : L.length ≤ 2000:=by rw [Zby hv]; exact hbl
 have hvi : L.length = (ints (vsOf L)).length:=by rw [Zu,Zbs]
 have hgi : L.length = (bools (gsOf L)).length:=by rw [Zah,Zbt]
 have hMl : M.length ≤ 2000:=by rw [Zby hm]; exact hbm
 have hmi:=(Zp M).symm
 have KE:=Zbh false c 4 0 oM
 have KO:=Zcz r false false false (⟨r,vsOf L,gsOf L,M⟩ : Sta).vs (⟨r,vsOf L,gsOf L,M⟩ : Sta).gs (⟨r,vsOf L,gsOf L,M⟩ : Sta).ms (by simp only [maxLen,Zbs]; omega) (by simp only [maxLen,Zbt]; omega) (by simp only [maxLen]; omega)
 rw [show stOk (((⟨r,vsOf L,gsOf L,M⟩ : Sta).vs.length : Nat) : Int) r (⟨r,vsOf L,gsOf L,M⟩ : Sta).vs (⟨r,vsOf L,gsOf L,M⟩ : Sta).gs.length (⟨r,vsOf L,gsOf L,M⟩ : Sta).ms = Sta.ok ⟨r,vsOf L,gsOf L,M⟩ from rfl] at KO
 dsimp only at KO
 generalize hok : Sta.ok ⟨r,vsOf L,gsOf L,M⟩ = ok at *
 have hfall : (X = none) ∨ (X = some ⟨r,vsOf L,gsOf L,M⟩ ∧ (∃ ns,nbF 4 0 c = (some ns,true) ∧ nbRes (nbF 4 0 c) = .tup [.one (row false 1 (ints ns)),.one (bool true)]) ∧ ok = true):=by
  rcases nbForm1 4 0 c with ⟨nn,ns,e1,e2⟩ | ⟨ns,e1,e2⟩
  ·exact .inl (hX0 (.inl e2))
  ·cases ok
   ·exact .inl (hX0 (.inr rfl))
   ·exact .inr ⟨hX1 ⟨ns,e1⟩ rfl,⟨ns,e1,e2⟩,rfl⟩
 rcases hfall with hX | ⟨hX,⟨ns,e1,e2⟩,rfl⟩
 ·have hno : X = none:=hX
  rw [hno]
  unfold stT stH
  rcases nbForm1 4 0 c with ⟨nn,ns,e1,e2⟩ | ⟨ns,e1,e2⟩
  ·rw [e1] at KE
   refine Zad (l:=[.cell 2 28,.tmp 3]) Try.func29 kRf rfl Try.ntmps29 rfl rfl ?_; simp only [dEnv,Nat.reduceAdd]
   repeat' (first|refine wk ?_|((first|refine' w_q rfl rfl ?xa rfl ?_|refine' v_q rfl rfl ?xa rfl ?_|refine' Zn rfl rfl (Zb rfl) rfl ?xa rfl ?_|refine' Zo rfl rfl (Zb rfl) rfl ?xa rfl ?_);case xa=>first|exact Zx tbOk rfl rfl rfl rfl (by first|omega|exact hc0) (by first|exact hx|exact hx0|exact hx1|exact hx2|exact hc)|exact Zam (a:=1) (b:=1 + m) tbOk rfl rfl rfl ⟨_,Za rfl⟩ ⟨_,(Za rfl).trans hd1⟩ oM oM|exact Zam (a:=1 + m) (b:=1 + m + w) tbOk rfl rfl rfl ⟨_,(Za rfl).trans hd1⟩ ⟨_,(Za rfl).trans hd2⟩ oM oM|exact Zm KN rfl ⟨Zf (Za rfl),Zf (Za rfl),Zf (Za rfl),trivial⟩|exact Zm KE rfl ⟨Zf (Za rfl),Zf (Za rfl),Zf (Za rfl),trivial⟩|exact Zm KO rfl ⟨Zq (Za rfl) ⟨Zd,Zaf (Zj rfl) hvi,Zaf (Zj rfl) hgi,Zaf (Zj rfl) hmi,trivial⟩,trivial⟩)|((first|refine' w_e rfl ?xa ?xb ?xc ?xe ?_|refine' v_e rfl ?xa ?xb ?xc ?xe ?_);(case xa=>first|exact Ze 43 rfl (Zg [(1000000000,8),(2000001,501),(2000002,502)] KV rfl ⟨Zh (Za rfl),asE,trivial⟩ sbH rfl)|exact Ze 54 rfl (Zg [(1000000000,8),(1000000001,501),(1000000002,502),(2000001,503)] KM rfl ⟨Zh (Za rfl),asE,trivial⟩ sbH rfl));(case xb|xc|xe=>rfl);try refine wkD ?_)|((first|refine' w_ey rfl rfl (Zb rfl) ?xa ?xb ?xc ?xe ?_|refine' v_ey rfl rfl (Zb rfl) ?xa ?xb ?xc ?xe ?_);(case xa=>first|exact Ze 43 rfl (Zg [(1000000000,8),(2000001,501),(2000002,502)] KV rfl ⟨Zh (Za rfl),asE,trivial⟩ sbH rfl)|exact Ze 54 rfl (Zg [(1000000000,8),(1000000001,501),(1000000002,502),(2000001,503)] KM rfl ⟨Zh (Za rfl),asE,trivial⟩ sbH rfl));(case xb|xc|xe=>rfl);try refine wkD ?_)|(refine wkB ?_ ?_<;>intro hg_<;>try exact wkX)|fail)
   all_goals first
  | exact Z4 [] rfl sbH (Zau (x:=(true,_)) (y:=(false,[_])) (Zaq rfl rfl tyF0 rfl rfl rfl) rfl (Zat rfl) rfl (Zac (tups2 rfl rfl)))
  | (exfalso; omega)
  ·have hok0 : ok = false:=by
    cases ok
    ·rfl
    ·have:=hX1 ⟨ns,e1⟩ rfl
     rw [hno] at this; cases this
   subst hok0
   rw [e2] at KE
   refine Zad (l:=[.cell 2 28,.tmp 3]) Try.func29 kRf rfl Try.ntmps29 rfl rfl ?_; simp only [dEnv,Nat.reduceAdd]
   repeat' (first|refine wk ?_|((first|refine' w_q rfl rfl ?xa rfl ?_|refine' v_q rfl rfl ?xa rfl ?_|refine' Zn rfl rfl (Zb rfl) rfl ?xa rfl ?_|refine' Zo rfl rfl (Zb rfl) rfl ?xa rfl ?_);case xa=>first|exact Zx tbOk rfl rfl rfl rfl (by first|omega|exact hc0) (by first|exact hx|exact hx0|exact hx1|exact hx2|exact hc)|exact Zam (a:=1) (b:=1 + m) tbOk rfl rfl rfl ⟨_,Za rfl⟩ ⟨_,(Za rfl).trans hd1⟩ oM oM|exact Zam (a:=1 + m) (b:=1 + m + w) tbOk rfl rfl rfl ⟨_,(Za rfl).trans hd1⟩ ⟨_,(Za rfl).trans hd2⟩ oM oM|exact Zm KN rfl ⟨Zf (Za rfl),Zf (Za rfl),Zf (Za rfl),trivial⟩|exact Zm KE rfl ⟨Zf (Za rfl),Zf (Za rfl),Zf (Za rfl),trivial⟩|exact Zm KO rfl ⟨Zq (Za rfl) ⟨Zd,Zaf (Zj rfl) hvi,Zaf (Zj rfl) hgi,Zaf (Zj rfl) hmi,trivial⟩,trivial⟩)|((first|refine' w_e rfl ?xa ?xb ?xc ?xe ?_|refine' v_e rfl ?xa ?xb ?xc ?xe ?_);(case xa=>first|exact Ze 43 rfl (Zg [(1000000000,8),(2000001,501),(2000002,502)] KV rfl ⟨Zh (Za rfl),asE,trivial⟩ sbH rfl)|exact Ze 54 rfl (Zg [(1000000000,8),(1000000001,501),(1000000002,502),(2000001,503)] KM rfl ⟨Zh (Za rfl),asE,trivial⟩ sbH rfl));(case xb|xc|xe=>rfl);try refine wkD ?_)|((first|refine' w_ey rfl rfl (Zb rfl) ?xa ?xb ?xc ?xe ?_|refine' v_ey rfl rfl (Zb rfl) ?xa ?xb ?xc ?xe ?_);(case xa=>first|exact Ze 43 rfl (Zg [(1000000000,8),(2000001,501),(2000002,502)] KV rfl ⟨Zh (Za rfl),asE,trivial⟩ sbH rfl)|exact Ze 54 rfl (Zg [(1000000000,8),(1000000001,501),(1000000002,502),(2000001,503)] KM rfl ⟨Zh (Za rfl),asE,trivial⟩ sbH rfl));(case xb|xc|xe=>rfl);try refine wkD ?_)|(refine wkB ?_ ?_<;>intro hg_<;>try exact wkX)|fail)
   all_goals first
  | exact Z4 [] rfl sbH (Zau (x:=(true,_)) (y:=(false,[_])) (Zaq rfl rfl tyF0 rfl rfl rfl) rfl (Zat rfl) rfl (Zac (tups2 rfl rfl)))
  | (exfalso; omega)
 ·rw [e2] at KE
  have hT : stT X = .tups [(true,[.r true (int r),.own 2000001 0 L.length 1,.own 2000002 0 L.length 1,.own 2000003 0 M.length 3]),(false,[.r true (bool true)])]:=by rw [hX]; simp only [stT,rowC,hLe,Zbs,Zbt,hMe]; rfl
  have hH : stH X = [(2000001,.sl 3 1 true (ints (vsOf L))),(2000002,.sl 4 1 true (bools (gsOf L))),(2000003,.sl 70 3 true (edges M))]:=by rw [hX]; simp only [stH,hLe,Zbs,Zbt,hMe]; rfl
  rw [hT,hH]
  refine Zad (l:=[.cell 2 28,.tmp 3]) Try.func29 kRf rfl Try.ntmps29 rfl rfl ?_; simp only [dEnv,Nat.reduceAdd]
  repeat' (first|refine wk ?_|((first|refine' w_q rfl rfl ?xa rfl ?_|refine' v_q rfl rfl ?xa rfl ?_|refine' Zn rfl rfl (Zb rfl) rfl ?xa rfl ?_|refine' Zo rfl rfl (Zb rfl) rfl ?xa rfl ?_);case xa=>first|exact Zx tbOk rfl rfl rfl rfl (by first|omega|exact hc0) (by first|exact hx|exact hx0|exact hx1|exact hx2|exact hc)|exact Zam (a:=1) (b:=1 + m) tbOk rfl rfl rfl ⟨_,Za rfl⟩ ⟨_,(Za rfl).trans hd1⟩ oM oM|exact Zam (a:=1 + m) (b:=1 + m + w) tbOk rfl rfl rfl ⟨_,(Za rfl).trans hd1⟩ ⟨_,(Za rfl).trans hd2⟩ oM oM|exact Zm KN rfl ⟨Zf (Za rfl),Zf (Za rfl),Zf (Za rfl),trivial⟩|exact Zm KE rfl ⟨Zf (Za rfl),Zf (Za rfl),Zf (Za rfl),trivial⟩|exact Zm KO rfl ⟨Zq (Za rfl) ⟨Zd,Zaf (Zj rfl) hvi,Zaf (Zj rfl) hgi,Zaf (Zj rfl) hmi,trivial⟩,trivial⟩)|((first|refine' w_e rfl ?xa ?xb ?xc ?xe ?_|refine' v_e rfl ?xa ?xb ?xc ?xe ?_);(case xa=>first|exact Ze 43 rfl (Zg [(1000000000,8),(2000001,501),(2000002,502)] KV rfl ⟨Zh (Za rfl),asE,trivial⟩ sbH rfl)|exact Ze 54 rfl (Zg [(1000000000,8),(1000000001,501),(1000000002,502),(2000001,503)] KM rfl ⟨Zh (Za rfl),asE,trivial⟩ sbH rfl));(case xb|xc|xe=>rfl);try refine wkD ?_)|((first|refine' w_ey rfl rfl (Zb rfl) ?xa ?xb ?xc ?xe ?_|refine' v_ey rfl rfl (Zb rfl) ?xa ?xb ?xc ?xe ?_);(case xa=>first|exact Ze 43 rfl (Zg [(1000000000,8),(2000001,501),(2000002,502)] KV rfl ⟨Zh (Za rfl),asE,trivial⟩ sbH rfl)|exact Ze 54 rfl (Zg [(1000000000,8),(1000000001,501),(1000000002,502),(2000001,503)] KM rfl ⟨Zh (Za rfl),asE,trivial⟩ sbH rfl));(case xb|xc|xe=>rfl);try refine wkD ?_)|(refine wkB ?_ ?_<;>intro hg_<;>try exact wkX)|fail)
  all_goals first
  | exact Z4 [(2000001,501),(2000002,502),(2000003,503)] rfl sbH (Zau (x:=(true,_)) (y:=(false,[_])) (Zaq rfl rfl tyF0 rfl rfl rfl) rfl (Zat rfl) rfl (Zac (tups2 rfl rfl)))
  | (exfalso; omega)
theorem zip_of {vs : List Int} {gs : List Bool} (h : gs.length = vs.length) : vsOf (vs.zip gs) = vs ∧ gsOf (vs.zip gs) = gs:=by
 unfold vsOf gsOf
 exact ⟨List.map_fst_zip oM,List.map_snd_zip oM⟩
theorem f_ckAtI (nil : Bool) (D : List (List Int)) (hl : D.length ≤ 2000) (h0 : 0 < D.length) :
  FnS Try.prog 29 [.one (.r false (row nil 1 (rowsI D)))] [] (stT (ckAt D)) (stH (ckAt D)):=by
 have hx : (rowsI D)[(0 : Int).toNat]? = some (rowP D[0]):=rowsI_get h0
 have hD0 : D[0]? = some D[0]:=List.getElem?_eq_getElem h0
 generalize D[0] = b at *
 by_cases hh : ∃ ns,nbF 1 3 b = (some ns,true)
 ·obtain ⟨ns,hns⟩:=hh
  obtain ⟨hb1,hb2,hb3⟩:=nbF_yes hns
  match ns,hb2 with
  | [r,m',w'],_ =>
   have q1:=hb3 m' (by simp)
   have q2:=hb3 w' (by simp)
   obtain ⟨m,rfl⟩:=Int.eq_ofNat_of_zero_le q1.1
   obtain ⟨w,rfl⟩:=Int.eq_ofNat_of_zero_le q2.1
   have key : ∀ s,Ck D s → s.r = r ∧ s.vs.length = m ∧ s.ms.length = w:=fun s hs=>by
    obtain ⟨b',e1,e2⟩:=hs.ckI.head
    rw [hD0] at e1
    injection e1 with e1
    subst e1
    rw [hns] at e2
    simp only [Prod.mk.injEq,Option.some.injEq,List.cons.injEq,and_true] at e2
    omega
   by_cases hs : m + w + 2 ≤ D.length
   ·have hlt : 1 + m + w < D.length:=by omega
    have hc : (rowsI D)[((1 + m + w : Nat) : Int).toNat]? = some (rowP D[1 + m + w]):=Zbr hlt
    have hDc : D[1 + m + w]? = some D[1 + m + w]:=List.getElem?_eq_getElem hlt
    generalize D[1 + m + w] = c at *
    cases hv : rdAll rdV1 ((D.drop 1).take m) with
    | none =>
     have hX : ckAt D = none:=Zcm fun s hs'=>by
      obtain ⟨k1,k2,k3⟩:=key s hs'
      have:=hs'.ckI.vals
      rw [k2,hv] at this; cases this
     rw [hX]
     exact f_ckAtVals nil D b c r m w hl hx h0 hns hs hc hv
    | some L =>
     cases hm : rdAll rdM1 ((D.drop (1 + m)).take w) with
     | none =>
      have hX : ckAt D = none:=Zcm fun s hs'=>by
       obtain ⟨k1,k2,k3⟩:=key s hs'
       have:=hs'.ckI.msgs
       rw [k2,k3,hm] at this; cases this
      rw [hX]
      by_cases hLn : L = []
      ·subst hLn
       exact f_ckAtMsgsZ nil D b c r m w hl hx h0 hns hs hc hv hm
      ·exact f_ckAtMsgsO nil D b c r m w hl hx h0 hns hs hc L hv hLn hm
     | some M =>
      have hX1 : (∃ ns,nbF 4 0 c = (some ns,true)) → Sta.ok ⟨r,vsOf L,gsOf L,M⟩ = true → ckAt D = some ⟨r,vsOf L,gsOf L,M⟩:=fun ⟨ns,he⟩ hok=>by
       have hz : ns = []:=List.eq_nil_of_length_eq_zero (nbF_len he)
       rw [hz] at he
       exact ckAt_some (CkI.ck (D:=D) (m:=m) (w:=w) ⟨⟨b,hD0,hns⟩,hs,hv,hm,⟨c,hDc,he⟩⟩ hok)
      have hX0 : ((∀ ns,nbF 4 0 c ≠ (some ns,true)) ∨ Sta.ok ⟨r,vsOf L,gsOf L,M⟩ = false) → ckAt D = none:=fun hf=>Zcm fun s hs'=>by
       obtain ⟨k1,k2,k3⟩:=key s hs'
       have hI:=hs'.ckI
       rcases hf with hf | hf
       ·obtain ⟨c',e1,e2⟩:=hI.fin
        rw [k2,k3,hDc] at e1
        injection e1 with e1
        rw [← e1] at e2
        exact hf _ e2
       ·have e1:=hI.vals
        have e2:=hI.msgs
        rw [k2,hv] at e1
        rw [k2,k3,hm] at e2
        injection e1 with e1
        injection e2 with e2
        obtain ⟨z1,z2⟩:=zip_of (Sta.okF hs'.1).gl
        rw [e1,z1,z2,e2,← k1] at hf
        have:=hs'.1
        rw [show s = ⟨s.r,s.vs,s.gs,s.ms⟩ from rfl,hf] at this
        cases this
      by_cases hLn : L = []
      ·subst hLn
       by_cases hMn : M = []
       ·subst hMn
        exact f_ckAtEndZZ nil D b c r m w hl hx h0 hns hs hc hv hm _ hX0 hX1
       ·exact f_ckAtEndZO nil D b c r m w hl hx h0 hns hs hc hv M hm hMn _ hX0 hX1
      ·by_cases hMn : M = []
       ·subst hMn
        exact f_ckAtEndOZ nil D b c r m w hl hx h0 hns hs hc L hv hLn hm _ hX0 hX1
       ·exact f_ckAtEndOO nil D b c r m w hl hx h0 hns hs hc L hv hLn M hm hMn _ hX0 hX1
   ·have hX : ckAt D = none:=Zcm fun s hs'=>by
     obtain ⟨k1,k2,k3⟩:=key s hs'
     have:=hs'.ckI.len
     omega
    rw [hX]
    exact f_ckAtSize nil D b r m w hl oM oM hx h0 hns oM
 ·have hX : ckAt D = none:=Zcm fun s hs=>by
   obtain ⟨b',e1,e2⟩:=hs.ckI.head
   rw [hD0] at e1
   injection e1 with e1
   rw [← e1] at e2
   exact hh ⟨_,e2⟩
  rw [hX]
  exact f_ckAtHead nil D b hx h0 fun ns e=>hh ⟨ns,e⟩
theorem f_implLast (nil : Bool) (L : List (List Int)) (hl : L.length ≤ 1048576) :
    FnS Try.prog 9 [.one (.r false (row nil 1 (rowsI L)))] [] (stT (lastCk L)) (stH (lastCk L)) := by
  have hlenL := Zan L
  obtain ⟨X, hX⟩ : ∃ X, X = lastCk L := ⟨_, rfl⟩
  rw [← hX]
  by_cases hbig : L.length ≤ 2000
  · have hX0 : X = lastFrom L L.length := by rw [hX]; unfold lastCk; rw [if_pos hbig]
    clear hX
    refine Zad (l := [.cell 2 28, .tmp 3]) Try.func9 kRf rfl Try.ntmps9 rfl rfl ?_; simp only [dEnv, Nat.reduceAdd]
    repeat' (first|refine wk ?_|(refine wkB ?_ ?_<;>intro hg_<;>try exact wkX)|fail)
    have hw0 : IntKind.i64.wrap (((rowsI L).length : Int) - 1) = (L.length : Int) - 1 := by rw [hlenL]; exact IntWalk.i64_in _ oM
    obtain ⟨F, hFs⟩ : ∃ F : Nat → St, ∀ k, F k = mkS 28 [(4, .one (.r true (int ((k : Int) - 1)))), (2, .one (.ptr 2 0 0 0)), (0, .one (.r false (row nil 1 (rowsI L))))] [(2, .var 28 [.r true (int 0), Zc, Zc, Zc])] := ⟨_, fun _ => rfl⟩
    refine Zaa (fun k : Nat => k ≤ L.length ∧ X = lastFrom L k) F (fun k => k) L.length ⟨Nat.le_refl _, hX0⟩ (by rw [hFs];(refine Zi [] rfl ?_ ?_ <;> repeat' (first|refine wkS ?_ ?_|exact wkE|exact Zt hw0))) ?_
    rintro k ⟨hk, HX⟩
    clear hX0
    cases k with
    | zero =>
      have hXz : X = none := HX
      rw [hXz, hFs]
      unfold stT stH
      clear HX hFs hXz
      repeat' (first|refine wk ?_|(refine wkB ?_ ?_<;>intro hg_<;>try exact wkX)|fail)
      all_goals first
        | exact Z4 [] rfl sbH (Zau (x := (true, _)) (y := (false, [_])) (Zaq rfl rfl tyF0 rfl rfl rfl) rfl (Zat rfl) rfl (Zac (tups2 rfl rfl)))
        | (exfalso; omega)
    | succ m =>
      have KC := f_ckAtI nil (L.drop m) (by simp; omega) (by simp; omega)
      have hsl : ((rowsI L).drop m).take ((rowsI L).length - m) = rowsI (L.drop m) := by
        rw [Zbo, hlenL, List.take_of_length_le (by simp)]
      have e1 : (((m + 1 : Nat) : Int) - 1) = (m : Int) := by omega
      have hw1 : IntKind.i64.wrap ((m : Int) - 1) = (m : Int) - 1 := IntWalk.i64_in _ oM
      cases hc : ckAt (L.drop m) with
      | none =>
        have HX2 : X = lastFrom L m := by rw [HX, lastFrom, hc]
        have hfin : ∀ s' : St, Weak s' (F m) → ∃ x' : Nat, (x' ≤ L.length ∧ X = lastFrom L x') ∧ Weak s' (F x') ∧ x' < m + 1 := fun s' h => ⟨m, ⟨by omega, HX2⟩, h, by omega⟩
        rw [hFs] at hfin ⊢
        rw [e1]
        rw [hc, ← hsl] at KC
        unfold stT stH at KC
        clear hFs HX HX2 hsl
        repeat' (first|refine wk ?_|((first|refine' w_q rfl rfl ?xa rfl ?_|refine' v_q rfl rfl ?xa rfl ?_|refine' Zn rfl rfl (Zb rfl) rfl ?xa rfl ?_|refine' Zo rfl rfl (Zb rfl) rfl ?xa rfl ?_);case xa => exact Zam (a := m) (b := (rowsI L).length) tbOk rfl rfl rfl ⟨_, Za rfl⟩ rfl oM (Nat.le_refl _))|((first|refine' w_e rfl ?xa ?xb ?xc ?xe ?_|refine' v_e rfl ?xa ?xb ?xc ?xe ?_);(case xa => exact Ze 22 rfl (Zax (ys := [.one (row nil 1 (((rowsI L).drop m).take ((rowsI L).length - m)))]) [] KC rfl rfl ⟨Zf (Za rfl), trivial⟩ rfl rfl));(case xb|xc|xe=>rfl);try refine wkD ?_)|(refine wkB ?_ ?_<;>intro hg_<;>try exact wkX)|fail)
        all_goals first
          | (refine hfin _ ?_
             (refine Zi [] rfl ?_ ?_ <;> repeat' (first|refine wkS ?_ ?_|exact wkE|exact Zt hw1)))
          | (exfalso; omega)
      | some s =>
        have HX2 : X = some s := by rw [HX, lastFrom, hc]
        rw [HX2, hFs, e1]
        rw [hc, ← hsl] at KC
        clear hFs HX HX2 hc hsl
        obtain ⟨r, vs, gs, ms⟩ := s
        by_cases hvs : vs = []
        · subst hvs
          by_cases hms : ms = []
          · subst hms
            have hT : stT (some ⟨r, [], gs, []⟩) = .tups [(true, [.r true (int r), Zc, Zc, Zc]), (false, [.r true (bool true)])] := rfl
            have hH : stH (some ⟨r, [], gs, []⟩) = [] := rfl
            rw [hT, hH] at KC
            rw [hT, hH]
            clear hT hH
            repeat' (first|refine wk ?_|((first|refine' w_q rfl rfl ?xa rfl ?_|refine' v_q rfl rfl ?xa rfl ?_|refine' Zn rfl rfl (Zb rfl) rfl ?xa rfl ?_|refine' Zo rfl rfl (Zb rfl) rfl ?xa rfl ?_);case xa => exact Zam (a := m) (b := (rowsI L).length) tbOk rfl rfl rfl ⟨_, Za rfl⟩ rfl oM (Nat.le_refl _))|((first|refine' w_e rfl ?xa ?xb ?xc ?xe ?_|refine' v_e rfl ?xa ?xb ?xc ?xe ?_);(case xa => exact Ze 22 rfl (Zax (ys := [.one (row nil 1 (((rowsI L).drop m).take ((rowsI L).length - m)))]) [(2000001, 501), (2000002, 502), (2000003, 503)] KC rfl rfl ⟨Zf (Za rfl), trivial⟩ rfl rfl));(case xb|xc|xe=>rfl);try refine wkD ?_)|(refine wkB ?_ ?_<;>intro hg_<;>try exact wkX)|fail)
            all_goals first
              | exact Z4 [(2000001, 501), (2000002, 502), (2000003, 503)] rfl sbH (Zau (x := (true, _)) (y := (false, [_])) (Zaq rfl rfl tyF0 rfl rfl rfl) rfl (Zat rfl) rfl (Zac (tups2 rfl rfl)))
              | (exfalso; omega)
          · have hme : ms.isEmpty = false := by cases ms with
              | nil => exact absurd rfl hms
              | cons x y => rfl
            have hT : stT (some ⟨r, [], gs, ms⟩) = .tups [(true, [.r true (int r), Zc, Zc, .own 2000003 0 ms.length 3]), (false, [.r true (bool true)])] := by simp only [stT, rowC, hme]; rfl
            have hH : stH (some ⟨r, [], gs, ms⟩) = [(2000003, .sl 70 3 true (edges ms))] := by simp only [stH, hme]; rfl
            rw [hT, hH] at KC
            rw [hT, hH]
            clear hT hH
            repeat' (first|refine wk ?_|((first|refine' w_q rfl rfl ?xa rfl ?_|refine' v_q rfl rfl ?xa rfl ?_|refine' Zn rfl rfl (Zb rfl) rfl ?xa rfl ?_|refine' Zo rfl rfl (Zb rfl) rfl ?xa rfl ?_);case xa => exact Zam (a := m) (b := (rowsI L).length) tbOk rfl rfl rfl ⟨_, Za rfl⟩ rfl oM (Nat.le_refl _))|((first|refine' w_e rfl ?xa ?xb ?xc ?xe ?_|refine' v_e rfl ?xa ?xb ?xc ?xe ?_);(case xa => exact Ze 22 rfl (Zax (ys := [.one (row nil 1 (((rowsI L).drop m).take ((rowsI L).length - m)))]) [(2000001, 501), (2000002, 502), (2000003, 503)] KC rfl rfl ⟨Zf (Za rfl), trivial⟩ rfl rfl));(case xb|xc|xe=>rfl);try refine wkD ?_)|(refine wkB ?_ ?_<;>intro hg_<;>try exact wkX)|fail)
            all_goals first
              | exact Z4 [(2000001, 501), (2000002, 502), (2000003, 503)] rfl sbH (Zau (x := (true, _)) (y := (false, [_])) (Zaq rfl rfl tyF0 rfl rfl rfl) rfl (Zat rfl) rfl (Zac (tups2 rfl rfl)))
              | (exfalso; omega)
        · have hve : vs.isEmpty = false := by cases vs with
            | nil => exact absurd rfl hvs
            | cons x y => rfl
          by_cases hms : ms = []
          · subst hms
            have hT : stT (some ⟨r, vs, gs, []⟩) = .tups [(true, [.r true (int r), .own 2000001 0 vs.length 1, .own 2000002 0 gs.length 1, Zc]), (false, [.r true (bool true)])] := by simp only [stT, rowC, hve]; rfl
            have hH : stH (some ⟨r, vs, gs, []⟩) = [(2000001, .sl 3 1 true (ints vs)), (2000002, .sl 4 1 true (bools gs))] := by simp only [stH, hve]; rfl
            rw [hT, hH] at KC
            rw [hT, hH]
            clear hT hH
            repeat' (first|refine wk ?_|((first|refine' w_q rfl rfl ?xa rfl ?_|refine' v_q rfl rfl ?xa rfl ?_|refine' Zn rfl rfl (Zb rfl) rfl ?xa rfl ?_|refine' Zo rfl rfl (Zb rfl) rfl ?xa rfl ?_);case xa => exact Zam (a := m) (b := (rowsI L).length) tbOk rfl rfl rfl ⟨_, Za rfl⟩ rfl oM (Nat.le_refl _))|((first|refine' w_e rfl ?xa ?xb ?xc ?xe ?_|refine' v_e rfl ?xa ?xb ?xc ?xe ?_);(case xa => exact Ze 22 rfl (Zax (ys := [.one (row nil 1 (((rowsI L).drop m).take ((rowsI L).length - m)))]) [(2000001, 501), (2000002, 502), (2000003, 503)] KC rfl rfl ⟨Zf (Za rfl), trivial⟩ rfl rfl));(case xb|xc|xe=>rfl);try refine wkD ?_)|(refine wkB ?_ ?_<;>intro hg_<;>try exact wkX)|fail)
            all_goals first
              | exact Z4 [(2000001, 501), (2000002, 502), (2000003, 503)] rfl sbH (Zau (x := (true, _)) (y := (false, [_])) (Zaq rfl rfl tyF0 rfl rfl rfl) rfl (Zat rfl) rfl (Zac (tups2 rfl rfl)))
              | (exfalso; omega)
          · have hme : ms.isEmpty = false := by cases ms with
              | nil => exact absurd rfl hms
              | cons x y => rfl
            have hT : stT (some ⟨r, vs, gs, ms⟩) = .tups [(true, [.r true (int r), .own 2000001 0 vs.length 1, .own 2000002 0 gs.length 1, .own 2000003 0 ms.length 3]), (false, [.r true (bool true)])] := by simp only [stT, rowC, hve, hme]; rfl
            have hH : stH (some ⟨r, vs, gs, ms⟩) = [(2000001, .sl 3 1 true (ints vs)), (2000002, .sl 4 1 true (bools gs)), (2000003, .sl 70 3 true (edges ms))] := by simp only [stH, hve, hme]; rfl
            rw [hT, hH] at KC
            rw [hT, hH]
            clear hT hH
            repeat' (first|refine wk ?_|((first|refine' w_q rfl rfl ?xa rfl ?_|refine' v_q rfl rfl ?xa rfl ?_|refine' Zn rfl rfl (Zb rfl) rfl ?xa rfl ?_|refine' Zo rfl rfl (Zb rfl) rfl ?xa rfl ?_);case xa => exact Zam (a := m) (b := (rowsI L).length) tbOk rfl rfl rfl ⟨_, Za rfl⟩ rfl oM (Nat.le_refl _))|((first|refine' w_e rfl ?xa ?xb ?xc ?xe ?_|refine' v_e rfl ?xa ?xb ?xc ?xe ?_);(case xa => exact Ze 22 rfl (Zax (ys := [.one (row nil 1 (((rowsI L).drop m).take ((rowsI L).length - m)))]) [(2000001, 501), (2000002, 502), (2000003, 503)] KC rfl rfl ⟨Zf (Za rfl), trivial⟩ rfl rfl));(case xb|xc|xe=>rfl);try refine wkD ?_)|(refine wkB ?_ ?_<;>intro hg_<;>try exact wkX)|fail)
            all_goals first
              | exact Z4 [(2000001, 501), (2000002, 502), (2000003, 503)] rfl sbH (Zau (x := (true, _)) (y := (false, [_])) (Zaq rfl rfl tyF0 rfl rfl rfl) rfl (Zat rfl) rfl (Zac (tups2 rfl rfl)))
              | (exfalso; omega)
  · have hXz : X = none := by rw [hX]; unfold lastCk; rw [if_neg hbig]
    rw [hXz]
    unfold stT stH
    clear hX hXz
    refine Zad (l := [.cell 2 28, .tmp 3]) Try.func9 kRf rfl Try.ntmps9 rfl rfl ?_; simp only [dEnv, Nat.reduceAdd]
    repeat' (first|refine wk ?_|(refine wkB ?_ ?_<;>intro hg_<;>try exact wkX)|fail)
    all_goals first
      | exact Z4 [] rfl sbH (Zau (x := (true, _)) (y := (false, [_])) (Zaq rfl rfl tyF0 rfl rfl rfl) rfl (Zat rfl) rfl (Zac (tups2 rfl rfl)))
      | (exfalso; omega)
end Go.Proofs.Ytmkijbfiilpccaa.Abs
