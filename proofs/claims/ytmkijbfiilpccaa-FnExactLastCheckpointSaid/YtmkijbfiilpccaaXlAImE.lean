/- Reading graphs by states: the program's reader of bytes, ReadGraph. No statement of the seat is proved here. -/
import Derived.Lib.Hide
import Derived.RangeFuncWrites
import Derived.RangeFuncFrom
import Derived.RangeFuncCalls
import Derived.OrdersIn
import Derived.TacticsIn
import Derived.Test.YtmkijbfiilpccaaXlTy
import Derived.Test.YtmkijbfiilpccaaXlAbsX
import Derived.Test.YtmkijbfiilpccaaXlALift
import Derived.Test.YtmkijbfiilpccaaXlASpCD
import Derived.Test.YtmkijbfiilpccaaXlAScanI
set_option linter.unusedSimpArgs false
set_option linter.unusedVariables false
set_option maxRecDepth 100000
set_option maxHeartbeats 4000000
namespace Go.Proofs.Ytmkijbfiilpccaa.Abs
open Go.RowKit
open R (val row ref)
def brH (k : Nat) (m1 m2 nil : Bool) (xs : List Int) (i : Nat) : List (Nat × Ob):=[(k,.var 102 [.r m1 (row nil 1 (ints xs)),.r m2 (int (i : Int))])]
def numF : Nat → Nat → Int → Int → List Int → Nat → Int × Bool × Nat
 | 0,_,_,_,_,i=>(0,false,i)
 | f + 1,d,n,s,xs,i=>match xs[i]? with
  | none=>(0,false,i)
  | some b=>if 128 ≤ b then numF f (d + 1) (n + (b - 128) * s) (s * 128) xs (i + 1) else if b = 0 ∧ 0 < d then (0,false,i + 1) else (n + b * s,decide (n + b * s ≤ 1000000),i + 1)
theorem numF_dec : ∀ (f d : Nat) (n s : Int) (xs : List Int) (i : Nat),decF f d n s (xs.drop i) = if (numF f d n s xs i).2.1 = true then some ((numF f d n s xs i).1,d + ((numF f d n s xs i).2.2 - i)) else none
 | 0,d,n,s,xs,i=>by simp [decF,numF]
 | f + 1,d,n,s,xs,i=>by
  cases hx : xs[i]? with
  | none =>
   have : xs.length ≤ i:=by simpa using hx
   rw [List.drop_of_length_le this]
   simp [decF,numF,hx]
  | some b =>
   obtain ⟨hi,hb⟩:=List.getElem?_eq_some_iff.1 hx
   rw [List.drop_eq_getElem_cons hi,hb]
   simp only [decF,numF,hx]
   by_cases h1 : 128 ≤ b
   ·rw [if_pos h1,if_pos h1,numF_dec f (d + 1)]
    have hle : ∀ (f d : Nat) (n s : Int) (i : Nat),i ≤ (numF f d n s xs i).2.2:=by
     intro f
     induction f with
     | zero=>intro d n s i; exact Nat.le_refl _
     | succ f ih =>
      intro d n s i
      simp only [numF]
      split
      ·exact Nat.le_refl _
      ·split
       ·exact Nat.le_trans (Nat.le_succ i) (ih _ _ _ _)
       ·split<;>exact Nat.le_succ i
    have:=hle f (d + 1) (n + (b - 128) * s) (s * 128) (i + 1)
    by_cases h2 : (numF f (d + 1) (n + (b - 128) * s) (s * 128) xs (i + 1)).2.1 = true
    ·rw [if_pos h2,if_pos h2]
     congr 2
     omega
    ·rw [if_neg h2,if_neg h2]
   ·rw [if_neg h1,if_neg h1]
    by_cases h2 : b = 0 ∧ 0 < d
    ·rw [if_pos h2,if_pos h2]; simp
    ·rw [if_neg h2,if_neg h2]
     by_cases h3 : n + b * s ≤ 1000000
     ·rw [if_pos h3]; simp [h3]
     ·rw [if_neg h3]; simp [h3]
theorem numF_bd {xs : List Int} : ∀ (f d : Nat) (n s : Int) (i : Nat),i ≤ xs.length → (numF f d n s xs i).2.2 ≤ xs.length
 | 0,_,_,_,i,h=>h
 | f + 1,d,n,s,i,h=>by
  simp only [numF]
  split
  ·exact h
  ·rename_i b hx
   have hi : i < xs.length:=(List.getElem?_eq_some_iff.1 hx).1
   split
   ·exact numF_bd f _ _ _ _ oM
   ·split<;>exact hi
theorem Za6 {P : Program} {s : St} {a b : ResultVar} {x y : P0} {ρ : List (Nat × Nat)} (h1 : RvOk P s a x) (h2 : RvOk P s b y) (hv : ([x,y].all fun x=>match x with | .one (.val _)=>true | _=>false) = true) : ∃ d0,RetD P s [a,b] d0 ∧ DImp d0 (D.ren ρ (.tup true [x,y])) :=
 ⟨.tup true [x,y],by cases a<;>exact .inl ⟨_,rfl,rfl,⟨h1,h2,trivial⟩,hv⟩,Zak rfl⟩
theorem f_next (m1 m2 nil : Bool) (xs : List Int) (i : Nat) (hx : xs.length ≤ 2000) (hi : i ≤ 2000) :
  FnS Try.prog 97 [.one (.ptr 1000000000 0 0 0)] (brH 1000000000 m1 m2 nil xs i) (.tup true [iP (match xs[i]? with | some b=>b | none=>0),.one (bool (decide (i < xs.length)))]) (if i < xs.length then brH 1000000000 m1 true nil xs (i + 1) else brH 1000000000 m1 m2 nil xs i):=by
 have hl:=Zp xs
 unfold brH
 by_cases h : i < xs.length
 ·rw [if_pos h,List.getElem?_eq_getElem h]
  dsimp only
  rw [show decide (i < xs.length) = true by simp [h]]
  have hix:=ints_at h
  have hw : IntKind.i64.wrap ((i : Int) + 1) = ((i + 1 : Nat) : Int):=by rw [IntWalk.i64_in _ oM]; omega
  generalize xs[i] = z at *
  refine Zac (l:=[.tmp 2,.tmp 3]) Try.func97 kRf rfl Try.ntmps97 rfl rfl ?_; simp only [dEnv,Nat.reduceAdd]
  repeat' (first|refine wk ?_|((first|refine' w_q rfl rfl ?xa rfl ?_|refine' v_q rfl rfl ?xa rfl ?_|refine' Zh rfl rfl (Zb rfl) rfl ?xa rfl ?_|refine' Zi rfl rfl (Zb rfl) rfl ?xa rfl ?_);case xa=>exact Zn tbOk rfl rfl rfl rfl oM (by exact hix))|(refine wkB ?_ ?_<;>intro hg_<;>try exact wkX)|fail)
  all_goals first
   | exact Zu [] rfl (by (repeat' (first|exact trivial|refine subHR_cons rfl ?_ ?_|rfl|exact var2 rfl (cell_int hw)))) (Za6 (Zr rfl (Z4 rfl)) (Zr rfl (Zo rfl)) rfl)
 ·rw [if_neg h,List.getElem?_eq_none oM]
  dsimp only
  rw [show decide (i < xs.length) = false by simp [h]]
  refine Zac (l:=[.tmp 2,.tmp 3]) Try.func97 kRf rfl Try.ntmps97 rfl rfl ?_; simp only [dEnv,Nat.reduceAdd]
  repeat' (first|refine wk ?_|(refine wkB ?_ ?_<;>intro hg_<;>try exact wkX)|fail)
  all_goals first
   | exact Zu [] rfl sbH (Za6 (Zr rfl (Z4 rfl)) (Zr rfl (Zo rfl)) rfl)
theorem f_number (m1 m2 nil : Bool) (xs : List Int) (i : Nat) (hx : bytesOk xs = true) (hi : i < xs.length) :
    FnS Try.prog 85 [.one (.ptr 1000000000 0 0 0)] (brH 1000000000 m1 m2 nil xs i) (.tup true [iP (numF 3 0 0 1 xs i).1, .one (bool (numF 3 0 0 1 xs i).2.1)]) (brH 1000000000 m1 true nil xs (numF 3 0 0 1 xs i).2.2) := by
  have hl := bytesOk_len hx
  have hli := Zp xs
  have KN := fun (m2 : Bool) (i : Nat) (h : i ≤ 2000) => f_next m1 m2 nil xs i hl h
  obtain ⟨J, hJ⟩ : ∃ J, J = numF 3 0 0 1 xs i := ⟨_, rfl⟩
  rw [← hJ]
  unfold brH at *
  refine Zac (l := [.tmp 2, .tmp 3]) Try.func85 kRf rfl Try.ntmps85 rfl rfl ?_; simp only [dEnv, Nat.reduceAdd]
  repeat' (first|refine wk ?_|(refine wkB ?_ ?_<;>intro hg_<;>try exact wkX)|fail)
  refine Z7 (fun x : Nat × Int × Int × Nat × Bool => (x.1 = 0 ∧ x.2.1 = 0 ∧ x.2.2.1 = 1 ∧ x.2.2.2.1 = i ∧ J = numF 3 0 0 1 xs i) ∨ (x.1 = 1 ∧ 0 ≤ x.2.1 ∧ x.2.1 ≤ 127 ∧ x.2.2.1 = 128 ∧ x.2.2.2.1 ≤ xs.length ∧ x.2.2.2.2 = true ∧ J = numF 2 1 x.2.1 128 xs x.2.2.2.1) ∨ (x.1 = 2 ∧ 0 ≤ x.2.1 ∧ x.2.1 ≤ 16383 ∧ x.2.2.1 = 16384 ∧ x.2.2.2.1 ≤ xs.length ∧ x.2.2.2.2 = true ∧ J = numF 1 2 x.2.1 16384 xs x.2.2.2.1) ∨ (x.1 = 3 ∧ x.2.2.2.2 = true ∧ J = (0, false, x.2.2.2.1)))
    (fun x => mkS 44 [(6, .one (.r true (int x.1))), (5, .one (.r true (int x.2.2.1))), (4, .one (.r true (int x.2.1))), (0, .one (.ptr 1000000000 0 0 0))] [(1000000000, .var 102 [.r m1 (row nil 1 (ints xs)), .r x.2.2.2.2 (int (x.2.2.2.1 : Int))])]) (fun x => 4 - x.1) (0, 0, 1, i, m2) (.inl ⟨rfl, rfl, rfl, rfl, hJ⟩) (by (refine Zg [] rfl ?_ ?_ <;>exact wkW)) ?_
  rintro ⟨d, n, s, p, mm⟩ hI
  dsimp only at hI ⊢
  rcases hI with ⟨rfl, rfl, rfl, rfl, hE⟩ | ⟨rfl, hn0, hn1, rfl, hp, rfl, hE⟩ | ⟨rfl, hn0, hn1, rfl, hp, rfl, hE⟩ | ⟨rfl, rfl, hE⟩
  · have K := KN mm p oM
    simp only [numF] at hE
    by_cases hlt : p < xs.length
    · obtain ⟨z0, z1⟩ := Zbq hx p hlt
      rw [List.getElem?_eq_getElem hlt] at hE K
      rw [if_pos hlt, show decide (p < xs.length) = true by simp [hlt]] at K
      dsimp only at hE K
      generalize xs[p] = z at *
      have hw0 : IntKind.i64.wrap (z - 128) = z - 128 := IntWalk.i64_in _ oM
      have hw1 : IntKind.i64.wrap ((z - 128) * 1) = (z - 128) * 1 := IntWalk.i64_in _ oM
      have hw2 : IntKind.i64.wrap (0 + (z - 128) * 1) = 0 + (z - 128) * 1 := IntWalk.i64_in _ oM
      have hw3 : IntKind.i64.wrap ((1 : Int) * 128) = 1 * 128 := by decide
      have hw4 : IntKind.i64.wrap (((0 : Nat) : Int) + 1) = ((0 + 1 : Nat) : Int) := by decide
      have hw5 : IntKind.i64.wrap (z * 1) = z * 1 := IntWalk.i64_in _ oM
      have hw6 : IntKind.i64.wrap (0 + z * 1) = 0 + z * 1 := IntWalk.i64_in _ oM
      by_cases hb : 128 ≤ z
      · rw [if_pos hb] at hE
        clear KN
        repeat' (first|refine wk ?_|((first|refine' w_e rfl ?xa ?xb ?xc ?xe ?_|refine' v_e rfl ?xa ?xb ?xc ?xe ?_);(case xa => exact Zj 15 rfl (Zm [] K rfl ⟨Zl (Za rfl), trivial⟩ sbH rfl));(case xb|xc|xe=>rfl);try refine wkD ?_)|(refine wkB ?_ ?_<;>intro hg_<;>try exact wkX)|fail)
        all_goals first
          | (exfalso; omega)
          | (refine ⟨(0 + 1, 0 + (z - 128) * 1, 1 * 128, p + 1, true), .inr (.inl ⟨rfl, by dsimp only; omega, by dsimp only; omega, rfl, by dsimp only; omega, rfl, hE⟩), ?_, by dsimp only; omega⟩
             (refine Zg [] rfl ?_ ?_ <;> repeat' (first|refine wkS ?_ ?_|exact wkE|exact Zq (by rw [hw0, hw1, hw2])|exact Zq hw3|exact Zq hw4)))
      · rw [if_neg hb] at hE
        by_cases hz : z = 0 ∧ 0 < 0
        · rw [if_pos hz] at hE
          obtain ⟨hz1, hz2⟩ := hz
          subst hz1 hE
          clear KN
          repeat' (first|refine wk ?_|((first|refine' w_e rfl ?xa ?xb ?xc ?xe ?_|refine' v_e rfl ?xa ?xb ?xc ?xe ?_);(case xa => exact Zj 15 rfl (Zm [] K rfl ⟨Zl (Za rfl), trivial⟩ sbH rfl));(case xb|xc|xe=>rfl);try refine wkD ?_)|(refine wkB ?_ ?_<;>intro hg_<;>try exact wkX)|fail)
          all_goals first
            | (exfalso; omega)
            | exact Zu [] rfl sbH (Za6 (Zr rfl (Z4 rfl)) (Zr rfl (Zo rfl)) rfl)
        · rw [if_neg hz] at hE
          subst hE
          clear KN
          repeat' (first|refine wk ?_|((first|refine' w_e rfl ?xa ?xb ?xc ?xe ?_|refine' v_e rfl ?xa ?xb ?xc ?xe ?_);(case xa => exact Zj 15 rfl (Zm [] K rfl ⟨Zl (Za rfl), trivial⟩ sbH rfl));(case xb|xc|xe=>rfl);try refine wkD ?_)|(refine wkB ?_ ?_<;>intro hg_<;>try exact wkX)|fail)
          all_goals first
            | (exfalso; omega)
            | exact Zu [] rfl sbH (Za6 (Zr rfl (Z4 (by rw [hw5, hw6]))) (Zr rfl (Zo (by rw [hw5, hw6]))) rfl)
    · exfalso; omega
  · have K := KN true p oM
    simp only [numF] at hE
    by_cases hlt : p < xs.length
    · obtain ⟨z0, z1⟩ := Zbq hx p hlt
      rw [List.getElem?_eq_getElem hlt] at hE K
      rw [if_pos hlt, show decide (p < xs.length) = true by simp [hlt]] at K
      dsimp only at hE K
      generalize xs[p] = z at *
      have hw0 : IntKind.i64.wrap (z - 128) = z - 128 := IntWalk.i64_in _ oM
      have hw1 : IntKind.i64.wrap ((z - 128) * 128) = (z - 128) * 128 := IntWalk.i64_in _ oM
      have hw2 : IntKind.i64.wrap (n + (z - 128) * 128) = n + (z - 128) * 128 := IntWalk.i64_in _ oM
      have hw3 : IntKind.i64.wrap ((128 : Int) * 128) = 128 * 128 := by decide
      have hw4 : IntKind.i64.wrap (((1 : Nat) : Int) + 1) = ((1 + 1 : Nat) : Int) := by decide
      have hw5 : IntKind.i64.wrap (z * 128) = z * 128 := IntWalk.i64_in _ oM
      have hw6 : IntKind.i64.wrap (n + z * 128) = n + z * 128 := IntWalk.i64_in _ oM
      by_cases hb : 128 ≤ z
      · rw [if_pos hb] at hE
        clear KN
        repeat' (first|refine wk ?_|((first|refine' w_e rfl ?xa ?xb ?xc ?xe ?_|refine' v_e rfl ?xa ?xb ?xc ?xe ?_);(case xa => exact Zj 15 rfl (Zm [] K rfl ⟨Zl (Za rfl), trivial⟩ sbH rfl));(case xb|xc|xe=>rfl);try refine wkD ?_)|(refine wkB ?_ ?_<;>intro hg_<;>try exact wkX)|fail)
        all_goals first
          | (exfalso; omega)
          | (refine ⟨(1 + 1, n + (z - 128) * 128, 128 * 128, p + 1, true), .inr (.inr (.inl ⟨rfl, by dsimp only; omega, by dsimp only; omega, rfl, by dsimp only; omega, rfl, hE⟩)), ?_, by dsimp only; omega⟩
             (refine Zg [] rfl ?_ ?_ <;> repeat' (first|refine wkS ?_ ?_|exact wkE|exact Zq (by rw [hw0, hw1, hw2])|exact Zq hw3|exact Zq hw4)))
      · rw [if_neg hb] at hE
        by_cases hz : z = 0 ∧ 0 < 1
        · rw [if_pos hz] at hE
          obtain ⟨hz1, hz2⟩ := hz
          subst hz1 hE
          clear KN
          repeat' (first|refine wk ?_|((first|refine' w_e rfl ?xa ?xb ?xc ?xe ?_|refine' v_e rfl ?xa ?xb ?xc ?xe ?_);(case xa => exact Zj 15 rfl (Zm [] K rfl ⟨Zl (Za rfl), trivial⟩ sbH rfl));(case xb|xc|xe=>rfl);try refine wkD ?_)|(refine wkB ?_ ?_<;>intro hg_<;>try exact wkX)|fail)
          all_goals first
            | (exfalso; omega)
            | exact Zu [] rfl sbH (Za6 (Zr rfl (Z4 rfl)) (Zr rfl (Zo rfl)) rfl)
        · rw [if_neg hz] at hE
          subst hE
          clear KN
          repeat' (first|refine wk ?_|((first|refine' w_e rfl ?xa ?xb ?xc ?xe ?_|refine' v_e rfl ?xa ?xb ?xc ?xe ?_);(case xa => exact Zj 15 rfl (Zm [] K rfl ⟨Zl (Za rfl), trivial⟩ sbH rfl));(case xb|xc|xe=>rfl);try refine wkD ?_)|(refine wkB ?_ ?_<;>intro hg_<;>try exact wkX)|fail)
          all_goals first
            | (exfalso; omega)
            | exact Zu [] rfl sbH (Za6 (Zr rfl (Z4 (by rw [hw5, hw6]))) (Zr rfl (Zo (by rw [hw5, hw6]))) rfl)
    · rw [List.getElem?_eq_none oM] at hE K
      rw [if_neg hlt, show decide (p < xs.length) = false by simp [hlt]] at K
      dsimp only at hE K
      subst hE
      clear KN
      repeat' (first|refine wk ?_|((first|refine' w_e rfl ?xa ?xb ?xc ?xe ?_|refine' v_e rfl ?xa ?xb ?xc ?xe ?_);(case xa => exact Zj 15 rfl (Zm [] K rfl ⟨Zl (Za rfl), trivial⟩ sbH rfl));(case xb|xc|xe=>rfl);try refine wkD ?_)|(refine wkB ?_ ?_<;>intro hg_<;>try exact wkX)|fail)
      all_goals first
        | (exfalso; omega)
        | exact Zu [] rfl sbH (Za6 (Zr rfl (Z4 rfl)) (Zr rfl (Zo rfl)) rfl)
  · have K := KN true p oM
    simp only [numF] at hE
    by_cases hlt : p < xs.length
    · obtain ⟨z0, z1⟩ := Zbq hx p hlt
      rw [List.getElem?_eq_getElem hlt] at hE K
      rw [if_pos hlt, show decide (p < xs.length) = true by simp [hlt]] at K
      dsimp only at hE K
      generalize xs[p] = z at *
      have hw0 : IntKind.i64.wrap (z - 128) = z - 128 := IntWalk.i64_in _ oM
      have hw1 : IntKind.i64.wrap ((z - 128) * 16384) = (z - 128) * 16384 := IntWalk.i64_in _ oM
      have hw2 : IntKind.i64.wrap (n + (z - 128) * 16384) = n + (z - 128) * 16384 := IntWalk.i64_in _ oM
      have hw3 : IntKind.i64.wrap ((16384 : Int) * 128) = 16384 * 128 := by decide
      have hw4 : IntKind.i64.wrap (((2 : Nat) : Int) + 1) = ((2 + 1 : Nat) : Int) := by decide
      have hw5 : IntKind.i64.wrap (z * 16384) = z * 16384 := IntWalk.i64_in _ oM
      have hw6 : IntKind.i64.wrap (n + z * 16384) = n + z * 16384 := IntWalk.i64_in _ oM
      by_cases hb : 128 ≤ z
      · rw [if_pos hb] at hE
        clear KN
        repeat' (first|refine wk ?_|((first|refine' w_e rfl ?xa ?xb ?xc ?xe ?_|refine' v_e rfl ?xa ?xb ?xc ?xe ?_);(case xa => exact Zj 15 rfl (Zm [] K rfl ⟨Zl (Za rfl), trivial⟩ sbH rfl));(case xb|xc|xe=>rfl);try refine wkD ?_)|(refine wkB ?_ ?_<;>intro hg_<;>try exact wkX)|fail)
        all_goals first
          | (exfalso; omega)
          | (refine ⟨(2 + 1, n + (z - 128) * 16384, 16384 * 128, p + 1, true), .inr (.inr (.inr ⟨rfl, rfl, hE⟩)), ?_, by dsimp only; omega⟩
             (refine Zg [] rfl ?_ ?_ <;> repeat' (first|refine wkS ?_ ?_|exact wkE|exact Zq (by rw [hw0, hw1, hw2])|exact Zq hw3|exact Zq hw4)))
      · rw [if_neg hb] at hE
        by_cases hz : z = 0 ∧ 0 < 2
        · rw [if_pos hz] at hE
          obtain ⟨hz1, hz2⟩ := hz
          subst hz1 hE
          clear KN
          repeat' (first|refine wk ?_|((first|refine' w_e rfl ?xa ?xb ?xc ?xe ?_|refine' v_e rfl ?xa ?xb ?xc ?xe ?_);(case xa => exact Zj 15 rfl (Zm [] K rfl ⟨Zl (Za rfl), trivial⟩ sbH rfl));(case xb|xc|xe=>rfl);try refine wkD ?_)|(refine wkB ?_ ?_<;>intro hg_<;>try exact wkX)|fail)
          all_goals first
            | (exfalso; omega)
            | exact Zu [] rfl sbH (Za6 (Zr rfl (Z4 rfl)) (Zr rfl (Zo rfl)) rfl)
        · rw [if_neg hz] at hE
          subst hE
          clear KN
          repeat' (first|refine wk ?_|((first|refine' w_e rfl ?xa ?xb ?xc ?xe ?_|refine' v_e rfl ?xa ?xb ?xc ?xe ?_);(case xa => exact Zj 15 rfl (Zm [] K rfl ⟨Zl (Za rfl), trivial⟩ sbH rfl));(case xb|xc|xe=>rfl);try refine wkD ?_)|(refine wkB ?_ ?_<;>intro hg_<;>try exact wkX)|fail)
          all_goals first
            | (exfalso; omega)
            | exact Zu [] rfl sbH (Za6 (Zr rfl (Z4 (by rw [hw5, hw6]))) (Zr rfl (Zo (by rw [hw5, hw6]))) rfl)
    · rw [List.getElem?_eq_none oM] at hE K
      rw [if_neg hlt, show decide (p < xs.length) = false by simp [hlt]] at K
      dsimp only at hE K
      subst hE
      clear KN
      repeat' (first|refine wk ?_|((first|refine' w_e rfl ?xa ?xb ?xc ?xe ?_|refine' v_e rfl ?xa ?xb ?xc ?xe ?_);(case xa => exact Zj 15 rfl (Zm [] K rfl ⟨Zl (Za rfl), trivial⟩ sbH rfl));(case xb|xc|xe=>rfl);try refine wkD ?_)|(refine wkB ?_ ?_<;>intro hg_<;>try exact wkX)|fail)
      all_goals first
        | (exfalso; omega)
        | exact Zu [] rfl sbH (Za6 (Zr rfl (Z4 rfl)) (Zr rfl (Zo rfl)) rfl)
  · subst hE
    clear KN
    repeat' (first|refine wk ?_|(refine wkB ?_ ?_<;>intro hg_<;>try exact wkX)|fail)
    all_goals first
      | (exfalso; omega)
      | exact Zu [] rfl sbH (Za6 (Zr rfl (Z4 rfl)) (Zr rfl (Zo rfl)) rfl)
theorem f_brDone (m1 m2 nil : Bool) (xs : List Int) (i : Nat) : FnS Try.prog 86 [.one (.ptr 1000000000 0 0 0)] (brH 1000000000 m1 m2 nil xs i) (.one (.r true (bool (decide (i = xs.length))))) (brH 1000000000 m1 m2 nil xs i):=by
 have hl:=Zp xs
 unfold brH
 refine Zac (l:=[.tmp 2]) Try.func86 kRf rfl Try.ntmps86 rfl rfl ?_; simp only [dEnv,Nat.reduceAdd]
 repeat' (first|refine wk ?_|(refine wkB ?_ ?_<;>intro hg_<;>try exact wkX)|fail)
 all_goals first
  | exact Zu [] rfl sbH (Zay rfl rfl (by rw [hl,Bool.eq_iff_iff];simp;omega))
end Go.Proofs.Ytmkijbfiilpccaa.Abs
