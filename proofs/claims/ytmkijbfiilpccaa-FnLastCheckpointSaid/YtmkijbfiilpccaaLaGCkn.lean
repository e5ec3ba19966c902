/- ScanFrames of the program. No statement of the seat is proved here. -/
import Derived.RangeFuncWrites
import Derived.Lib.Hide
import Derived.Test.YtmkijbfiilpccaaLaTy
import Derived.Test.YtmkijbfiilpccaaLaARound
import Derived.Test.YtmkijbfiilpccaaLaASpCD
import Derived.Test.YtmkijbfiilpccaaLaAImC
import Derived.Test.YtmkijbfiilpccaaLaGStaCk
import Derived.Test.YtmkijbfiilpccaaLaAScanI
set_option linter.unusedSimpArgs false
set_option linter.unusedVariables false
set_option maxRecDepth 100000
set_option maxHeartbeats 8000000
namespace Go.Proofs.Ytmkijbfiilpccaa.Abs
open Go.RowKit
open R (val row ref)
open Go.Shelf
attribute [local go_sem] Oper.semAt_some
theorem ovar1s {E : TypeId} {a b : Cell} (h : a = b) : Ob.var E [a] = .var E [b]:=by rw [h]
def EnvL (ι : Nat → Nat × Nat) (base : Nat) (c : Cx) (tm : Array Value) : List (Nat × D) → Prop
 | []=>True
 | (t,d) :: l=>d.p ι base c (tm.getD t undef) ∧ EnvL ι base c tm l
theorem look_env {ι : Nat → Nat × Nat} {base : Nat} {c : Cx} {tm : Array Value} : ∀ {l : List (Nat × D)},EnvL ι base c tm l → ∀ t,(look l t).p ι base c (tm.getD t undef)
 | [],_,t=>trivial
 | (u,d) :: l,⟨h1,h2⟩,t=>by
  by_cases e : t = u
  ·subst e
   show (upd (look l) t d t).p _ _ _ _
   rw [upd_same]; exact h1
  ·show (upd (look l) u d t).p _ _ _ _
   rw [upd_ne _ _ e]; exact look_env h2 t
end Go.Proofs.Ytmkijbfiilpccaa.Abs
set_option linter.unusedSimpArgs false
set_option linter.unusedVariables false
namespace Go.Proofs.Ytmkijbfiilpccaa.Abs
open Go.RowKit
open R (val row ref)
def brH (k : Nat) (m1 m2 nil : Bool) (xs : List Int) (i : Nat) : List (Nat × Ob):=[(k,.var 102 [.r m1 (row nil 1 (ints xs)),.r m2 (int (i : Int))])]
def numF : Nat → Nat → Int → Int → List Int → Nat → Int × Bool × Nat
 | 0,_,_,_,_,i=>(0,false,i)
 | f + 1,d,n,s,xs,i=>match xs[i]? with
  | none=>(0,false,i)
  | some b=>if 128 ≤ b then numF f (d + 1) (n + (b - 128) * s) (s * 128) xs (i + 1) else if b = 0 ∧ 0 < d then (0,false,i + 1) else (n + b * s,decide (n + b * s ≤ 1000000),i + 1)
theorem numF_dec : ∀ (f d : Nat) (n s : Int) (xs : List Int) (i : Nat),decF f d n s (xs.drop i) = if (numF f d n s xs i).2.1 = true then some ((numF f d n s xs i).1,d + ((numF f d n s xs i).2.2 - i)) else none
 | 0,d,n,s,xs,i=>by simp [decF,numF]
 | f + 1,d,n,s,xs,i=>by
  cases hx : xs[i]? with
  | none =>
   have : xs.length ≤ i:=by simpa using hx
   rw [List.drop_of_length_le this]
   simp [decF,numF,hx]
  | some b =>
   obtain ⟨hi,hb⟩:=List.getElem?_eq_some_iff.1 hx
   rw [List.drop_eq_getElem_cons hi,hb]
   simp only [decF,numF,hx]
   by_cases h1 : 128 ≤ b
   ·rw [if_pos h1,if_pos h1,numF_dec f (d + 1)]
    have hle : ∀ (f d : Nat) (n s : Int) (i : Nat),i ≤ (numF f d n s xs i).2.2:=by
     intro f
     induction f with
     | zero=>intro d n s i; exact Nat.le_refl _
     | succ f ih =>
      intro d n s i
      simp only [numF]
      split
      ·exact Nat.le_refl _
      ·split
       ·exact Nat.le_trans (Nat.le_succ i) (ih _ _ _ _)
       ·split<;>exact Nat.le_succ i
    have:=hle f (d + 1) (n + (b - 128) * s) (s * 128) (i + 1)
    by_cases h2 : (numF f (d + 1) (n + (b - 128) * s) (s * 128) xs (i + 1)).2.1 = true
    ·rw [if_pos h2,if_pos h2]
     congr 2
     omega
    ·rw [if_neg h2,if_neg h2]
   ·rw [if_neg h1,if_neg h1]
    by_cases h2 : b = 0 ∧ 0 < d
    ·rw [if_pos h2,if_pos h2]; simp
    ·rw [if_neg h2,if_neg h2]
     by_cases h3 : n + b * s ≤ 1000000
     ·rw [if_pos h3]; simp [h3]
     ·rw [if_neg h3]; simp [h3]
theorem numF_bd {xs : List Int} : ∀ (f d : Nat) (n s : Int) (i : Nat),i ≤ xs.length → (numF f d n s xs i).2.2 ≤ xs.length
 | 0,_,_,_,i,h=>h
 | f + 1,d,n,s,i,h=>by
  simp only [numF]
  split
  ·exact h
  ·rename_i b hx
   have hi : i < xs.length:=(List.getElem?_eq_some_iff.1 hx).1
   split
   ·exact numF_bd f _ _ _ _ oM
   ·split<;>exact hi
theorem Zbz {P : Program} {s : St} {a b : ResultVar} {x y : P0} {ρ : List (Nat × Nat)} (h1 : RvOk P s a x) (h2 : RvOk P s b y) (hv : ([x,y].all fun x=>match x with | .one (.val _)=>true | _=>false) = true) : ∃ d0,RetD P s [a,b] d0 ∧ DImp d0 (D.ren ρ (.tup true [x,y])) :=
 ⟨.tup true [x,y],by cases a<;>exact .inl ⟨_,rfl,rfl,⟨h1,h2,trivial⟩,hv⟩,Zac rfl⟩
theorem f_next (m1 m2 nil : Bool) (xs : List Int) (i : Nat) (hx : xs.length ≤ 2000) (hi : i ≤ 2000) :
  FnS Try.prog 97 [.one (.ptr 1000000000 0 0 0)] (brH 1000000000 m1 m2 nil xs i) (.tup true [iP (match xs[i]? with | some b=>b | none=>0),.one (bool (decide (i < xs.length)))]) (if i < xs.length then brH 1000000000 m1 true nil xs (i + 1) else brH 1000000000 m1 m2 nil xs i):=by
 have hl:=Zu xs
 unfold brH
 by_cases h : i < xs.length
 ·rw [if_pos h,List.getElem?_eq_getElem h]
  dsimp only
  rw [show decide (i < xs.length) = true by simp [h]]
  have hix:=ints_at h
  have hw : IntKind.i64.wrap ((i : Int) + 1) = ((i + 1 : Nat) : Int):=by rw [IntWalk.i64_in _ oM]; omega
  generalize xs[i] = z at *
  refine Zad (l:=[.tmp 2,.tmp 3]) Try.func97 kRf rfl Try.ntmps97 rfl rfl ?_; simp only [dEnv,Nat.reduceAdd]
  repeat' (first|refine wk ?_|((first|refine' w_q rfl rfl ?xa rfl ?_|refine' v_q rfl rfl ?xa rfl ?_|refine' Zn rfl rfl (Zb rfl) rfl ?xa rfl ?_|refine' Zo rfl rfl (Zb rfl) rfl ?xa rfl ?_);case xa=>exact Zx tbOk rfl rfl rfl rfl oM (by exact hix))|(refine wkB ?_ ?_<;>intro hg_<;>try exact wkX)|fail)
  all_goals first
   | exact Z4 [] rfl (by (repeat' (first|exact trivial|refine Zb2 rfl ?_ ?_|rfl|exact var2 rfl (Zbm hw)))) (Zbz (Zk rfl (Zv rfl)) (Zk rfl (Zr rfl)) rfl)
 ·rw [if_neg h,List.getElem?_eq_none oM]
  dsimp only
  rw [show decide (i < xs.length) = false by simp [h]]
  refine Zad (l:=[.tmp 2,.tmp 3]) Try.func97 kRf rfl Try.ntmps97 rfl rfl ?_; simp only [dEnv,Nat.reduceAdd]
  repeat' (first|refine wk ?_|(refine wkB ?_ ?_<;>intro hg_<;>try exact wkX)|fail)
  all_goals first
   | exact Z4 [] rfl sbH (Zbz (Zk rfl (Zv rfl)) (Zk rfl (Zr rfl)) rfl)
theorem f_number (m1 m2 nil : Bool) (xs : List Int) (i : Nat) (hx : bytesOk xs = true) (hi : i < xs.length) :
    FnS Try.prog 85 [.one (.ptr 1000000000 0 0 0)] (brH 1000000000 m1 m2 nil xs i) (.tup true [iP (numF 3 0 0 1 xs i).1, .one (bool (numF 3 0 0 1 xs i).2.1)]) (brH 1000000000 m1 true nil xs (numF 3 0 0 1 xs i).2.2) := by
  have hl := bytesOk_len hx
  have hli := Zu xs
  have KN := fun (m2 : Bool) (i : Nat) (h : i ≤ 2000) => f_next m1 m2 nil xs i hl h
  obtain ⟨J, hJ⟩ : ∃ J, J = numF 3 0 0 1 xs i := ⟨_, rfl⟩
  rw [← hJ]
  unfold brH at *
  refine Zad (l := [.tmp 2, .tmp 3]) Try.func85 kRf rfl Try.ntmps85 rfl rfl ?_; simp only [dEnv, Nat.reduceAdd]
  repeat' (first|refine wk ?_|(refine wkB ?_ ?_<;>intro hg_<;>try exact wkX)|fail)
  refine Zaa (fun x : Nat × Int × Int × Nat × Bool => (x.1 = 0 ∧ x.2.1 = 0 ∧ x.2.2.1 = 1 ∧ x.2.2.2.1 = i ∧ J = numF 3 0 0 1 xs i) ∨ (x.1 = 1 ∧ 0 ≤ x.2.1 ∧ x.2.1 ≤ 127 ∧ x.2.2.1 = 128 ∧ x.2.2.2.1 ≤ xs.length ∧ x.2.2.2.2 = true ∧ J = numF 2 1 x.2.1 128 xs x.2.2.2.1) ∨ (x.1 = 2 ∧ 0 ≤ x.2.1 ∧ x.2.1 ≤ 16383 ∧ x.2.2.1 = 16384 ∧ x.2.2.2.1 ≤ xs.length ∧ x.2.2.2.2 = true ∧ J = numF 1 2 x.2.1 16384 xs x.2.2.2.1) ∨ (x.1 = 3 ∧ x.2.2.2.2 = true ∧ J = (0, false, x.2.2.2.1)))
    (fun x => mkS 44 [(6, .one (.r true (int x.1))), (5, .one (.r true (int x.2.2.1))), (4, .one (.r true (int x.2.1))), (0, .one (.ptr 1000000000 0 0 0))] [(1000000000, .var 102 [.r m1 (row nil 1 (ints xs)), .r x.2.2.2.2 (int (x.2.2.2.1 : Int))])]) (fun x => 4 - x.1) (0, 0, 1, i, m2) (.inl ⟨rfl, rfl, rfl, rfl, hJ⟩) (by (refine Zi [] rfl ?_ ?_ <;>exact wkW)) ?_
  rintro ⟨d, n, s, p, mm⟩ hI
  dsimp only at hI ⊢
  rcases hI with ⟨rfl, rfl, rfl, rfl, hE⟩ | ⟨rfl, hn0, hn1, rfl, hp, rfl, hE⟩ | ⟨rfl, hn0, hn1, rfl, hp, rfl, hE⟩ | ⟨rfl, rfl, hE⟩
  · have K := KN mm p oM
    simp only [numF] at hE
    by_cases hlt : p < xs.length
    · obtain ⟨z0, z1⟩ := Zcw hx p hlt
      rw [List.getElem?_eq_getElem hlt] at hE K
      rw [if_pos hlt, show decide (p < xs.length) = true by simp [hlt]] at K
      dsimp only at hE K
      generalize xs[p] = z at *
      have hw0 : IntKind.i64.wrap (z - 128) = z - 128 := IntWalk.i64_in _ oM
      have hw1 : IntKind.i64.wrap ((z - 128) * 1) = (z - 128) * 1 := IntWalk.i64_in _ oM
      have hw2 : IntKind.i64.wrap (0 + (z - 128) * 1) = 0 + (z - 128) * 1 := IntWalk.i64_in _ oM
      have hw3 : IntKind.i64.wrap ((1 : Int) * 128) = 1 * 128 := by decide
      have hw4 : IntKind.i64.wrap (((0 : Nat) : Int) + 1) = ((0 + 1 : Nat) : Int) := by decide
      have hw5 : IntKind.i64.wrap (z * 1) = z * 1 := IntWalk.i64_in _ oM
      have hw6 : IntKind.i64.wrap (0 + z * 1) = 0 + z * 1 := IntWalk.i64_in _ oM
      by_cases hb : 128 ≤ z
      · rw [if_pos hb] at hE
        clear KN
        repeat' (first|refine wk ?_|((first|refine' w_e rfl ?xa ?xb ?xc ?xe ?_|refine' v_e rfl ?xa ?xb ?xc ?xe ?_);(case xa => exact Ze 15 rfl (Zg [] K rfl ⟨Zh (Za rfl), trivial⟩ sbH rfl));(case xb|xc|xe=>rfl);try refine wkD ?_)|(refine wkB ?_ ?_<;>intro hg_<;>try exact wkX)|fail)
        all_goals first
          | (exfalso; omega)
          | (refine ⟨(0 + 1, 0 + (z - 128) * 1, 1 * 128, p + 1, true), .inr (.inl ⟨rfl, by dsimp only; omega, by dsimp only; omega, rfl, by dsimp only; omega, rfl, hE⟩), ?_, by dsimp only; omega⟩
             (refine Zi [] rfl ?_ ?_ <;> repeat' (first|refine wkS ?_ ?_|exact wkE|exact Zt (by rw [hw0, hw1, hw2])|exact Zt hw3|exact Zt hw4)))
      · rw [if_neg hb] at hE
        by_cases hz : z = 0 ∧ 0 < 0
        · rw [if_pos hz] at hE
          obtain ⟨hz1, hz2⟩ := hz
          subst hz1 hE
          clear KN
          repeat' (first|refine wk ?_|((first|refine' w_e rfl ?xa ?xb ?xc ?xe ?_|refine' v_e rfl ?xa ?xb ?xc ?xe ?_);(case xa => exact Ze 15 rfl (Zg [] K rfl ⟨Zh (Za rfl), trivial⟩ sbH rfl));(case xb|xc|xe=>rfl);try refine wkD ?_)|(refine wkB ?_ ?_<;>intro hg_<;>try exact wkX)|fail)
          all_goals first
            | (exfalso; omega)
            | exact Z4 [] rfl sbH (Zbz (Zk rfl (Zv rfl)) (Zk rfl (Zr rfl)) rfl)
        · rw [if_neg hz] at hE
          subst hE
          clear KN
          repeat' (first|refine wk ?_|((first|refine' w_e rfl ?xa ?xb ?xc ?xe ?_|refine' v_e rfl ?xa ?xb ?xc ?xe ?_);(case xa => exact Ze 15 rfl (Zg [] K rfl ⟨Zh (Za rfl), trivial⟩ sbH rfl));(case xb|xc|xe=>rfl);try refine wkD ?_)|(refine wkB ?_ ?_<;>intro hg_<;>try exact wkX)|fail)
          all_goals first
            | (exfalso; omega)
            | exact Z4 [] rfl sbH (Zbz (Zk rfl (Zv (by rw [hw5, hw6]))) (Zk rfl (Zr (by rw [hw5, hw6]))) rfl)
    · exfalso; omega
  · have K := KN true p oM
    simp only [numF] at hE
    by_cases hlt : p < xs.length
    · obtain ⟨z0, z1⟩ := Zcw hx p hlt
      rw [List.getElem?_eq_getElem hlt] at hE K
      rw [if_pos hlt, show decide (p < xs.length) = true by simp [hlt]] at K
      dsimp only at hE K
      generalize xs[p] = z at *
      have hw0 : IntKind.i64.wrap (z - 128) = z - 128 := IntWalk.i64_in _ oM
      have hw1 : IntKind.i64.wrap ((z - 128) * 128) = (z - 128) * 128 := IntWalk.i64_in _ oM
      have hw2 : IntKind.i64.wrap (n + (z - 128) * 128) = n + (z - 128) * 128 := IntWalk.i64_in _ oM
      have hw3 : IntKind.i64.wrap ((128 : Int) * 128) = 128 * 128 := by decide
      have hw4 : IntKind.i64.wrap (((1 : Nat) : Int) + 1) = ((1 + 1 : Nat) : Int) := by decide
      have hw5 : IntKind.i64.wrap (z * 128) = z * 128 := IntWalk.i64_in _ oM
      have hw6 : IntKind.i64.wrap (n + z * 128) = n + z * 128 := IntWalk.i64_in _ oM
      by_cases hb : 128 ≤ z
      · rw [if_pos hb] at hE
        clear KN
        repeat' (first|refine wk ?_|((first|refine' w_e rfl ?xa ?xb ?xc ?xe ?_|refine' v_e rfl ?xa ?xb ?xc ?xe ?_);(case xa => exact Ze 15 rfl (Zg [] K rfl ⟨Zh (Za rfl), trivial⟩ sbH rfl));(case xb|xc|xe=>rfl);try refine wkD ?_)|(refine wkB ?_ ?_<;>intro hg_<;>try exact wkX)|fail)
        all_goals first
          | (exfalso; omega)
          | (refine ⟨(1 + 1, n + (z - 128) * 128, 128 * 128, p + 1, true), .inr (.inr (.inl ⟨rfl, by dsimp only; omega, by dsimp only; omega, rfl, by dsimp only; omega, rfl, hE⟩)), ?_, by dsimp only; omega⟩
             (refine Zi [] rfl ?_ ?_ <;> repeat' (first|refine wkS ?_ ?_|exact wkE|exact Zt (by rw [hw0, hw1, hw2])|exact Zt hw3|exact Zt hw4)))
      · rw [if_neg hb] at hE
        by_cases hz : z = 0 ∧ 0 < 1
        · rw [if_pos hz] at hE
          obtain ⟨hz1, hz2⟩ := hz
          subst hz1 hE
          clear KN
          repeat' (first|refine wk ?_|((first|refine' w_e rfl ?xa ?xb ?xc ?xe ?_|refine' v_e rfl ?xa ?xb ?xc ?xe ?_);(case xa => exact Ze 15 rfl (Zg [] K rfl ⟨Zh (Za rfl), trivial⟩ sbH rfl));(case xb|xc|xe=>rfl);try refine wkD ?_)|(refine wkB ?_ ?_<;>intro hg_<;>try exact wkX)|fail)
          all_goals first
            | (exfalso; omega)
            | exact Z4 [] rfl sbH (Zbz (Zk rfl (Zv rfl)) (Zk rfl (Zr rfl)) rfl)
        · rw [if_neg hz] at hE
          subst hE
          clear KN
          repeat' (first|refine wk ?_|((first|refine' w_e rfl ?xa ?xb ?xc ?xe ?_|refine' v_e rfl ?xa ?xb ?xc ?xe ?_);(case xa => exact Ze 15 rfl (Zg [] K rfl ⟨Zh (Za rfl), trivial⟩ sbH rfl));(case xb|xc|xe=>rfl);try refine wkD ?_)|(refine wkB ?_ ?_<;>intro hg_<;>try exact wkX)|fail)
          all_goals first
            | (exfalso; omega)
            | exact Z4 [] rfl sbH (Zbz (Zk rfl (Zv (by rw [hw5, hw6]))) (Zk rfl (Zr (by rw [hw5, hw6]))) rfl)
    · rw [List.getElem?_eq_none oM] at hE K
      rw [if_neg hlt, show decide (p < xs.length) = false by simp [hlt]] at K
      dsimp only at hE K
      subst hE
      clear KN
      repeat' (first|refine wk ?_|((first|refine' w_e rfl ?xa ?xb ?xc ?xe ?_|refine' v_e rfl ?xa ?xb ?xc ?xe ?_);(case xa => exact Ze 15 rfl (Zg [] K rfl ⟨Zh (Za rfl), trivial⟩ sbH rfl));(case xb|xc|xe=>rfl);try refine wkD ?_)|(refine wkB ?_ ?_<;>intro hg_<;>try exact wkX)|fail)
      all_goals first
        | (exfalso; omega)
        | exact Z4 [] rfl sbH (Zbz (Zk rfl (Zv rfl)) (Zk rfl (Zr rfl)) rfl)
  · have K := KN true p oM
    simp only [numF] at hE
    by_cases hlt : p < xs.length
    · obtain ⟨z0, z1⟩ := Zcw hx p hlt
      rw [List.getElem?_eq_getElem hlt] at hE K
      rw [if_pos hlt, show decide (p < xs.length) = true by simp [hlt]] at K
      dsimp only at hE K
      generalize xs[p] = z at *
      have hw0 : IntKind.i64.wrap (z - 128) = z - 128 := IntWalk.i64_in _ oM
      have hw1 : IntKind.i64.wrap ((z - 128) * 16384) = (z - 128) * 16384 := IntWalk.i64_in _ oM
      have hw2 : IntKind.i64.wrap (n + (z - 128) * 16384) = n + (z - 128) * 16384 := IntWalk.i64_in _ oM
      have hw3 : IntKind.i64.wrap ((16384 : Int) * 128) = 16384 * 128 := by decide
      have hw4 : IntKind.i64.wrap (((2 : Nat) : Int) + 1) = ((2 + 1 : Nat) : Int) := by decide
      have hw5 : IntKind.i64.wrap (z * 16384) = z * 16384 := IntWalk.i64_in _ oM
      have hw6 : IntKind.i64.wrap (n + z * 16384) = n + z * 16384 := IntWalk.i64_in _ oM
      by_cases hb : 128 ≤ z
      · rw [if_pos hb] at hE
        clear KN
        repeat' (first|refine wk ?_|((first|refine' w_e rfl ?xa ?xb ?xc ?xe ?_|refine' v_e rfl ?xa ?xb ?xc ?xe ?_);(case xa => exact Ze 15 rfl (Zg [] K rfl ⟨Zh (Za rfl), trivial⟩ sbH rfl));(case xb|xc|xe=>rfl);try refine wkD ?_)|(refine wkB ?_ ?_<;>intro hg_<;>try exact wkX)|fail)
        all_goals first
          | (exfalso; omega)
          | (refine ⟨(2 + 1, n + (z - 128) * 16384, 16384 * 128, p + 1, true), .inr (.inr (.inr ⟨rfl, rfl, hE⟩)), ?_, by dsimp only; omega⟩
             (refine Zi [] rfl ?_ ?_ <;> repeat' (first|refine wkS ?_ ?_|exact wkE|exact Zt (by rw [hw0, hw1, hw2])|exact Zt hw3|exact Zt hw4)))
      · rw [if_neg hb] at hE
        by_cases hz : z = 0 ∧ 0 < 2
        · rw [if_pos hz] at hE
          obtain ⟨hz1, hz2⟩ := hz
          subst hz1 hE
          clear KN
          repeat' (first|refine wk ?_|((first|refine' w_e rfl ?xa ?xb ?xc ?xe ?_|refine' v_e rfl ?xa ?xb ?xc ?xe ?_);(case xa => exact Ze 15 rfl (Zg [] K rfl ⟨Zh (Za rfl), trivial⟩ sbH rfl));(case xb|xc|xe=>rfl);try refine wkD ?_)|(refine wkB ?_ ?_<;>intro hg_<;>try exact wkX)|fail)
          all_goals first
            | (exfalso; omega)
            | exact Z4 [] rfl sbH (Zbz (Zk rfl (Zv rfl)) (Zk rfl (Zr rfl)) rfl)
        · rw [if_neg hz] at hE
          subst hE
          clear KN
          repeat' (first|refine wk ?_|((first|refine' w_e rfl ?xa ?xb ?xc ?xe ?_|refine' v_e rfl ?xa ?xb ?xc ?xe ?_);(case xa => exact Ze 15 rfl (Zg [] K rfl ⟨Zh (Za rfl), trivial⟩ sbH rfl));(case xb|xc|xe=>rfl);try refine wkD ?_)|(refine wkB ?_ ?_<;>intro hg_<;>try exact wkX)|fail)
          all_goals first
            | (exfalso; omega)
            | exact Z4 [] rfl sbH (Zbz (Zk rfl (Zv (by rw [hw5, hw6]))) (Zk rfl (Zr (by rw [hw5, hw6]))) rfl)
    · rw [List.getElem?_eq_none oM] at hE K
      rw [if_neg hlt, show decide (p < xs.length) = false by simp [hlt]] at K
      dsimp only at hE K
      subst hE
      clear KN
      repeat' (first|refine wk ?_|((first|refine' w_e rfl ?xa ?xb ?xc ?xe ?_|refine' v_e rfl ?xa ?xb ?xc ?xe ?_);(case xa => exact Ze 15 rfl (Zg [] K rfl ⟨Zh (Za rfl), trivial⟩ sbH rfl));(case xb|xc|xe=>rfl);try refine wkD ?_)|(refine wkB ?_ ?_<;>intro hg_<;>try exact wkX)|fail)
      all_goals first
        | (exfalso; omega)
        | exact Z4 [] rfl sbH (Zbz (Zk rfl (Zv rfl)) (Zk rfl (Zr rfl)) rfl)
  · subst hE
    clear KN
    repeat' (first|refine wk ?_|(refine wkB ?_ ?_<;>intro hg_<;>try exact wkX)|fail)
    all_goals first
      | (exfalso; omega)
      | exact Z4 [] rfl sbH (Zbz (Zk rfl (Zv rfl)) (Zk rfl (Zr rfl)) rfl)
theorem f_brDone (m1 m2 nil : Bool) (xs : List Int) (i : Nat) : FnS Try.prog 86 [.one (.ptr 1000000000 0 0 0)] (brH 1000000000 m1 m2 nil xs i) (.one (.r true (bool (decide (i = xs.length))))) (brH 1000000000 m1 m2 nil xs i):=by
 have hl:=Zu xs
 unfold brH
 refine Zad (l:=[.tmp 2]) Try.func86 kRf rfl Try.ntmps86 rfl rfl ?_; simp only [dEnv,Nat.reduceAdd]
 repeat' (first|refine wk ?_|(refine wkB ?_ ?_<;>intro hg_<;>try exact wkX)|fail)
 all_goals first
  | exact Z4 [] rfl sbH (Zbl rfl rfl (by rw [hl,Bool.eq_iff_iff];simp;omega))
end Go.Proofs.Ytmkijbfiilpccaa.Abs
set_option linter.unusedSimpArgs false
set_option linter.unusedVariables false
namespace Go.Proofs.Ytmkijbfiilpccaa.Abs
open Go.RowKit
open R (val row ref)
def rdN (xs : List Int) : Nat → Nat → List Int → Option (List Int × Nat)
 | 0,p,acc=>some (acc,p)
 | k + 1,p,acc=>if p < xs.length then (if (numF 3 0 0 1 xs p).2.1 then rdN xs k (numF 3 0 0 1 xs p).2.2 (acc ++ [(numF 3 0 0 1 xs p).1]) else none) else none
def nbE (b : List Int) : Option (List Int × Nat) → Option (List Int) × Bool
 | some (ns,p)=>(some ns,decide (p = b.length))
 | none=>(none,false)
def nbF (tag : Int) (k : Nat) (b : List Int) : Option (List Int) × Bool :=
 if bodyOk b = true ∧ b.head? = some tag then nbE b (rdN b k 1 []) else (none,false)
def nbRes : Option (List Int) × Bool → Res
 | (some ns,q)=>.tup [.one (row false 1 (ints ns)),.one (bool q)]
 | (none,_)=>.tup [.one (row true 1 []),.one (bool false)]
theorem f_numberEnd (m1 m2 nil : Bool) (xs : List Int) (hx : xs.length ≤ 2000) :
  FnS Try.prog 85 [.one (.ptr 1000000000 0 0 0)] (brH 1000000000 m1 m2 nil xs xs.length) (.tup true [iP 0,.one (bool false)]) (brH 1000000000 m1 m2 nil xs xs.length):=by
 have K:=f_next m1 m2 nil xs xs.length hx hx
 rw [if_neg oM,show decide (xs.length < xs.length) = false by simp,List.getElem?_eq_none oM] at K
 dsimp only at K
 unfold brH at *
 refine Zad (l:=[.tmp 2,.tmp 3]) Try.func85 kRf rfl Try.ntmps85 rfl rfl ?_; simp only [dEnv,Nat.reduceAdd]
 repeat' (first|refine wk ?_|(refine wkB ?_ ?_<;>intro hg_<;>try exact wkX)|fail)
 refine Zaa (fun x : Nat=>x = 0) (fun x=>mkS 44 [(6,.one (.r true (int (x : Int)))),(0,.one (.ptr 1000000000 0 0 0))] [(1000000000,.var 102 [.r m1 (row nil 1 (ints xs)),.r m2 (int (xs.length : Int))])]) (fun x=>x) 0 rfl (by (refine Zi [] rfl ?_ ?_ <;>exact wkW)) ?_
 rintro x rfl
 repeat' (first|refine wk ?_|((first|refine' w_e rfl ?xa ?xb ?xc ?xe ?_|refine' v_e rfl ?xa ?xb ?xc ?xe ?_);(case xa=>exact Ze 15 rfl (Zg [] K rfl ⟨Zh (Za rfl),trivial⟩ sbH rfl));(case xb|xc|xe=>rfl);try refine wkD ?_)|(refine wkB ?_ ?_<;>intro hg_<;>try exact wkX)|fail)
 all_goals first
  | exact Z4 [] rfl sbH (Zbz (Zk rfl (Zv rfl)) (Zk rfl (Zr rfl)) rfl)
  | (exfalso; omega)
theorem f_numberAny (m1 m2 nil : Bool) (xs : List Int) (p : Nat) (hx : bytesOk xs = true) (hp : p ≤ xs.length) :
  ∃ n ok p' m2',FnS Try.prog 85 [.one (.ptr 1000000000 0 0 0)] (brH 1000000000 m1 m2 nil xs p) (.tup true [iP n,.one (bool ok)]) (brH 1000000000 m1 m2' nil xs p') ∧ p' ≤ xs.length ∧ ∀ k acc,rdN xs (k + 1) p acc = if ok then rdN xs k p' (acc ++ [n]) else none:=by
 by_cases h : p < xs.length
 ·exact ⟨_,_,_,_,f_number m1 m2 nil xs p hx h,numF_bd 3 0 0 1 p hp,fun k acc=>by rw [rdN,if_pos h]⟩
 ·obtain rfl : p = xs.length:=by omega
  exact ⟨0,false,_,m2,f_numberEnd m1 m2 nil xs (bytesOk_len hx),hp,fun k acc=>by rw [rdN,if_neg h]; rfl⟩
theorem f_numbersNo (nil : Bool) (b : List Int) (tag k : Int) (h : ¬ (bodyOk b = true ∧ b.head? = some tag)) : Fn Try.prog 62 [.one (row nil 1 (ints b)),iP tag,iP k] (.tup [.one (row true 1 []),.one (bool false)]):=by
 have KB:=f_implBodyOk nil b
 cases hb : bodyOk b
 ·rw [hb] at KB
  refine Z8 (l:=[.tmp 6,.tmp 7]) Try.func62 kRf rfl Try.ntmps62 rfl rfl ?_; simp only [argEnv,P0.d,Nat.reduceAdd]
  repeat' (first|refine wk ?_|((first|refine' w_q rfl rfl ?xa rfl ?_|refine' v_q rfl rfl ?xa rfl ?_|refine' Zn rfl rfl (Zb rfl) rfl ?xa rfl ?_|refine' Zo rfl rfl (Zb rfl) rfl ?xa rfl ?_);case xa=>exact Zm KB rfl ⟨Zf (Za rfl),trivial⟩)|(refine wkB ?_ ?_<;>intro hg_<;>try exact wkX)|fail)
  all_goals first
   | exact ret_2 (Zk rfl (Z7 Zaw)) (Zk rfl (Zr rfl))
 ·rw [hb] at KB
  cases b with
  | nil=>cases hb
  | cons z b =>
   have hz : z ≠ tag:=fun e=>h ⟨hb,by rw [e]; rfl⟩
   have hx2 : (ints (z :: b))[(0 : Int).toNat]? = some (iP z):=rfl
   have hl : (ints (z :: b)).length = b.length + 1:=by rw [Zu]; rfl
   refine Z8 (l:=[.tmp 6,.tmp 7]) Try.func62 kRf rfl Try.ntmps62 rfl rfl ?_; simp only [argEnv,P0.d,Nat.reduceAdd]
   repeat' (first|refine wk ?_|((first|refine' w_q rfl rfl ?xa rfl ?_|refine' v_q rfl rfl ?xa rfl ?_|refine' Zn rfl rfl (Zb rfl) rfl ?xa rfl ?_|refine' Zo rfl rfl (Zb rfl) rfl ?xa rfl ?_);case xa=>first|exact Zm KB rfl ⟨Zf (Za rfl),trivial⟩|exact Zx tbOk rfl rfl rfl rfl oM hx2)|(refine wkB ?_ ?_<;>intro hg_<;>try exact wkX)|fail)
   all_goals first
    | exact ret_2 (Zk rfl (Z7 Zaw)) (Zk rfl (Zr rfl))
    | (exfalso; simp_all; done)
theorem fill_next {acc : List Int} {k : Nat} {n : Int} (h : acc.length < k) : (ints (acc ++ List.replicate (k - acc.length) 0)).set acc.length (iP n) = ints ((acc ++ [n]) ++ List.replicate (k - (acc.length + 1)) 0):=by
 have e : k - acc.length = (k - (acc.length + 1)) + 1:=by omega
 rw [e,List.replicate_succ]
 unfold ints
 simp [List.set_append]
theorem f_numbersYes (nil : Bool) (b : List Int) (tag : Int) (k : Nat) (hk3 : k ≤ 3) (hb : bodyOk b = true) (hh : b.head? = some tag) : Fn Try.prog 62 [.one (row nil 1 (ints b)), iP tag, iP (k : Int)] (nbRes (nbF tag k b)) := by
  have KB := f_implBodyOk nil b
  rw [hb] at KB
  have hby : bytesOk b = true := by unfold bodyOk at hb; simp only [Bool.and_eq_true] at hb; exact hb.1.1
  have hbl : 1 ≤ b.length := by unfold bodyOk at hb; simp at hb; omega
  obtain ⟨RR, hRR⟩ : ∃ RR, RR = rdN b k 1 [] := ⟨_, rfl⟩
  have hX : nbF tag k b = nbE b RR := by rw [hRR]; unfold nbF; rw [if_pos ⟨hb, hh⟩]
  rw [hX]
  clear hX
  have hx2 : (ints b)[(0 : Int).toNat]? = some (iP tag) := by
    cases b with
    | nil => cases hh
    | cons z b => simp only [List.head?_cons, Option.some.injEq] at hh; rw [← hh]; rfl
  have hlb := Zu b
  clear hb hh
  refine Z8 (l := [.tmp 6, .tmp 7]) Try.func62 kRf rfl Try.ntmps62 rfl rfl ?_; simp only [argEnv, P0.d, Nat.reduceAdd]
  repeat' (first|refine wk ?_|((first|refine' w_q rfl rfl ?xa rfl ?_|refine' v_q rfl rfl ?xa rfl ?_|refine' Zn rfl rfl (Zb rfl) rfl ?xa rfl ?_|refine' Zo rfl rfl (Zb rfl) rfl ?xa rfl ?_);case xa => first|exact Zm KB rfl ⟨Zf (Za rfl), trivial⟩|exact Zx tbOk rfl rfl rfl rfl oM hx2)|((first|refine' w_e rfl ?xa ?xb ?xc ?xe ?_|refine' v_e rfl ?xa ?xb ?xc ?xe ?_);(case xa => exact e_make tlOk rfl rfl rfl rfl rfl rfl (c := k) rfl rfl oM (by simp only [maxLen];omega));(case xb|xc|xe=>rfl);try refine wkD ?_)|(refine wkB ?_ ?_<;>intro hg_<;>try exact wkX)|fail)
  obtain ⟨F, hFs⟩ : ∃ F : Nat × Bool × List Int → St, ∀ p m2 acc, F (p, m2, acc) = mkS 45 [(29, .one (.r true (int (acc.length : Int)))), (28, .one (.r true (int (k : Int)))), (9, .one (.own 100 0 k 1)), (8, .one (.ptr 8 0 0 0))] [(100, .sl 3 1 true (ints (acc ++ List.replicate (k - acc.length) 0))), (8, .var 102 [.r false (row nil 1 (ints b)), .r m2 (int (p : Int))])] := ⟨fun x => mkS 45 [(29, .one (.r true (int (x.2.2.length : Int)))), (28, .one (.r true (int (k : Int)))), (9, .one (.own 100 0 k 1)), (8, .one (.ptr 8 0 0 0))] [(100, .sl 3 1 true (ints (x.2.2 ++ List.replicate (k - x.2.2.length) 0))), (8, .var 102 [.r false (row nil 1 (ints b)), .r x.2.1 (int (x.1 : Int))])], fun _ _ _ => rfl⟩
  refine Zaa (fun x : Nat × Bool × List Int => x.1 ≤ b.length ∧ x.2.2.length ≤ k ∧ RR = rdN b (k - x.2.2.length) x.1 x.2.2) F (fun x => k - x.2.2.length) (1, true, []) ⟨hbl, Nat.zero_le _, hRR⟩ (by
    rw [hFs]
    (refine Zi [(100, 26)] rfl ?_ ?_ <;> repeat' (first|refine wkS ?_ ?_|exact wkE|exact Zz rfl (by unfold ints;simp)))) ?_
  rintro ⟨p, m2, acc⟩ ⟨hp, hacc, hE⟩
  dsimp only at hp hacc hE
  have hlr : (ints (acc ++ List.replicate (k - acc.length) 0)).length = k := by rw [Zu]; simp; omega
  clear hRR hx2
  by_cases hlt : acc.length < k
  · obtain ⟨n, ok, p', m2', KN, hp', hstep⟩ := f_numberAny false m2 nil b p hby hp
    rw [show k - acc.length = (k - (acc.length + 1)) + 1 by omega, hstep] at hE
    have hnext := fill_next (n := n) hlt
    cases ok
    · rw [if_neg (by decide)] at hE
      rw [hE, hFs]
      unfold nbE nbRes brH at *
      dsimp only
      clear hFs hE hstep KB hnext
      repeat' (first|refine wk ?_|((first|refine' w_e rfl ?xa ?xb ?xc ?xe ?_|refine' v_e rfl ?xa ?xb ?xc ?xe ?_);(case xa => exact Ze 33 rfl (Zg [(1000000000, 8)] KN rfl ⟨Zh (Za rfl), trivial⟩ sbH rfl));(case xb|xc|xe=>rfl);try refine wkD ?_)|(refine wkB ?_ ?_<;>intro hg_<;>try exact wkX)|fail)
      all_goals first
        | exact ret_2 (Zk rfl (Z7 Zaw)) (Zk rfl (Zr rfl))
        | (exfalso; omega)
    · rw [if_pos rfl] at hE
      have hfin : ∀ s' : St, Weak s' (F (p', m2', acc ++ [n])) → ∃ x' : Nat × Bool × List Int, (x'.1 ≤ b.length ∧ x'.2.2.length ≤ k ∧ RR = rdN b (k - x'.2.2.length) x'.1 x'.2.2) ∧ Weak s' (F x') ∧ k - x'.2.2.length < k - acc.length := fun s' h => ⟨(p', m2', acc ++ [n]), ⟨hp', by simp; omega, by rw [hE]; simp⟩, h, by simp; omega⟩
      rw [hFs] at hfin ⊢
      have hw1 : IntKind.i64.wrap ((acc.length : Int) + 1) = ((acc ++ [n]).length : Int) := by rw [IntWalk.i64_in _ oM]; simp
      have hls : (acc ++ [n]).length = acc.length + 1 := by simp
      rw [hls, ← hnext] at hfin
      rw [hls] at hw1
      clear hFs hE hstep KB hnext
      generalize ints (acc ++ List.replicate (k - acc.length) 0) = els at *
      unfold brH at *
      repeat' (first|refine wk ?_|((first|refine' w_q rfl rfl ?xa rfl ?_|refine' v_q rfl rfl ?xa rfl ?_|refine' Zn rfl rfl (Zb rfl) rfl ?xa rfl ?_|refine' Zo rfl rfl (Zb rfl) rfl ?xa rfl ?_);case xa => exact Zap tbOk rfl rfl rfl rfl oM oM)|((first|refine' w_e rfl ?xa ?xb ?xc ?xe ?_|refine' v_e rfl ?xa ?xb ?xc ?xe ?_);(case xa => first|exact Ze 33 rfl (Zg [(1000000000, 8)] KN rfl ⟨Zh (Za rfl), trivial⟩ sbH rfl)|exact e_storeS tbOk rfl rfl rfl rfl rfl rfl rfl rfl oM);(case xb|xc|xe=>rfl);try refine wkD ?_)|(refine wkB ?_ ?_<;>intro hg_<;>try exact wkX)|fail)
      all_goals first
        | (refine hfin _ ?_
           (refine Zi [] rfl ?_ ?_ <;> repeat' (first|refine wkS ?_ ?_|exact wkE|exact Zt hw1|exact Zz rfl (by rw [Nat.zero_add, Int.toNat_natCast]))))
        | (exfalso; omega)
  · have hke : acc.length = k := by omega
    have KD := f_brDone false m2 nil b p
    subst hke
    rw [Nat.sub_self, rdN] at hE
    rw [hE, hFs]
    unfold nbE nbRes brH at *
    dsimp only
    rw [Nat.sub_self, List.replicate_zero, List.append_nil]
    have hla := (Zu acc).symm
    clear hFs hE KB hlr
    repeat' (first|refine wk ?_|((first|refine' w_e rfl ?xa ?xb ?xc ?xe ?_|refine' v_e rfl ?xa ?xb ?xc ?xe ?_);(case xa => exact Ze 44 rfl (Zg [(1000000000, 8)] KD rfl ⟨Zh (Za rfl), trivial⟩ sbH rfl));(case xb|xc|xe=>rfl);try refine wkD ?_)|(refine wkB ?_ ?_<;>intro hg_<;>try exact wkX)|fail)
    all_goals first
      | exact ret_2 (Zk rfl (Z7 (Z5 (Zj rfl) hla))) (Zk rfl (Zr rfl))
      | (exfalso; omega)
theorem Zbh (nil : Bool) (b : List Int) (tag : Int) (k : Nat) (hk3 : k ≤ 3) : Fn Try.prog 62 [.one (row nil 1 (ints b)),iP tag,iP (k : Int)] (nbRes (nbF tag k b)):=by
 by_cases h : bodyOk b = true ∧ b.head? = some tag
 ·exact f_numbersYes nil b tag k hk3 h.1 h.2
 ·have e : nbF tag k b = (none,false):=by unfold nbF; rw [if_neg h]
  rw [e]
  exact f_numbersNo nil b tag k h
end Go.Proofs.Ytmkijbfiilpccaa.Abs
set_option linter.unusedSimpArgs false
set_option linter.unusedVariables false
namespace Go.Proofs.Ytmkijbfiilpccaa.Abs
open Go.RowKit
open R (val row ref)
theorem numF_yes {xs : List Int} {p : Nat} (hb : ∀ z ∈ xs,0 ≤ z ∧ z ≤ 255) (hp : p ≤ xs.length) (h : (numF 3 0 0 1 xs p).2.1 = true) :
  (xs.drop p).take ((numF 3 0 0 1 xs p).2.2 - p) = enc (numF 3 0 0 1 xs p).1 ∧ p < (numF 3 0 0 1 xs p).2.2 ∧ (numF 3 0 0 1 xs p).2.2 ≤ xs.length ∧ 0 ≤ (numF 3 0 0 1 xs p).1 ∧ (numF 3 0 0 1 xs p).1 ≤ 1000000:=by
 have hd:=numF_dec 3 0 0 1 xs p
 rw [if_pos h] at hd
 have hc:=dec_canon (l:=xs.drop p) (fun z hz=>hb z (List.mem_of_mem_drop hz)) hd
 have hbd:=numF_bd (xs:=xs) 3 0 0 1 p hp
 obtain ⟨c1,c2,c3,c4,c5⟩:=hc
 rw [Nat.zero_add] at c1 c3
 exact ⟨c1,by omega,hbd,c4,c5⟩
theorem numF_enc {xs : List Int} {p : Nat} {n : Int} {r : List Int} (h0 : 0 ≤ n) (h1 : n ≤ 1000000) (hx : xs.drop p = enc n ++ r) : (numF 3 0 0 1 xs p).2.1 = true ∧ (numF 3 0 0 1 xs p).1 = n ∧ (numF 3 0 0 1 xs p).2.2 = p + (enc n).length:=by
 have hd:=numF_dec 3 0 0 1 xs p
 have he:=dec_enc h0 h1 r
 rw [← hx] at he
 unfold dec at he
 rw [he] at hd
 have hp:=enc_pos h0 h1
 split at hd
 ·rename_i ht
  injection hd with hd
  injection hd with e1 e2
  exact ⟨ht,e1.symm,by omega⟩
 ·cases hd
theorem rdN_yes {xs : List Int} (hb : ∀ z ∈ xs,0 ≤ z ∧ z ≤ 255) : ∀ (k p : Nat) (acc ns : List Int) (q : Nat),p ≤ xs.length → rdN xs k p acc = some (ns,q) →
  ∃ ms,ns = acc ++ ms ∧ ms.length = k ∧ (∀ n ∈ ms,0 ≤ n ∧ n ≤ 1000000) ∧ xs.drop p = ms.flatMap enc ++ xs.drop q ∧ p ≤ q ∧ q ≤ xs.length
 | 0,p,acc,ns,q,hp,h=>by
  rw [rdN] at h
  injection h with h
  injection h with e1 e2
  exact ⟨[],by rw [← e1]; simp,rfl,fun n hn=>absurd hn (by simp),by rw [e2]; rfl,by omega,by omega⟩
 | k + 1,p,acc,ns,q,hp,h=>by
  rw [rdN] at h
  split at h
  ·split at h
   ·rename_i hlt hok
    obtain ⟨c1,c2,c3,c4,c5⟩:=numF_yes hb hp hok
    obtain ⟨ms,e1,e2,e3,e4,e5,e6⟩:=rdN_yes hb k _ _ _ _ c3 h
    refine ⟨(numF 3 0 0 1 xs p).1 :: ms,by rw [e1]; simp,by simp [e2],fun n hn=>?_,?_,by omega,e6⟩
    ·rcases List.mem_cons.1 hn with h' | h'
     ·rw [h']; exact ⟨c4,c5⟩
     ·exact e3 n h'
    ·rw [List.flatMap_cons,← c1,List.append_assoc,← e4]
     have : (numF 3 0 0 1 xs p).2.2 = p + ((numF 3 0 0 1 xs p).2.2 - p):=by omega
     conv=>rhs; rhs; rw [this,← List.drop_drop]
     rw [List.take_append_drop]
   ·cases h
  ·cases h
theorem rdN_enc {xs : List Int} : ∀ (ms : List Int) (p : Nat) (acc r : List Int),(∀ n ∈ ms,0 ≤ n ∧ n ≤ 1000000) → xs.drop p = ms.flatMap enc ++ r → rdN xs ms.length p acc = some (acc ++ ms,p + (ms.flatMap enc).length)
 | [],p,acc,r,_,_=>by simp [rdN]
 | n :: ms,p,acc,r,hn,hx=>by
  have h0:=hn n (List.mem_cons_self ..)
  rw [List.flatMap_cons,List.append_assoc] at hx
  obtain ⟨c1,c2,c3⟩:=numF_enc h0.1 h0.2 hx
  have hp:=enc_pos h0.1 h0.2
  have hl:=congrArg List.length hx
  rw [List.length_drop,List.length_append] at hl
  have hd : xs.drop (p + (enc n).length) = ms.flatMap enc ++ r:=by
   rw [← List.drop_drop,hx,List.drop_left]
  have ih:=rdN_enc ms (p + (enc n).length) (acc ++ [n]) r (fun m hm=>hn m (List.mem_cons_of_mem _ hm)) hd
  rw [List.length_cons,rdN,if_pos oM,if_pos c1,c2,c3,ih]
  simp; omega
theorem bodyOk_by {b : List Int} (h : bodyOk b = true) : ∀ z ∈ b,0 ≤ z ∧ z ≤ 255:=fun z hz=>by
 unfold bodyOk at h
 simp only [Bool.and_eq_true] at h
 obtain ⟨i,hi,rfl⟩:=List.getElem_of_mem hz
 exact Zcw h.1.1 i hi
theorem nbF_yes {tag : Int} {k : Nat} {b ns : List Int} (h : nbF tag k b = (some ns,true)) : b = tag :: ns.flatMap enc ∧ ns.length = k ∧ ∀ n ∈ ns,0 ≤ n ∧ n ≤ 1000000:=by
 unfold nbF at h
 split at h
 ·rename_i hc
  obtain ⟨hb,hh⟩:=hc
  cases b with
  | nil=>cases hh
  | cons z b =>
   simp only [List.head?_cons,Option.some.injEq] at hh
   subst hh
   cases hr : rdN (z :: b) k 1 [] with
   | none=>rw [hr] at h; cases h
   | some x =>
    obtain ⟨ms,q⟩:=x
    rw [hr] at h
    simp only [nbE,Prod.mk.injEq,Option.some.injEq,decide_eq_true_eq] at h
    obtain ⟨rfl,hq⟩:=h
    obtain ⟨ms',e1,e2,e3,e4,e5,e6⟩:=rdN_yes (bodyOk_by hb) k 1 [] ms q (by simp) hr
    rw [List.nil_append] at e1
    subst e1
    rw [hq,List.drop_of_length_le (Nat.le_refl _),List.append_nil] at e4
    refine ⟨?_,e2,e3⟩
    simp only [List.drop_one,List.tail_cons] at e4
    rw [← e4]
 ·cases h
theorem enc_flat_bytes {ns : List Int} : ∀ z ∈ ns.flatMap enc,0 ≤ z ∧ z ≤ 255:=fun z hz=>by
 rw [List.mem_flatMap] at hz
 obtain ⟨n,_,h⟩:=hz
 exact Zci n z h
theorem enc_flat_len : ∀ ns : List Int,(ns.flatMap enc).length ≤ 3 * ns.length
 | []=>by simp
 | n :: ns=>by
  have:=enc_flat_len ns
  have:=Za0 n
  rw [List.flatMap_cons,List.length_append,List.length_cons]
  omega
theorem nbF_enc {tag : Int} {ns : List Int} (ht : 0 ≤ tag ∧ tag ≤ 255) (hk : ns.length ≤ 3) (hn : ∀ n ∈ ns,0 ≤ n ∧ n ≤ 1000000) : nbF tag ns.length (tag :: ns.flatMap enc) = (some ns,true):=by
 have hl:=enc_flat_len ns
 have hb : bodyOk (tag :: ns.flatMap enc) = true:=by
  unfold bodyOk
  have h1 : bytesOk (tag :: ns.flatMap enc) = true:=bytesOk_of (fun z hz=>by
   rcases List.mem_cons.1 hz with h | h
   ·rw [h]; exact ht
   ·exact enc_flat_bytes z h) (by rw [List.length_cons]; omega)
  rw [h1]
  simp only [Bool.true_and,Bool.and_eq_true,decide_eq_true_eq,List.length_cons]
  omega
 unfold nbF
 rw [if_pos ⟨hb,rfl⟩,rdN_enc ns 1 [] [] hn (by rw [List.append_nil]; rfl)]
 unfold nbE
 rw [List.nil_append]
 have e : 1 + (ns.flatMap enc).length = (tag :: ns.flatMap enc).length:=by rw [List.length_cons]; omega
 simp only [e,decide_true]
theorem nbF_len {tag : Int} {k : Nat} {b ns : List Int} {q : Bool} (h : nbF tag k b = (some ns,q)) : ns.length = k:=by
 unfold nbF at h
 split at h
 ·rename_i hc
  cases hr : rdN b k 1 [] with
  | none=>rw [hr] at h; cases h
  | some x =>
   obtain ⟨ms,p⟩:=x
   rw [hr] at h
   simp only [nbE,Prod.mk.injEq,Option.some.injEq] at h
   have hbl : 1 ≤ b.length:=by
    have:=hc.1
    unfold bodyOk at this; simp at this; omega
   obtain ⟨ms',e1,e2,_⟩:=rdN_yes (bodyOk_by hc.1) k 1 [] ms p hbl hr
   rw [← h.1,e1]; simpa using e2
 ·cases h
end Go.Proofs.Ytmkijbfiilpccaa.Abs
