/- Checkpoints by states: reading one record list by the reference. No statement of the seat is proved here. -/
import Derived.Lib.Hide
import Derived.Test.YtmkijbfiilpccaaXlTy
import Derived.Test.YtmkijbfiilpccaaXlGCkq
import Derived.Test.YtmkijbfiilpccaaXlACkST
set_option linter.unusedSimpArgs false
set_option linter.unusedVariables false
set_option maxRecDepth 100000
set_option maxHeartbeats 16000000
namespace Go.Proofs.Ytmkijbfiilpccaa.Abs
open Go.RowKit
open R (val row ref)
abbrev stateR (x : Sta) : P0:=stateP x.r x.vs.isEmpty x.vs x.gs.isEmpty x.gs x.ms.isEmpty x.ms
theorem cown {k n m sz : Nat} (h : n = m) : Cell.own k 0 n sz = .own k 0 m sz:=by rw [h]
theorem var4 {E : TypeId} {a b c d a' b' c' d' : Cell} (h1 : a = a') (h2 : b = b') (h3 : c = c') (h4 : d = d') : Ob.var E [a,b,c,d] = .var E [a',b',c',d']:=by rw [h1,h2,h3,h4]
theorem wantB_len (x : Sta) : (wantB x).length ≤ 1048576:=by
 unfold wantB
 split
 ·rename_i ho
  have hF:=Sta.okF ho
  rw [ckB_len hF]
  have:=hF.many
  have:=hF.ml
  omega
 ·simp
theorem wantB_ok (x : Sta) : (x.ok = false → wantB x = []) ∧ (x.ok = true → 0 < (wantB x).length ∧ ∀ D,(true && decide (ckB x <+: D)) = decide (wantB x <+: D)):=by
 constructor
 ·intro h; unfold wantB; rw [h]; rfl
 ·intro h
  have e : wantB x = ckB x:=by unfold wantB; rw [h]; rfl
  rw [e]
  exact ⟨by rw [ckB_len (Sta.okF h)]; omega,fun D=>by rw [Bool.true_and]⟩
theorem rcdH_form {b : List Int} {n1 i1 n2 i2 n3 i3 : Int} {t1 t2 t3 : Bool} (h1 : decAt (1 :: b) 1 = (if t1 then some (n1,i1) else none)) (h2 : decAt (1 :: b) i1 = (if t2 then some (n2,i2) else none)) (h3 : decAt (1 :: b) i2 = (if t3 then some (n3,i3) else none)) :
  rcdH (1 :: b) = if t1 && t2 && t3 then some (n1,n2,n3) else none:=by
 unfold rcdH
 rw [List.head?_cons,if_pos rfl,h1]
 cases t1
 ·rfl
 ·simp only [if_true]
  rw [h2]
  cases t2
  ·rfl
  ·simp only [if_true]
   rw [h3]
   cases t3<;>rfl
theorem rcdH_no {b : List Int} (h : b.head? ≠ some 1) : rcdH b = none:=by unfold rcdH; rw [if_neg h]
theorem f_l18ReadZ (nil : Bool) (L : List (List Int)) (at_ : Nat) (hat : at_ < L.length) (hh : L[at_].head? ≠ some 1) : Fn Try.prog 27 [.one (row nil 1 (rowsI L)),iP (at_ : Int)] (.tup [stateP 0 true [] true [] true [],iP 0,.one (bool false)]):=by
 have hlenL:=Zag L
 have hx:=Za3 hat
 generalize L[at_] = b at *
 cases b with
 | nil =>
  refine Zy (l:=[.cell 4 28,.tmp 5,.tmp 6]) Try.func27 kRf rfl Try.ntmps27 rfl rfl ?_; simp only [argEnv,P0.d,Nat.reduceAdd]
  repeat' (first|refine wk ?_|((first|refine' w_q rfl rfl ?xa rfl ?_|refine' v_q rfl rfl ?xa rfl ?_|refine' Zh rfl rfl (Zb rfl) rfl ?xa rfl ?_|refine' Zi rfl rfl (Zb rfl) rfl ?xa rfl ?_);case xa=>exact Zn tbOk rfl rfl rfl rfl oM hx)|(refine wkB ?_ ?_<;>intro hg_<;>try exact wkX)|fail)
  all_goals first
   | exact ret_3 (Zat rfl rfl tyF0 rfl rfl rfl (Zar (by exact ⟨Zaq,Zae,Zae,Zae,trivial⟩))) (Zr rfl (Z4 rfl)) (Zr rfl (Zo rfl))
   | (exfalso; simp_all; done)
 | cons z b =>
  have hz : z ≠ 1:=fun e=>hh (by rw [e]; rfl)
  have hx2 : (ints (z :: b))[(0 : Int).toNat]? = some (iP z):=rfl
  refine Zy (l:=[.cell 4 28,.tmp 5,.tmp 6]) Try.func27 kRf rfl Try.ntmps27 rfl rfl ?_; simp only [argEnv,P0.d,Nat.reduceAdd]
  repeat' (first|refine wk ?_|((first|refine' w_q rfl rfl ?xa rfl ?_|refine' v_q rfl rfl ?xa rfl ?_|refine' Zh rfl rfl (Zb rfl) rfl ?xa rfl ?_|refine' Zi rfl rfl (Zb rfl) rfl ?xa rfl ?_);case xa=>exact Zn tbOk rfl rfl rfl rfl oM (by first|exact hx|exact hx2))|(refine wkB ?_ ?_<;>intro hg_<;>try exact wkX)|fail)
  all_goals first
   | exact ret_3 (Zat rfl rfl tyF0 rfl rfl rfl (Zar (by exact ⟨Zaq,Zae,Zae,Zae,trivial⟩))) (Zr rfl (Z4 rfl)) (Zr rfl (Zo rfl))
   | (exfalso; simp_all; done)
theorem rdLoop_V {D : List (List Int)} {M f k : Nat} {x : Sta} {c : List Int} {n j : Int} {t : Bool} (hk : k < M) (hc : D.getD (k + 1) [] = c) (f1 : decAt c 1 = if t then some (n,j) else none) :
  rdLoop D M (f + 1) k x = if t = true ∧ j = (c.length : Int) - 1 then rdLoop D M f (k + 1) ⟨x.r,x.vs ++ [n - 1],x.gs ++ [c.getD j.toNat 0 == 1],x.ms⟩ else (x,false):=by
 rw [rdLoop,if_pos hk,hc]
 unfold rcdV
 rw [f1]
 cases t
 ·simp
 ·simp only [if_true,true_and]
  by_cases h : j = (c.length : Int) - 1
  ·rw [if_pos h,if_pos h]
  ·rw [if_neg h,if_neg h]
theorem rdLoop_M {D : List (List Int)} {M f k : Nat} {x : Sta} {c : List Int} {e : E3} {t : Bool} (hk : ¬ k < M) (hc : D.getD (k + 1) [] = c) (f1 : readE (c.drop 1) = if t then some e else none) :
  rdLoop D M (f + 1) k x = if t = true then rdLoop D M f (k + 1) ⟨x.r,x.vs,x.gs,x.ms ++ [e]⟩ else (x,false):=by
 rw [rdLoop,if_neg hk,hc,f1]
 cases t<;>simp
theorem hdG {D : List (List Int)} {b : List Int} {n1 i1 n2 i2 n3 i3 : Int} {t1 t2 t3 : Bool} (h1 : decAt (1 :: b) 1 = (if t1 then some (n1,i1) else none)) (h2 : decAt (1 :: b) i1 = (if t2 then some (n2,i2) else none)) (h3 : decAt (1 :: b) i2 = (if t3 then some (n3,i3) else none)) :
  rdRes ((1 :: b) :: D) = if t1 = true ∧ t2 = true ∧ t3 = true ∧ n2 ≤ 16 ∧ n3 ≤ 2000 ∧ n2 + n3 + 1 < (((1 :: b) :: D).length : Int) then rdFin ((1 :: b) :: D) (rdLoop ((1 :: b) :: D) n2.toNat (n2.toNat + n3.toNat) 0 ⟨n1,[],[],[]⟩) else (zSta,0,false):=by
 unfold rdRes
 simp only [rcdH_form h1 h2 h3]
 cases t1<;>cases t2<;>cases t3<;>simp
theorem f_l18Read1 (nil : Bool) (L : List (List Int)) (at_ : Nat) (hl : L.length ≤ 2000) (hat : at_ < L.length) (hL : ∀ b ∈ L, b.length ≤ 1048576) (hh : L[at_].head? = some 1) :
    Fn Try.prog 27 [.one (row nil 1 (rowsI L)), iP (at_ : Int)] (.tup [stateR (rdRes (L.drop at_)).1, iP (rdRes (L.drop at_)).2.1, .one (bool (rdRes (L.drop at_)).2.2)]) := by
  have hlenL := Zag L
  have hx := Za3 hat
  have hD := List.drop_eq_getElem_cons hat
  have hgetD : ∀ k, at_ + (k + 1) < L.length → ∃ c, (L.drop at_).getD (k + 1) [] = c ∧ (rowsI L)[((at_ + 1 + k : Nat) : Int).toNat]? = some (rowP c) ∧ c.length ≤ 1048576 := fun k hk => ⟨L[at_ + (k + 1)], by rw [List.getD_eq_getElem?_getD, List.getElem?_drop, List.getElem?_eq_getElem hk]; rfl, by rw [show at_ + 1 + k = at_ + (k + 1) by omega]; exact Za3 hk, hL _ (List.getElem_mem hk)⟩
  obtain ⟨b, hb⟩ : ∃ b, L[at_] = 1 :: b := by
    cases hc : L[at_] with
    | nil => rw [hc] at hh; cases hh
    | cons z b => rw [hc] at hh; simp only [List.head?_cons, Option.some.injEq] at hh; exact ⟨b, by rw [hh]⟩
  rw [hb] at hx hD
  have hx2 : (ints (1 :: b))[(0 : Int).toNat]? = some (iP 1) := rfl
  have hlD : (L.drop at_).length = L.length - at_ := List.length_drop ..
  obtain ⟨n1, i1, t1, e1, f1, g1⟩ := decForm (decAt (1 :: b) 1)
  obtain ⟨n2, i2, t2, e2, f2, g2⟩ := decForm (decAt (1 :: b) i1)
  obtain ⟨n3, i3, t3, e3, f3, g3⟩ := decForm (decAt (1 :: b) i2)
  have hX := hdG (D := L.drop (at_ + 1)) f1 f2 f3
  rw [← hD, hlD] at hX
  have hb2 : 0 ≤ n2 ∧ n2 ≤ 1000000 := by
    cases h : t2
    · have := g2 h; omega
    · have := decForm_at f2 h; omega
  have hb3 : 0 ≤ n3 ∧ n3 ≤ 1000000 := by
    cases h : t3
    · have := g3 h; omega
    · have := decForm_at f3 h; omega
  have KD1 := Zby false (1 :: b) 1
  have KD2 := Zby false (1 :: b) i1
  have KD3 := Zby false (1 :: b) i2
  rw [e1] at KD1
  rw [e2] at KD2
  rw [e3] at KD3
  clear e1 e2 e3 f1 f2 f3 g1 g2 g3 hD hlD hh hb
  have hw0 : IntKind.i64.wrap ((at_ : Int) + 1) = ((at_ + 1 + 0 : Nat) : Int) := by rw [IntWalk.i64_in _ oM]; omega
  have hL0 := hL
  clear hL
  obtain ⟨N2, rfl⟩ := Int.eq_ofNat_of_zero_le hb2.1
  obtain ⟨N3, rfl⟩ := Int.eq_ofNat_of_zero_le hb3.1
  have hw1 : IntKind.i64.wrap ((at_ : Int) + (N2 : Int)) = (at_ : Int) + N2 := IntWalk.i64_in _ oM
  have hw2 : IntKind.i64.wrap (IntKind.i64.wrap ((at_ : Int) + (N2 : Int)) + (N3 : Int)) = (at_ : Int) + N2 + N3 := by rw [hw1]; exact IntWalk.i64_in _ oM
  have hw3 : IntKind.i64.wrap (IntKind.i64.wrap (IntKind.i64.wrap ((at_ : Int) + (N2 : Int)) + (N3 : Int)) + 1) = (at_ : Int) + N2 + N3 + 1 := by rw [hw2]; exact IntWalk.i64_in _ oM
  by_cases hg : t1 = true ∧ t2 = true ∧ t3 = true ∧ (N2 : Int) ≤ 16 ∧ (N3 : Int) ≤ 2000 ∧ (N2 : Int) + (N3 : Int) + 1 < ((L.length - at_ : Nat) : Int)
  · rw [if_pos hg] at hX
    rw [hX]
    obtain ⟨rfl, rfl, rfl, q1, q2, q3⟩ := hg
    rw [Int.toNat_natCast, Int.toNat_natCast]
    clear hX
    refine Zy (l := [.cell 4 28, .tmp 5, .tmp 6]) Try.func27 kRf rfl Try.ntmps27 rfl rfl ?_; simp only [argEnv, P0.d, Nat.reduceAdd]
    repeat' (first|refine wk ?_|((first|refine' w_q rfl rfl ?xa rfl ?_|refine' v_q rfl rfl ?xa rfl ?_|refine' Zh rfl rfl (Zb rfl) rfl ?xa rfl ?_|refine' Zi rfl rfl (Zb rfl) rfl ?xa rfl ?_);case xa => first|exact Zn tbOk rfl rfl rfl rfl oM (by first|exact hx|exact hx2)|exact Ze KD1 rfl ⟨Zd (Za rfl), Zd (Za rfl), trivial⟩|exact Ze KD2 rfl ⟨Zd (Za rfl), Zd (Za rfl), trivial⟩|exact Ze KD3 rfl ⟨Zd (Za rfl), Zd (Za rfl), trivial⟩)|(refine wkB ?_ ?_<;>intro hg_<;>try exact wkX)|fail)
    -- LOOP
    obtain ⟨F, hF00, hF10, hF01, hF11⟩ : ∃ F : Nat × List Int × List Bool × List E3 → St,
        (∀ k, F (k, [], [], []) = mkS 200 [(17, .one (.r true (int ((at_ + 1 + k : Nat) : Int)))), (14, .one (.r true (int (N3 : Int)))), (11, .one (.r true (int (N2 : Int)))), (7, .one (.ptr 7 0 0 0)), (4, .one (.ptr 4 0 0 0)), (1, .one (.r false (int (at_ : Int)))), (0, .one (.r false (row nil 1 (rowsI L))))] [(7, .var 28 [.r true (int n1), .r true (row true 0 []), .r true (row true 0 []), .r true (row true 0 [])]), (4, .var 28 [.r true (int 0), .r true (row true 0 []), .r true (row true 0 []), .r true (row true 0 [])])]) ∧
        (∀ k vs gs, vs ≠ [] → gs ≠ [] → F (k, vs, gs, []) = mkS 200 [(17, .one (.r true (int ((at_ + 1 + k : Nat) : Int)))), (14, .one (.r true (int (N3 : Int)))), (11, .one (.r true (int (N2 : Int)))), (7, .one (.ptr 7 0 0 0)), (4, .one (.ptr 4 0 0 0)), (1, .one (.r false (int (at_ : Int)))), (0, .one (.r false (row nil 1 (rowsI L))))] [(7, .var 28 [.r true (int n1), .own 101 0 (vs).length 1, .own 102 0 (gs).length 1, .r true (row true 0 [])]), (101, .sl 3 1 true (ints (vs))), (102, .sl 4 1 true (bools (gs))), (4, .var 28 [.r true (int 0), .r true (row true 0 []), .r true (row true 0 []), .r true (row true 0 [])])]) ∧
        (∀ k ms, ms ≠ [] → F (k, [], [], ms) = mkS 200 [(17, .one (.r true (int ((at_ + 1 + k : Nat) : Int)))), (14, .one (.r true (int (N3 : Int)))), (11, .one (.r true (int (N2 : Int)))), (7, .one (.ptr 7 0 0 0)), (4, .one (.ptr 4 0 0 0)), (1, .one (.r false (int (at_ : Int)))), (0, .one (.r false (row nil 1 (rowsI L))))] [(7, .var 28 [.r true (int n1), .r true (row true 0 []), .r true (row true 0 []), .own 103 0 (ms).length 3]), (103, .sl 70 3 true (edges (ms))), (4, .var 28 [.r true (int 0), .r true (row true 0 []), .r true (row true 0 []), .r true (row true 0 [])])]) ∧
        (∀ k vs gs ms, vs ≠ [] → gs ≠ [] → ms ≠ [] → F (k, vs, gs, ms) = mkS 200 [(17, .one (.r true (int ((at_ + 1 + k : Nat) : Int)))), (14, .one (.r true (int (N3 : Int)))), (11, .one (.r true (int (N2 : Int)))), (7, .one (.ptr 7 0 0 0)), (4, .one (.ptr 4 0 0 0)), (1, .one (.r false (int (at_ : Int)))), (0, .one (.r false (row nil 1 (rowsI L))))] [(7, .var 28 [.r true (int n1), .own 101 0 (vs).length 1, .own 102 0 (gs).length 1, .own 103 0 (ms).length 3]), (101, .sl 3 1 true (ints (vs))), (102, .sl 4 1 true (bools (gs))), (103, .sl 70 3 true (edges (ms))), (4, .var 28 [.r true (int 0), .r true (row true 0 []), .r true (row true 0 []), .r true (row true 0 [])])]) := by
      refine ⟨fun y => if y.2.1.isEmpty then (if y.2.2.2.isEmpty then mkS 200 [(17, .one (.r true (int ((at_ + 1 + y.1 : Nat) : Int)))), (14, .one (.r true (int (N3 : Int)))), (11, .one (.r true (int (N2 : Int)))), (7, .one (.ptr 7 0 0 0)), (4, .one (.ptr 4 0 0 0)), (1, .one (.r false (int (at_ : Int)))), (0, .one (.r false (row nil 1 (rowsI L))))] [(7, .var 28 [.r true (int n1), .r true (row true 0 []), .r true (row true 0 []), .r true (row true 0 [])]), (4, .var 28 [.r true (int 0), .r true (row true 0 []), .r true (row true 0 []), .r true (row true 0 [])])] else mkS 200 [(17, .one (.r true (int ((at_ + 1 + y.1 : Nat) : Int)))), (14, .one (.r true (int (N3 : Int)))), (11, .one (.r true (int (N2 : Int)))), (7, .one (.ptr 7 0 0 0)), (4, .one (.ptr 4 0 0 0)), (1, .one (.r false (int (at_ : Int)))), (0, .one (.r false (row nil 1 (rowsI L))))] [(7, .var 28 [.r true (int n1), .r true (row true 0 []), .r true (row true 0 []), .own 103 0 (y.2.2.2).length 3]), (103, .sl 70 3 true (edges (y.2.2.2))), (4, .var 28 [.r true (int 0), .r true (row true 0 []), .r true (row true 0 []), .r true (row true 0 [])])]) else (if y.2.2.2.isEmpty then mkS 200 [(17, .one (.r true (int ((at_ + 1 + y.1 : Nat) : Int)))), (14, .one (.r true (int (N3 : Int)))), (11, .one (.r true (int (N2 : Int)))), (7, .one (.ptr 7 0 0 0)), (4, .one (.ptr 4 0 0 0)), (1, .one (.r false (int (at_ : Int)))), (0, .one (.r false (row nil 1 (rowsI L))))] [(7, .var 28 [.r true (int n1), .own 101 0 (y.2.1).length 1, .own 102 0 (y.2.2.1).length 1, .r true (row true 0 [])]), (101, .sl 3 1 true (ints (y.2.1))), (102, .sl 4 1 true (bools (y.2.2.1))), (4, .var 28 [.r true (int 0), .r true (row true 0 []), .r true (row true 0 []), .r true (row true 0 [])])] else mkS 200 [(17, .one (.r true (int ((at_ + 1 + y.1 : Nat) : Int)))), (14, .one (.r true (int (N3 : Int)))), (11, .one (.r true (int (N2 : Int)))), (7, .one (.ptr 7 0 0 0)), (4, .one (.ptr 4 0 0 0)), (1, .one (.r false (int (at_ : Int)))), (0, .one (.r false (row nil 1 (rowsI L))))] [(7, .var 28 [.r true (int n1), .own 101 0 (y.2.1).length 1, .own 102 0 (y.2.2.1).length 1, .own 103 0 (y.2.2.2).length 3]), (101, .sl 3 1 true (ints (y.2.1))), (102, .sl 4 1 true (bools (y.2.2.1))), (103, .sl 70 3 true (edges (y.2.2.2))), (4, .var 28 [.r true (int 0), .r true (row true 0 []), .r true (row true 0 []), .r true (row true 0 [])])]), fun k => rfl, fun k vs gs h1 h2 => ?_, fun k ms h1 => ?_, fun k vs gs ms h1 h2 h3 => ?_⟩
      · cases vs with
        | nil => exact absurd rfl h1
        | cons v vs => rfl
      · cases ms with
        | nil => exact absurd rfl h1
        | cons v vs => rfl
      · cases vs with
        | nil => exact absurd rfl h1
        | cons v vs => cases ms with
          | nil => exact absurd rfl h3
          | cons v vs => rfl
    have hlD : (L.drop at_).length = L.length - at_ := List.length_drop ..
    obtain ⟨R, hR⟩ : ∃ R, R = rdLoop (L.drop at_) N2 (N2 + N3) 0 ⟨n1, [], [], []⟩ := ⟨_, rfl⟩
    rw [← hR]
    have hall : ∀ b ∈ L, b.length ≤ 1048576 := hL0
    generalize hDD : L.drop at_ = D at *
    have hR2 : ∀ x : Sta, R = (x, false) → rdFin D R = (x, 0, false) := fun x h => by rw [h]; rfl
    have hR3 : ∀ x : Sta, R = (x, true) → rdFin D R = (x, ((wantB x).length : Int), x.ok && decide (ckB x <+: D)) := fun x h => by rw [h]; rfl
    generalize rdFin D R = X at *
    refine Z7 (fun y : Nat × List Int × List Bool × List E3 => y.1 ≤ N2 + N3 ∧ R = rdLoop D N2 (N2 + N3 - y.1) y.1 ⟨n1, y.2.1, y.2.2.1, y.2.2.2⟩ ∧ y.2.1.length = min y.1 N2 ∧ y.2.2.1.length = y.2.1.length ∧ y.2.2.2.length = y.1 - N2) F (fun y => N2 + N3 - y.1) (0, [], [], []) ⟨Nat.zero_le _, hR, by simp, rfl, by simp⟩ (by
      rw [hF00]
      (refine Zg [] rfl ?_ ?_ <;> repeat' (first|refine wkS ?_ ?_|exact wkE|exact Zq hw0))) ?_
    rintro ⟨k, vs, gs, ms⟩ ⟨hk, hRk, hvl, hgl, hml⟩
    dsimp only at hk hRk hvl hgl hml
    clear hR KD1 KD2 KD3 hx hx2
    by_cases hkt : k < N2 + N3
    · have hf : N2 + N3 - k = (N2 + N3 - (k + 1)) + 1 := by omega
      rw [hf] at hRk
      obtain ⟨c, hc, hxc, hcl⟩ := hgetD k oM
      have hci := Zp c
      have hwc : IntKind.i64.wrap (((ints c).length : Int) - 1) = (c.length : Int) - 1 := by rw [hci]; exact IntWalk.i64_in _ oM
      have hwk : IntKind.i64.wrap (((at_ + 1 + k : Nat) : Int) + 1) = ((at_ + 1 + (k + 1) : Nat) : Int) := by rw [IntWalk.i64_in _ oM]; omega
      by_cases hkv : k < N2
      · have hms : ms = [] := List.eq_nil_of_length_eq_zero oM
        subst hms
        obtain ⟨n, j, t, e1, f1, g1⟩ := decForm (decAt c 1)
        have KV := Zby false c 1
        rw [e1] at KV
        have hRk2 := hRk.trans (rdLoop_V hkv hc f1)
        dsimp only at hRk2
        clear hRk hgetD e1 hc
        by_cases hgood : t = true ∧ j = (c.length : Int) - 1
        · rw [if_pos hgood] at hRk2
          obtain ⟨rfl, hj⟩ := hgood
          have hb := decForm_at f1 rfl
          have hj0 : 0 ≤ j := by omega
          have hxj := ints_atI (xs := c) (i := j) hj0 oM
          have hwn : IntKind.i64.wrap (n - 1) = n - 1 := IntWalk.i64_in _ oM
          have hfin : ∀ s' : St, Weak s' (F (k + 1, vs ++ [n - 1], gs ++ [c.getD j.toNat 0 == 1], [])) → ∃ y' : Nat × List Int × List Bool × List E3, (y'.1 ≤ N2 + N3 ∧ R = rdLoop D N2 (N2 + N3 - y'.1) y'.1 ⟨n1, y'.2.1, y'.2.2.1, y'.2.2.2⟩ ∧ y'.2.1.length = min y'.1 N2 ∧ y'.2.2.1.length = y'.2.1.length ∧ y'.2.2.2.length = y'.1 - N2) ∧ Weak s' (F y') ∧ N2 + N3 - y'.1 < N2 + N3 - k := fun s' h => ⟨(k + 1, vs ++ [n - 1], gs ++ [c.getD j.toNat 0 == 1], []), ⟨by dsimp only; omega, hRk2, by simp; omega, by simp; omega, by simp; omega⟩, h, by dsimp only; omega⟩
          rw [hF10 _ _ _ (by simp) (by simp)] at hfin
          have happV : ints (vs ++ [n - 1]) = ints vs ++ [.one (int (IntKind.i64.wrap (n - 1)))] := by rw [hwn]; unfold ints; simp
          have happG : bools (gs ++ [c.getD j.toNat 0 == 1]) = bools gs ++ [.one (bool (c.getD j.toNat 0 == 1))] := by unfold bools; simp
          rw [happV, happG] at hfin
          clear happV happG hRk2 f1 g1 hwn hR2 hR3
          generalize c.getD j.toNat 0 = z at *
          cases vs with
          | nil =>
            have hgs : gs = [] := List.eq_nil_of_length_eq_zero (by simpa using hgl)
            subst hgs
            rw [hF00]
            clear hF00 hF01 hF10 hF11
            repeat' (first|refine wk ?_|((first|refine' w_q rfl rfl ?xa rfl ?_|refine' v_q rfl rfl ?xa rfl ?_|refine' Zh rfl rfl (Zb rfl) rfl ?xa rfl ?_|refine' Zi rfl rfl (Zb rfl) rfl ?xa rfl ?_);case xa => first|exact Zn tbOk rfl rfl rfl rfl (by first|omega|exact hj0) (by first|exact hxc|exact hxj)|exact Ze KV rfl ⟨Zd (Za rfl), Zd (Za rfl), trivial⟩)|((first|refine' w_e rfl ?xa ?xb ?xc ?xe ?_|refine' v_e rfl ?xa ?xb ?xc ?xe ?_);(case xa => first|exact Z0 [.tmp 148] tlOk rfl rfl rfl rfl rfl rfl (Zad rfl) (by simp)|exact Z0 [.tmp 158] tlOk rfl rfl rfl rfl rfl rfl (Zad rfl) (by simp)|exact Zj 150 rfl (Zaw tlOk rfl rfl rfl rfl rfl (Zaa (Z8 (Zf rfl) rfl) (by simp [plain1])) (by simp) (by simp only [maxLen, List.length_append, List.length_cons, List.length_nil, Zp, Zab];omega) (by (try simp only [List.length_append, List.length_cons, List.length_nil, Zp, Zab]);omega))|exact Zj 160 rfl (Zaw tlOk rfl rfl rfl rfl rfl (Zaa (Z8 (Zf rfl) rfl) (by simp [plain1])) (by simp) (by simp only [maxLen, List.length_append, List.length_cons, List.length_nil, Zp, Zab];omega) (by (try simp only [List.length_append, List.length_cons, List.length_nil, Zp, Zab]);omega)));(case xb|xc|xe=>rfl);try refine wkD ?_)|(refine wkB ?_ ?_<;>intro hg_<;>try exact wkX)|fail)
            all_goals first
              | (refine hfin _ ?_
                 (refine Zg [(101, 150), (102, 160)] rfl ?_ ?_ <;> repeat' (first|refine wkS ?_ ?_|exact wkE|exact Zq hwk|exact Zaf rfl rfl|exact d_own (by simp))))
              | (exfalso; omega)
          | cons v vs =>
            have hgs : gs ≠ [] := fun e => by rw [e] at hgl; simp at hgl
            rw [hF10 _ _ _ (by simp) hgs]
            clear hF00 hF01 hF10 hF11 hgs
            generalize v :: vs = VS at *
            have hvi := (Zp VS).symm
            have hgi := (Zab gs).symm
            repeat' (first|refine wk ?_|((first|refine' w_q rfl rfl ?xa rfl ?_|refine' v_q rfl rfl ?xa rfl ?_|refine' Zh rfl rfl (Zb rfl) rfl ?xa rfl ?_|refine' Zi rfl rfl (Zb rfl) rfl ?xa rfl ?_);case xa => first|exact Zn tbOk rfl rfl rfl rfl (by first|omega|exact hj0) (by first|exact hxc|exact hxj)|exact Ze KV rfl ⟨Zd (Za rfl), Zd (Za rfl), trivial⟩)|((first|refine' w_e rfl ?xa ?xb ?xc ?xe ?_|refine' v_e rfl ?xa ?xb ?xc ?xe ?_);(case xa => first|exact Z0 [.tmp 148] tlOk rfl rfl rfl rfl rfl rfl (Zad rfl) (by simp)|exact Z0 [.tmp 158] tlOk rfl rfl rfl rfl rfl rfl (Zad rfl) (by simp)|exact Zj 150 rfl (Zah tlOk rfl rfl rfl rfl rfl rfl (Zaa (Z8 (Zf rfl) rfl) (by simp [plain1])) hvi (by simp only [maxLen, List.length_append, List.length_cons, List.length_nil, Zp, Zab];omega) (by (try simp only [List.length_append, List.length_cons, List.length_nil, Zp, Zab]);omega))|exact Zj 160 rfl (Zah tlOk rfl rfl rfl rfl rfl rfl (Zaa (Z8 (Zf rfl) rfl) (by simp [plain1])) hgi (by simp only [maxLen, List.length_append, List.length_cons, List.length_nil, Zp, Zab];omega) (by (try simp only [List.length_append, List.length_cons, List.length_nil, Zp, Zab]);omega)));(case xb|xc|xe=>rfl);try refine wkD ?_)|(refine wkB ?_ ?_<;>intro hg_<;>try exact wkX)|fail)
            all_goals first
              | (refine hfin _ ?_
                 (refine Zg [(101, 150), (102, 160)] rfl ?_ ?_ <;> repeat' (first|refine wkS ?_ ?_|exact wkE|exact Zq hwk|exact Zaf rfl rfl|exact var4 rfl (cown (by simp only [List.length_append, List.length_cons, List.length_nil, Zp])) (cown (by simp only [List.length_append, List.length_cons, List.length_nil, Zab])) rfl)))
              | (exfalso; omega)
        · rw [if_neg hgood] at hRk2
          have hX := hR2 _ hRk2
          rw [hX]
          dsimp only
          clear hX hR2 hR3 hRk2 f1
          cases vs with
          | nil =>
            have hgs : gs = [] := List.eq_nil_of_length_eq_zero (by simpa using hgl)
            subst hgs
            rw [hF00]
            clear hF00 hF01 hF10 hF11
            repeat' (first|refine wk ?_|((first|refine' w_q rfl rfl ?xa rfl ?_|refine' v_q rfl rfl ?xa rfl ?_|refine' Zh rfl rfl (Zb rfl) rfl ?xa rfl ?_|refine' Zi rfl rfl (Zb rfl) rfl ?xa rfl ?_);case xa => first|exact Zn tbOk rfl rfl rfl rfl (by first|omega|exact hj0) (by first|exact hxc|exact hxj)|exact Ze KV rfl ⟨Zd (Za rfl), Zd (Za rfl), trivial⟩)|((first|refine' w_e rfl ?xa ?xb ?xc ?xe ?_|refine' v_e rfl ?xa ?xb ?xc ?xe ?_);(case xa => first|exact Z0 [.tmp 148] tlOk rfl rfl rfl rfl rfl rfl (Zad rfl) (by simp)|exact Z0 [.tmp 158] tlOk rfl rfl rfl rfl rfl rfl (Zad rfl) (by simp)|exact Zj 150 rfl (Zaw tlOk rfl rfl rfl rfl rfl (Zaa (Z8 (Zf rfl) rfl) (by simp [plain1])) (by simp) (by simp only [maxLen, List.length_append, List.length_cons, List.length_nil, Zp, Zab];omega) (by (try simp only [List.length_append, List.length_cons, List.length_nil, Zp, Zab]);omega))|exact Zj 160 rfl (Zaw tlOk rfl rfl rfl rfl rfl (Zaa (Z8 (Zf rfl) rfl) (by simp [plain1])) (by simp) (by simp only [maxLen, List.length_append, List.length_cons, List.length_nil, Zp, Zab];omega) (by (try simp only [List.length_append, List.length_cons, List.length_nil, Zp, Zab]);omega)));(case xb|xc|xe=>rfl);try refine wkD ?_)|(refine wkB ?_ ?_<;>intro hg_<;>try exact wkX)|fail)
            all_goals first
              | (exfalso; exact hgood ⟨by assumption, by omega⟩)
              | exact ret_3 (Zat rfl rfl tyF0 rfl rfl rfl (Zar (by refine ⟨Zaq, ?_, ?_, ?_, trivial⟩ <;> first|exact Zae|exact Zz (Zf rfl) hvi|exact Zz (Zf rfl) hgi|exact Zz (Zf rfl) hmi))) (Zr rfl (Z4 rfl)) (Zr rfl (Zo rfl))
          | cons v vs =>
            have hgs : gs ≠ [] := fun e => by rw [e] at hgl; simp at hgl
            rw [hF10 _ _ _ (by simp) hgs]
            clear hF00 hF01 hF10 hF11
            have hTT : stateR ⟨n1, v :: vs, gs, []⟩ = stateP n1 false (v :: vs) false gs true [] := by
              cases gs with
              | nil => exact absurd rfl hgs
              | cons g gs => rfl
            rw [hTT]
            clear hTT hgs
            generalize v :: vs = VS at *
            have hvi := (Zp VS).symm
            have hgi := (Zab gs).symm
            repeat' (first|refine wk ?_|((first|refine' w_q rfl rfl ?xa rfl ?_|refine' v_q rfl rfl ?xa rfl ?_|refine' Zh rfl rfl (Zb rfl) rfl ?xa rfl ?_|refine' Zi rfl rfl (Zb rfl) rfl ?xa rfl ?_);case xa => first|exact Zn tbOk rfl rfl rfl rfl (by first|omega|exact hj0) (by first|exact hxc|exact hxj)|exact Ze KV rfl ⟨Zd (Za rfl), Zd (Za rfl), trivial⟩)|((first|refine' w_e rfl ?xa ?xb ?xc ?xe ?_|refine' v_e rfl ?xa ?xb ?xc ?xe ?_);(case xa => first|exact Z0 [.tmp 148] tlOk rfl rfl rfl rfl rfl rfl (Zad rfl) (by simp)|exact Z0 [.tmp 158] tlOk rfl rfl rfl rfl rfl rfl (Zad rfl) (by simp)|exact Zj 150 rfl (Zah tlOk rfl rfl rfl rfl rfl rfl (Zaa (Z8 (Zf rfl) rfl) (by simp [plain1])) hvi (by simp only [maxLen, List.length_append, List.length_cons, List.length_nil, Zp, Zab];omega) (by (try simp only [List.length_append, List.length_cons, List.length_nil, Zp, Zab]);omega))|exact Zj 160 rfl (Zah tlOk rfl rfl rfl rfl rfl rfl (Zaa (Z8 (Zf rfl) rfl) (by simp [plain1])) hgi (by simp only [maxLen, List.length_append, List.length_cons, List.length_nil, Zp, Zab];omega) (by (try simp only [List.length_append, List.length_cons, List.length_nil, Zp, Zab]);omega)));(case xb|xc|xe=>rfl);try refine wkD ?_)|(refine wkB ?_ ?_<;>intro hg_<;>try exact wkX)|fail)
            all_goals first
              | (exfalso; exact hgood ⟨by assumption, by omega⟩)
              | exact ret_3 (Zat rfl rfl tyF0 rfl rfl rfl (Zar (by refine ⟨Zaq, ?_, ?_, ?_, trivial⟩ <;> first|exact Zae|exact Zz (Zf rfl) hvi|exact Zz (Zf rfl) hgi|exact Zz (Zf rfl) hmi))) (Zr rfl (Z4 rfl)) (Zr rfl (Zo rfl))
      · obtain ⟨e, t, e1, f1⟩ := edgeForm (readE (c.drop 1))
        have hsl : ((ints c).drop (min 1 c.length)).take ((ints c).length - min 1 c.length) = ints (c.drop 1) := by
          cases c with
          | nil => rfl
          | cons z c => rw [show min 1 (z :: c).length = 1 by simp, Zp]; unfold ints; simp [List.take_of_length_le]
        have hmin : Abs.D.one (Cell.r true (int (if ((ints c).length : Int) < 1 then ((ints c).length : Int) else 1))) = Abs.D.one (.r true (int ((min 1 c.length : Nat) : Int))) := by
          rw [hci]; congr 3; split <;> omega
        have KM := f_specReadEdge false (c.drop 1)
        rw [e1, ← hsl] at KM
        have hRk2 := hRk.trans (rdLoop_M hkv hc f1)
        dsimp only at hRk2
        clear hRk hgetD e1 hc f1 hsl
        have hmn : min 1 c.length ≤ (ints c).length := by rw [hci]; omega
        cases t
        · rw [if_neg (by decide)] at hRk2
          have hX := hR2 _ hRk2
          rw [hX]
          dsimp only
          clear hX hR2 hR3 hRk2
          obtain ⟨e1, e2, e3⟩ := e
          by_cases hvs : vs = []
          · have hgs : gs = [] := by subst hvs; exact List.eq_nil_of_length_eq_zero (by simpa using hgl)
            subst hvs hgs
            by_cases hms : ms = []
            · subst hms
              rw [hF00]
              clear hF00 hF01 hF10 hF11
              have hTT : stateR ⟨n1, [], [], []⟩ = stateP n1 true [] true [] true [] := rfl
              rw [hTT]
              clear hTT
              repeat' (first|refine wk ?_|((first|refine' w_q rfl rfl ?xa rfl ?_|refine' v_q rfl rfl ?xa rfl ?_|refine' Zh rfl rfl (Zb rfl) rfl ?xa rfl ?_|refine' Zi rfl rfl (Zb rfl) rfl ?xa rfl ?_);case xa => first|exact Zn tbOk rfl rfl rfl rfl oM hxc|exact Z9 (a := min 1 c.length) (b := (ints c).length) tbOk rfl rfl rfl ⟨_, (Za rfl).trans hmin⟩ rfl hmn (Nat.le_refl _)|exact Ze KM rfl ⟨Zd (Za rfl), trivial⟩)|((first|refine' w_e rfl ?xa ?xb ?xc ?xe ?_|refine' v_e rfl ?xa ?xb ?xc ?xe ?_);(case xa => first|exact Z0 [.tmp 182] tlOk rfl rfl rfl rfl rfl rfl (Zad rfl) (by simp)|exact Zj 184 rfl (Zaw tlOk rfl rfl rfl rfl rfl (Zaa (Z8 (Zf rfl) rfl) (Zax _ _ _)) (by simp) (by simp only [maxLen, List.length_append, List.length_cons, List.length_nil, Zv];omega) (by (try simp only [List.length_append, List.length_cons, List.length_nil, Zv]);omega)));(case xb|xc|xe=>rfl);try refine wkD ?_)|(refine wkB ?_ ?_<;>intro hg_<;>try exact wkX)|fail)
              all_goals first
                | exact ret_3 (Zat rfl rfl tyF0 rfl rfl rfl (Zar (by refine ⟨Zaq, ?_, ?_, ?_, trivial⟩ <;> first|exact Zae|exact Zz (Zf rfl) hvi|exact Zz (Zf rfl) hgi|exact Zz (Zf rfl) hmi))) (Zr rfl (Z4 rfl)) (Zr rfl (Zo rfl))
                | (exfalso; simp_all; done)
            · have hmf : ms.isEmpty = false := by cases ms with
                | nil => exact absurd rfl hms
                | cons v w => rfl
              have hmi := (Zv ms).symm
              rw [hF01 _ _ hms]
              clear hF00 hF01 hF10 hF11
              have hTT : stateR ⟨n1, [], [], ms⟩ = stateP n1 true [] true [] false ms := (by show stateP _ _ _ _ _ _ _ = _;rw [hmf];first|rfl|skip)
              rw [hTT]
              clear hTT
              repeat' (first|refine wk ?_|((first|refine' w_q rfl rfl ?xa rfl ?_|refine' v_q rfl rfl ?xa rfl ?_|refine' Zh rfl rfl (Zb rfl) rfl ?xa rfl ?_|refine' Zi rfl rfl (Zb rfl) rfl ?xa rfl ?_);case xa => first|exact Zn tbOk rfl rfl rfl rfl oM hxc|exact Z9 (a := min 1 c.length) (b := (ints c).length) tbOk rfl rfl rfl ⟨_, (Za rfl).trans hmin⟩ rfl hmn (Nat.le_refl _)|exact Ze KM rfl ⟨Zd (Za rfl), trivial⟩)|((first|refine' w_e rfl ?xa ?xb ?xc ?xe ?_|refine' v_e rfl ?xa ?xb ?xc ?xe ?_);(case xa => first|exact Z0 [.tmp 182] tlOk rfl rfl rfl rfl rfl rfl (Zad rfl) (by simp)|exact Zj 184 rfl (Zah tlOk rfl rfl rfl rfl rfl rfl (Zaa (Z8 (Zf rfl) rfl) (Zax _ _ _)) hmi (by simp only [maxLen, List.length_append, List.length_cons, List.length_nil, Zv];omega) (by (try simp only [List.length_append, List.length_cons, List.length_nil, Zv]);omega)));(case xb|xc|xe=>rfl);try refine wkD ?_)|(refine wkB ?_ ?_<;>intro hg_<;>try exact wkX)|fail)
              all_goals first
                | exact ret_3 (Zat rfl rfl tyF0 rfl rfl rfl (Zar (by refine ⟨Zaq, ?_, ?_, ?_, trivial⟩ <;> first|exact Zae|exact Zz (Zf rfl) hvi|exact Zz (Zf rfl) hgi|exact Zz (Zf rfl) hmi))) (Zr rfl (Z4 rfl)) (Zr rfl (Zo rfl))
                | (exfalso; simp_all; done)
          · have hgs : gs ≠ [] := fun e => hvs (by rw [e] at hgl; exact List.eq_nil_of_length_eq_zero (by simpa using hgl.symm))
            have hvf : vs.isEmpty = false := by cases vs with
              | nil => exact absurd rfl hvs
              | cons v w => rfl
            have hgf : gs.isEmpty = false := by cases gs with
              | nil => exact absurd rfl hgs
              | cons v w => rfl
            have hvi := (Zp vs).symm
            have hgi := (Zab gs).symm
            by_cases hms : ms = []
            · subst hms
              rw [hF10 _ _ _ hvs hgs]
              clear hF00 hF01 hF10 hF11
              have hTT : stateR ⟨n1, vs, gs, []⟩ = stateP n1 false vs false gs true [] := (by show stateP _ _ _ _ _ _ _ = _;rw [hvf, hgf];first|rfl|skip)
              rw [hTT]
              clear hTT
              repeat' (first|refine wk ?_|((first|refine' w_q rfl rfl ?xa rfl ?_|refine' v_q rfl rfl ?xa rfl ?_|refine' Zh rfl rfl (Zb rfl) rfl ?xa rfl ?_|refine' Zi rfl rfl (Zb rfl) rfl ?xa rfl ?_);case xa => first|exact Zn tbOk rfl rfl rfl rfl oM hxc|exact Z9 (a := min 1 c.length) (b := (ints c).length) tbOk rfl rfl rfl ⟨_, (Za rfl).trans hmin⟩ rfl hmn (Nat.le_refl _)|exact Ze KM rfl ⟨Zd (Za rfl), trivial⟩)|((first|refine' w_e rfl ?xa ?xb ?xc ?xe ?_|refine' v_e rfl ?xa ?xb ?xc ?xe ?_);(case xa => first|exact Z0 [.tmp 182] tlOk rfl rfl rfl rfl rfl rfl (Zad rfl) (by simp)|exact Zj 184 rfl (Zaw tlOk rfl rfl rfl rfl rfl (Zaa (Z8 (Zf rfl) rfl) (Zax _ _ _)) (by simp) (by simp only [maxLen, List.length_append, List.length_cons, List.length_nil, Zv];omega) (by (try simp only [List.length_append, List.length_cons, List.length_nil, Zv]);omega)));(case xb|xc|xe=>rfl);try refine wkD ?_)|(refine wkB ?_ ?_<;>intro hg_<;>try exact wkX)|fail)
              all_goals first
                | exact ret_3 (Zat rfl rfl tyF0 rfl rfl rfl (Zar (by refine ⟨Zaq, ?_, ?_, ?_, trivial⟩ <;> first|exact Zae|exact Zz (Zf rfl) hvi|exact Zz (Zf rfl) hgi|exact Zz (Zf rfl) hmi))) (Zr rfl (Z4 rfl)) (Zr rfl (Zo rfl))
                | (exfalso; simp_all; done)
            · have hmf : ms.isEmpty = false := by cases ms with
                | nil => exact absurd rfl hms
                | cons v w => rfl
              have hmi := (Zv ms).symm
              rw [hF11 _ _ _ _ hvs hgs hms]
              clear hF00 hF01 hF10 hF11
              have hTT : stateR ⟨n1, vs, gs, ms⟩ = stateP n1 false vs false gs false ms := (by show stateP _ _ _ _ _ _ _ = _;rw [hvf, hgf, hmf];first|rfl|skip)
              rw [hTT]
              clear hTT
              repeat' (first|refine wk ?_|((first|refine' w_q rfl rfl ?xa rfl ?_|refine' v_q rfl rfl ?xa rfl ?_|refine' Zh rfl rfl (Zb rfl) rfl ?xa rfl ?_|refine' Zi rfl rfl (Zb rfl) rfl ?xa rfl ?_);case xa => first|exact Zn tbOk rfl rfl rfl rfl oM hxc|exact Z9 (a := min 1 c.length) (b := (ints c).length) tbOk rfl rfl rfl ⟨_, (Za rfl).trans hmin⟩ rfl hmn (Nat.le_refl _)|exact Ze KM rfl ⟨Zd (Za rfl), trivial⟩)|((first|refine' w_e rfl ?xa ?xb ?xc ?xe ?_|refine' v_e rfl ?xa ?xb ?xc ?xe ?_);(case xa => first|exact Z0 [.tmp 182] tlOk rfl rfl rfl rfl rfl rfl (Zad rfl) (by simp)|exact Zj 184 rfl (Zah tlOk rfl rfl rfl rfl rfl rfl (Zaa (Z8 (Zf rfl) rfl) (Zax _ _ _)) hmi (by simp only [maxLen, List.length_append, List.length_cons, List.length_nil, Zv];omega) (by (try simp only [List.length_append, List.length_cons, List.length_nil, Zv]);omega)));(case xb|xc|xe=>rfl);try refine wkD ?_)|(refine wkB ?_ ?_<;>intro hg_<;>try exact wkX)|fail)
              all_goals first
                | exact ret_3 (Zat rfl rfl tyF0 rfl rfl rfl (Zar (by refine ⟨Zaq, ?_, ?_, ?_, trivial⟩ <;> first|exact Zae|exact Zz (Zf rfl) hvi|exact Zz (Zf rfl) hgi|exact Zz (Zf rfl) hmi))) (Zr rfl (Z4 rfl)) (Zr rfl (Zo rfl))
                | (exfalso; simp_all; done)
        · rw [if_pos rfl] at hRk2
          have hfin : ∀ s' : St, Weak s' (F (k + 1, vs, gs, ms ++ [e])) → ∃ y' : Nat × List Int × List Bool × List E3, (y'.1 ≤ N2 + N3 ∧ R = rdLoop D N2 (N2 + N3 - y'.1) y'.1 ⟨n1, y'.2.1, y'.2.2.1, y'.2.2.2⟩ ∧ y'.2.1.length = min y'.1 N2 ∧ y'.2.2.1.length = y'.2.1.length ∧ y'.2.2.2.length = y'.1 - N2) ∧ Weak s' (F y') ∧ N2 + N3 - y'.1 < N2 + N3 - k := fun s' h => ⟨(k + 1, vs, gs, ms ++ [e]), ⟨by dsimp only; omega, hRk2, by dsimp only; omega, hgl, by simp; omega⟩, h, by dsimp only; omega⟩
          have happM : edges (ms ++ [e]) = edges ms ++ [edgeP e] := by unfold edges; simp
          clear hRk2 hR2 hR3
          by_cases hvs : vs = []
          · have hgs : gs = [] := by subst hvs; exact List.eq_nil_of_length_eq_zero (by simpa using hgl)
            subst hvs hgs
            by_cases hms : ms = []
            · subst hms
              rw [hF01 _ _ (by simp), happM] at hfin
              rw [hF00]
              clear hF00 hF01 hF10 hF11 happM
              obtain ⟨e1, e2, e3⟩ := e
              repeat' (first|refine wk ?_|((first|refine' w_q rfl rfl ?xa rfl ?_|refine' v_q rfl rfl ?xa rfl ?_|refine' Zh rfl rfl (Zb rfl) rfl ?xa rfl ?_|refine' Zi rfl rfl (Zb rfl) rfl ?xa rfl ?_);case xa => first|exact Zn tbOk rfl rfl rfl rfl oM hxc|exact Z9 (a := min 1 c.length) (b := (ints c).length) tbOk rfl rfl rfl ⟨_, (Za rfl).trans hmin⟩ rfl hmn (Nat.le_refl _)|exact Ze KM rfl ⟨Zd (Za rfl), trivial⟩)|((first|refine' w_e rfl ?xa ?xb ?xc ?xe ?_|refine' v_e rfl ?xa ?xb ?xc ?xe ?_);(case xa => first|exact Z0 [.tmp 182] tlOk rfl rfl rfl rfl rfl rfl (Zad rfl) (by simp)|exact Zj 184 rfl (Zaw tlOk rfl rfl rfl rfl rfl (Zaa (Z8 (Zf rfl) rfl) (Zax _ _ _)) (by simp) (by simp only [maxLen, List.length_append, List.length_cons, List.length_nil, Zv];omega) (by (try simp only [List.length_append, List.length_cons, List.length_nil, Zv]);omega)));(case xb|xc|xe=>rfl);try refine wkD ?_)|(refine wkB ?_ ?_<;>intro hg_<;>try exact wkX)|fail)
              all_goals first
                | (refine hfin _ ?_
                   (refine Zg [(103, 184)] rfl ?_ ?_ <;> repeat' (first|refine wkS ?_ ?_|exact wkE|exact Zq hwk|exact Zaf rfl rfl|exact var4 rfl rfl rfl (cown (by simp only [List.length_append, List.length_cons, List.length_nil, Zv])))))
                | (exfalso; simp_all; done)
            · have hmf : ms.isEmpty = false := by cases ms with
                | nil => exact absurd rfl hms
                | cons v w => rfl
              have hmi := (Zv ms).symm
              rw [hF01 _ _ (by simp), happM] at hfin
              rw [hF01 _ _ hms]
              clear hF00 hF01 hF10 hF11 happM
              obtain ⟨e1, e2, e3⟩ := e
              repeat' (first|refine wk ?_|((first|refine' w_q rfl rfl ?xa rfl ?_|refine' v_q rfl rfl ?xa rfl ?_|refine' Zh rfl rfl (Zb rfl) rfl ?xa rfl ?_|refine' Zi rfl rfl (Zb rfl) rfl ?xa rfl ?_);case xa => first|exact Zn tbOk rfl rfl rfl rfl oM hxc|exact Z9 (a := min 1 c.length) (b := (ints c).length) tbOk rfl rfl rfl ⟨_, (Za rfl).trans hmin⟩ rfl hmn (Nat.le_refl _)|exact Ze KM rfl ⟨Zd (Za rfl), trivial⟩)|((first|refine' w_e rfl ?xa ?xb ?xc ?xe ?_|refine' v_e rfl ?xa ?xb ?xc ?xe ?_);(case xa => first|exact Z0 [.tmp 182] tlOk rfl rfl rfl rfl rfl rfl (Zad rfl) (by simp)|exact Zj 184 rfl (Zah tlOk rfl rfl rfl rfl rfl rfl (Zaa (Z8 (Zf rfl) rfl) (Zax _ _ _)) hmi (by simp only [maxLen, List.length_append, List.length_cons, List.length_nil, Zv];omega) (by (try simp only [List.length_append, List.length_cons, List.length_nil, Zv]);omega)));(case xb|xc|xe=>rfl);try refine wkD ?_)|(refine wkB ?_ ?_<;>intro hg_<;>try exact wkX)|fail)
              all_goals first
                | (refine hfin _ ?_
                   (refine Zg [(103, 184)] rfl ?_ ?_ <;> repeat' (first|refine wkS ?_ ?_|exact wkE|exact Zq hwk|exact Zaf rfl rfl|exact var4 rfl rfl rfl (cown (by simp only [List.length_append, List.length_cons, List.length_nil, Zv])))))
                | (exfalso; simp_all; done)
          · have hgs : gs ≠ [] := fun e => hvs (by rw [e] at hgl; exact List.eq_nil_of_length_eq_zero (by simpa using hgl.symm))
            have hvf : vs.isEmpty = false := by cases vs with
              | nil => exact absurd rfl hvs
              | cons v w => rfl
            have hgf : gs.isEmpty = false := by cases gs with
              | nil => exact absurd rfl hgs
              | cons v w => rfl
            have hvi := (Zp vs).symm
            have hgi := (Zab gs).symm
            by_cases hms : ms = []
            · subst hms
              rw [hF11 _ _ _ _ hvs hgs (by simp), happM] at hfin
              rw [hF10 _ _ _ hvs hgs]
              clear hF00 hF01 hF10 hF11 happM
              obtain ⟨e1, e2, e3⟩ := e
              repeat' (first|refine wk ?_|((first|refine' w_q rfl rfl ?xa rfl ?_|refine' v_q rfl rfl ?xa rfl ?_|refine' Zh rfl rfl (Zb rfl) rfl ?xa rfl ?_|refine' Zi rfl rfl (Zb rfl) rfl ?xa rfl ?_);case xa => first|exact Zn tbOk rfl rfl rfl rfl oM hxc|exact Z9 (a := min 1 c.length) (b := (ints c).length) tbOk rfl rfl rfl ⟨_, (Za rfl).trans hmin⟩ rfl hmn (Nat.le_refl _)|exact Ze KM rfl ⟨Zd (Za rfl), trivial⟩)|((first|refine' w_e rfl ?xa ?xb ?xc ?xe ?_|refine' v_e rfl ?xa ?xb ?xc ?xe ?_);(case xa => first|exact Z0 [.tmp 182] tlOk rfl rfl rfl rfl rfl rfl (Zad rfl) (by simp)|exact Zj 184 rfl (Zaw tlOk rfl rfl rfl rfl rfl (Zaa (Z8 (Zf rfl) rfl) (Zax _ _ _)) (by simp) (by simp only [maxLen, List.length_append, List.length_cons, List.length_nil, Zv];omega) (by (try simp only [List.length_append, List.length_cons, List.length_nil, Zv]);omega)));(case xb|xc|xe=>rfl);try refine wkD ?_)|(refine wkB ?_ ?_<;>intro hg_<;>try exact wkX)|fail)
              all_goals first
                | (refine hfin _ ?_
                   (refine Zg [(103, 184)] rfl ?_ ?_ <;> repeat' (first|refine wkS ?_ ?_|exact wkE|exact Zq hwk|exact Zaf rfl rfl|exact var4 rfl rfl rfl (cown (by simp only [List.length_append, List.length_cons, List.length_nil, Zv])))))
                | (exfalso; simp_all; done)
            · have hmf : ms.isEmpty = false := by cases ms with
                | nil => exact absurd rfl hms
                | cons v w => rfl
              have hmi := (Zv ms).symm
              rw [hF11 _ _ _ _ hvs hgs (by simp), happM] at hfin
              rw [hF11 _ _ _ _ hvs hgs hms]
              clear hF00 hF01 hF10 hF11 happM
              obtain ⟨e1, e2, e3⟩ := e
              repeat' (first|refine wk ?_|((first|refine' w_q rfl rfl ?xa rfl ?_|refine' v_q rfl rfl ?xa rfl ?_|refine' Zh rfl rfl (Zb rfl) rfl ?xa rfl ?_|refine' Zi rfl rfl (Zb rfl) rfl ?xa rfl ?_);case xa => first|exact Zn tbOk rfl rfl rfl rfl oM hxc|exact Z9 (a := min 1 c.length) (b := (ints c).length) tbOk rfl rfl rfl ⟨_, (Za rfl).trans hmin⟩ rfl hmn (Nat.le_refl _)|exact Ze KM rfl ⟨Zd (Za rfl), trivial⟩)|((first|refine' w_e rfl ?xa ?xb ?xc ?xe ?_|refine' v_e rfl ?xa ?xb ?xc ?xe ?_);(case xa => first|exact Z0 [.tmp 182] tlOk rfl rfl rfl rfl rfl rfl (Zad rfl) (by simp)|exact Zj 184 rfl (Zah tlOk rfl rfl rfl rfl rfl rfl (Zaa (Z8 (Zf rfl) rfl) (Zax _ _ _)) hmi (by simp only [maxLen, List.length_append, List.length_cons, List.length_nil, Zv];omega) (by (try simp only [List.length_append, List.length_cons, List.length_nil, Zv]);omega)));(case xb|xc|xe=>rfl);try refine wkD ?_)|(refine wkB ?_ ?_<;>intro hg_<;>try exact wkX)|fail)
              all_goals first
                | (refine hfin _ ?_
                   (refine Zg [(103, 184)] rfl ?_ ?_ <;> repeat' (first|refine wkS ?_ ?_|exact wkE|exact Zq hwk|exact Zaf rfl rfl|exact var4 rfl rfl rfl (cown (by simp only [List.length_append, List.length_cons, List.length_nil, Zv])))))
                | (exfalso; simp_all; done)
    · obtain rfl : k = N2 + N3 := by omega
      rw [Nat.sub_self, rdLoop] at hRk
      have hX := hR3 _ hRk
      rw [hX]
      dsimp only
      clear hX hR2 hR3 hRk hgetD
      by_cases hvs : vs = []
      · have hgs : gs = [] := by subst hvs; exact List.eq_nil_of_length_eq_zero (by simpa using hgl)
        subst hvs hgs
        by_cases hms : ms = []
        · subst hms
          rw [hF00]
          clear hF00 hF01 hF10 hF11
          have hTT : stateR ⟨n1, [], [], []⟩ = stateP n1 true [] true [] true [] := rfl
          rw [hTT]
          clear hTT
          have KB := Zbz ⟨n1, [], [], []⟩ true true true (by dsimp only [List.length_nil]; omega) (by dsimp only [List.length_nil]; omega) (by dsimp only [List.length_nil]; omega)
          have hwb : wantB ⟨n1, [], [], []⟩ = if Sta.ok ⟨n1, [], [], []⟩ then ckB ⟨n1, [], [], []⟩ else [] := rfl
          rw [← hwb] at KB
          (try dsimp only at KB)
          have hwl : (wantB ⟨n1, [], [], []⟩).length ≤ 1048576 := wantB_len _
          have KS := fun h => f_l18Same nil false L (wantB ⟨n1, [], [], []⟩) at_ oM hwl oM hall h
          rw [hDD] at KS
          have hwe := wantB_ok ⟨n1, [], [], []⟩
          (try dsimp only at hwe)
          generalize Sta.ok ⟨n1, [], [], []⟩ = ok at *
          generalize wantB ⟨n1, [], [], []⟩ = W at *
          have hwi := Zag W
          clear hwb
          cases ok
          · obtain rfl : W = [] := hwe.1 rfl
            have hwi0 : (rowsI []).length = 0 := rfl
            clear KS hwe
            repeat' (first|refine wk ?_|((first|refine' w_q rfl rfl ?xa rfl ?_|refine' v_q rfl rfl ?xa rfl ?_|refine' Zh rfl rfl (Zb rfl) rfl ?xa rfl ?_|refine' Zi rfl rfl (Zb rfl) rfl ?xa rfl ?_);case xa => exact Ze KB rfl ⟨Zw (Za rfl) ⟨Zk, Z5, Z5, Z5, trivial⟩, trivial⟩)|(refine wkB ?_ ?_<;>intro hg_<;>try exact wkX)|fail)
            all_goals first
              | exact ret_3 (Zat rfl rfl tyF0 rfl rfl rfl (Zar (by refine ⟨Zaq, ?_, ?_, ?_, trivial⟩ <;> first|exact Zae|exact Zz (Zf rfl) hvi|exact Zz (Zf rfl) hgi|exact Zz (Zf rfl) hmi))) (Zr rfl (Z4 rfl)) (Zr rfl (Zo rfl))
              | (exfalso; omega)
          · obtain ⟨hw1, hw2⟩ := hwe.2 rfl
            have KS2 := KS hw1
            rw [hw2]
            clear KS hwe hw2
            repeat' (first|refine wk ?_|((first|refine' w_q rfl rfl ?xa rfl ?_|refine' v_q rfl rfl ?xa rfl ?_|refine' Zh rfl rfl (Zb rfl) rfl ?xa rfl ?_|refine' Zi rfl rfl (Zb rfl) rfl ?xa rfl ?_);case xa => first|exact Ze KB rfl ⟨Zw (Za rfl) ⟨Zk, Z5, Z5, Z5, trivial⟩, trivial⟩|exact Ze KS2 rfl ⟨Zd (Za rfl), Zd (Za rfl), Zd (Za rfl), trivial⟩)|(refine wkB ?_ ?_<;>intro hg_<;>try exact wkX)|fail)
            all_goals first
              | exact ret_3 (Zat rfl rfl tyF0 rfl rfl rfl (Zar (by refine ⟨Zaq, ?_, ?_, ?_, trivial⟩ <;> first|exact Zae|exact Zz (Zf rfl) hvi|exact Zz (Zf rfl) hgi|exact Zz (Zf rfl) hmi))) (Zr rfl (Z4 (by rw [hwi]))) (Zr rfl (Zo rfl))
              | (exfalso; omega)
        · have hmf : ms.isEmpty = false := by cases ms with
            | nil => exact absurd rfl hms
            | cons v w => rfl
          have hmi := (Zv ms).symm
          rw [hF01 _ _ hms]
          clear hF00 hF01 hF10 hF11
          have hTT : stateR ⟨n1, [], [], ms⟩ = stateP n1 true [] true [] false ms := (by show stateP _ _ _ _ _ _ _ = _;rw [hmf];first|rfl|skip)
          rw [hTT]
          clear hTT
          have KB := Zbz ⟨n1, [], [], ms⟩ true true false (by dsimp only [List.length_nil]; omega) (by dsimp only [List.length_nil]; omega) (by dsimp only [List.length_nil]; omega)
          have hwb : wantB ⟨n1, [], [], ms⟩ = if Sta.ok ⟨n1, [], [], ms⟩ then ckB ⟨n1, [], [], ms⟩ else [] := rfl
          rw [← hwb] at KB
          (try dsimp only at KB)
          have hwl : (wantB ⟨n1, [], [], ms⟩).length ≤ 1048576 := wantB_len _
          have KS := fun h => f_l18Same nil false L (wantB ⟨n1, [], [], ms⟩) at_ oM hwl oM hall h
          rw [hDD] at KS
          have hwe := wantB_ok ⟨n1, [], [], ms⟩
          (try dsimp only at hwe)
          generalize Sta.ok ⟨n1, [], [], ms⟩ = ok at *
          generalize wantB ⟨n1, [], [], ms⟩ = W at *
          have hwi := Zag W
          clear hwb
          cases ok
          · obtain rfl : W = [] := hwe.1 rfl
            have hwi0 : (rowsI []).length = 0 := rfl
            clear KS hwe
            repeat' (first|refine wk ?_|((first|refine' w_q rfl rfl ?xa rfl ?_|refine' v_q rfl rfl ?xa rfl ?_|refine' Zh rfl rfl (Zb rfl) rfl ?xa rfl ?_|refine' Zi rfl rfl (Zb rfl) rfl ?xa rfl ?_);case xa => exact Ze KB rfl ⟨Zw (Za rfl) ⟨Zk, Z5, Z5, Z6 (Zf rfl) hmi, trivial⟩, trivial⟩)|(refine wkB ?_ ?_<;>intro hg_<;>try exact wkX)|fail)
            all_goals first
              | exact ret_3 (Zat rfl rfl tyF0 rfl rfl rfl (Zar (by refine ⟨Zaq, ?_, ?_, ?_, trivial⟩ <;> first|exact Zae|exact Zz (Zf rfl) hvi|exact Zz (Zf rfl) hgi|exact Zz (Zf rfl) hmi))) (Zr rfl (Z4 rfl)) (Zr rfl (Zo rfl))
              | (exfalso; omega)
          · obtain ⟨hw1, hw2⟩ := hwe.2 rfl
            have KS2 := KS hw1
            rw [hw2]
            clear KS hwe hw2
            repeat' (first|refine wk ?_|((first|refine' w_q rfl rfl ?xa rfl ?_|refine' v_q rfl rfl ?xa rfl ?_|refine' Zh rfl rfl (Zb rfl) rfl ?xa rfl ?_|refine' Zi rfl rfl (Zb rfl) rfl ?xa rfl ?_);case xa => first|exact Ze KB rfl ⟨Zw (Za rfl) ⟨Zk, Z5, Z5, Z6 (Zf rfl) hmi, trivial⟩, trivial⟩|exact Ze KS2 rfl ⟨Zd (Za rfl), Zd (Za rfl), Zd (Za rfl), trivial⟩)|(refine wkB ?_ ?_<;>intro hg_<;>try exact wkX)|fail)
            all_goals first
              | exact ret_3 (Zat rfl rfl tyF0 rfl rfl rfl (Zar (by refine ⟨Zaq, ?_, ?_, ?_, trivial⟩ <;> first|exact Zae|exact Zz (Zf rfl) hvi|exact Zz (Zf rfl) hgi|exact Zz (Zf rfl) hmi))) (Zr rfl (Z4 (by rw [hwi]))) (Zr rfl (Zo rfl))
              | (exfalso; omega)
      · have hgs : gs ≠ [] := fun e => hvs (by rw [e] at hgl; exact List.eq_nil_of_length_eq_zero (by simpa using hgl.symm))
        have hvf : vs.isEmpty = false := by cases vs with
          | nil => exact absurd rfl hvs
          | cons v w => rfl
        have hgf : gs.isEmpty = false := by cases gs with
          | nil => exact absurd rfl hgs
          | cons v w => rfl
        have hvi := (Zp vs).symm
        have hgi := (Zab gs).symm
        by_cases hms : ms = []
        · subst hms
          rw [hF10 _ _ _ hvs hgs]
          clear hF00 hF01 hF10 hF11
          have hTT : stateR ⟨n1, vs, gs, []⟩ = stateP n1 false vs false gs true [] := (by show stateP _ _ _ _ _ _ _ = _;rw [hvf, hgf];first|rfl|skip)
          rw [hTT]
          clear hTT
          have KB := Zbz ⟨n1, vs, gs, []⟩ false false true (by dsimp only [List.length_nil]; omega) (by dsimp only [List.length_nil]; omega) (by dsimp only [List.length_nil]; omega)
          have hwb : wantB ⟨n1, vs, gs, []⟩ = if Sta.ok ⟨n1, vs, gs, []⟩ then ckB ⟨n1, vs, gs, []⟩ else [] := rfl
          rw [← hwb] at KB
          (try dsimp only at KB)
          have hwl : (wantB ⟨n1, vs, gs, []⟩).length ≤ 1048576 := wantB_len _
          have KS := fun h => f_l18Same nil false L (wantB ⟨n1, vs, gs, []⟩) at_ oM hwl oM hall h
          rw [hDD] at KS
          have hwe := wantB_ok ⟨n1, vs, gs, []⟩
          (try dsimp only at hwe)
          generalize Sta.ok ⟨n1, vs, gs, []⟩ = ok at *
          generalize wantB ⟨n1, vs, gs, []⟩ = W at *
          have hwi := Zag W
          clear hwb
          cases ok
          · obtain rfl : W = [] := hwe.1 rfl
            have hwi0 : (rowsI []).length = 0 := rfl
            clear KS hwe
            repeat' (first|refine wk ?_|((first|refine' w_q rfl rfl ?xa rfl ?_|refine' v_q rfl rfl ?xa rfl ?_|refine' Zh rfl rfl (Zb rfl) rfl ?xa rfl ?_|refine' Zi rfl rfl (Zb rfl) rfl ?xa rfl ?_);case xa => exact Ze KB rfl ⟨Zw (Za rfl) ⟨Zk, Z6 (Zf rfl) hvi, Z6 (Zf rfl) hgi, Z5, trivial⟩, trivial⟩)|(refine wkB ?_ ?_<;>intro hg_<;>try exact wkX)|fail)
            all_goals first
              | exact ret_3 (Zat rfl rfl tyF0 rfl rfl rfl (Zar (by refine ⟨Zaq, ?_, ?_, ?_, trivial⟩ <;> first|exact Zae|exact Zz (Zf rfl) hvi|exact Zz (Zf rfl) hgi|exact Zz (Zf rfl) hmi))) (Zr rfl (Z4 rfl)) (Zr rfl (Zo rfl))
              | (exfalso; omega)
          · obtain ⟨hw1, hw2⟩ := hwe.2 rfl
            have KS2 := KS hw1
            rw [hw2]
            clear KS hwe hw2
            repeat' (first|refine wk ?_|((first|refine' w_q rfl rfl ?xa rfl ?_|refine' v_q rfl rfl ?xa rfl ?_|refine' Zh rfl rfl (Zb rfl) rfl ?xa rfl ?_|refine' Zi rfl rfl (Zb rfl) rfl ?xa rfl ?_);case xa => first|exact Ze KB rfl ⟨Zw (Za rfl) ⟨Zk, Z6 (Zf rfl) hvi, Z6 (Zf rfl) hgi, Z5, trivial⟩, trivial⟩|exact Ze KS2 rfl ⟨Zd (Za rfl), Zd (Za rfl), Zd (Za rfl), trivial⟩)|(refine wkB ?_ ?_<;>intro hg_<;>try exact wkX)|fail)
            all_goals first
              | exact ret_3 (Zat rfl rfl tyF0 rfl rfl rfl (Zar (by refine ⟨Zaq, ?_, ?_, ?_, trivial⟩ <;> first|exact Zae|exact Zz (Zf rfl) hvi|exact Zz (Zf rfl) hgi|exact Zz (Zf rfl) hmi))) (Zr rfl (Z4 (by rw [hwi]))) (Zr rfl (Zo rfl))
              | (exfalso; omega)
        · have hmf : ms.isEmpty = false := by cases ms with
            | nil => exact absurd rfl hms
            | cons v w => rfl
          have hmi := (Zv ms).symm
          rw [hF11 _ _ _ _ hvs hgs hms]
          clear hF00 hF01 hF10 hF11
          have hTT : stateR ⟨n1, vs, gs, ms⟩ = stateP n1 false vs false gs false ms := (by show stateP _ _ _ _ _ _ _ = _;rw [hvf, hgf, hmf];first|rfl|skip)
          rw [hTT]
          clear hTT
          have KB := Zbz ⟨n1, vs, gs, ms⟩ false false false (by dsimp only [List.length_nil]; omega) (by dsimp only [List.length_nil]; omega) (by dsimp only [List.length_nil]; omega)
          have hwb : wantB ⟨n1, vs, gs, ms⟩ = if Sta.ok ⟨n1, vs, gs, ms⟩ then ckB ⟨n1, vs, gs, ms⟩ else [] := rfl
          rw [← hwb] at KB
          (try dsimp only at KB)
          have hwl : (wantB ⟨n1, vs, gs, ms⟩).length ≤ 1048576 := wantB_len _
          have KS := fun h => f_l18Same nil false L (wantB ⟨n1, vs, gs, ms⟩) at_ oM hwl oM hall h
          rw [hDD] at KS
          have hwe := wantB_ok ⟨n1, vs, gs, ms⟩
          (try dsimp only at hwe)
          generalize Sta.ok ⟨n1, vs, gs, ms⟩ = ok at *
          generalize wantB ⟨n1, vs, gs, ms⟩ = W at *
          have hwi := Zag W
          clear hwb
          cases ok
          · obtain rfl : W = [] := hwe.1 rfl
            have hwi0 : (rowsI []).length = 0 := rfl
            clear KS hwe
            repeat' (first|refine wk ?_|((first|refine' w_q rfl rfl ?xa rfl ?_|refine' v_q rfl rfl ?xa rfl ?_|refine' Zh rfl rfl (Zb rfl) rfl ?xa rfl ?_|refine' Zi rfl rfl (Zb rfl) rfl ?xa rfl ?_);case xa => exact Ze KB rfl ⟨Zw (Za rfl) ⟨Zk, Z6 (Zf rfl) hvi, Z6 (Zf rfl) hgi, Z6 (Zf rfl) hmi, trivial⟩, trivial⟩)|(refine wkB ?_ ?_<;>intro hg_<;>try exact wkX)|fail)
            all_goals first
              | exact ret_3 (Zat rfl rfl tyF0 rfl rfl rfl (Zar (by refine ⟨Zaq, ?_, ?_, ?_, trivial⟩ <;> first|exact Zae|exact Zz (Zf rfl) hvi|exact Zz (Zf rfl) hgi|exact Zz (Zf rfl) hmi))) (Zr rfl (Z4 rfl)) (Zr rfl (Zo rfl))
              | (exfalso; omega)
          · obtain ⟨hw1, hw2⟩ := hwe.2 rfl
            have KS2 := KS hw1
            rw [hw2]
            clear KS hwe hw2
            repeat' (first|refine wk ?_|((first|refine' w_q rfl rfl ?xa rfl ?_|refine' v_q rfl rfl ?xa rfl ?_|refine' Zh rfl rfl (Zb rfl) rfl ?xa rfl ?_|refine' Zi rfl rfl (Zb rfl) rfl ?xa rfl ?_);case xa => first|exact Ze KB rfl ⟨Zw (Za rfl) ⟨Zk, Z6 (Zf rfl) hvi, Z6 (Zf rfl) hgi, Z6 (Zf rfl) hmi, trivial⟩, trivial⟩|exact Ze KS2 rfl ⟨Zd (Za rfl), Zd (Za rfl), Zd (Za rfl), trivial⟩)|(refine wkB ?_ ?_<;>intro hg_<;>try exact wkX)|fail)
            all_goals first
              | exact ret_3 (Zat rfl rfl tyF0 rfl rfl rfl (Zar (by refine ⟨Zaq, ?_, ?_, ?_, trivial⟩ <;> first|exact Zae|exact Zz (Zf rfl) hvi|exact Zz (Zf rfl) hgi|exact Zz (Zf rfl) hmi))) (Zr rfl (Z4 (by rw [hwi]))) (Zr rfl (Zo rfl))
              | (exfalso; omega)
    -- END LOOP
  · rw [if_neg hg] at hX
    rw [hX]
    dsimp only
    clear hX
    have hz : (.tup [stateR zSta, iP 0, .one (bool false)] : Res) = .tup [stateP 0 true [] true [] true [], iP 0, .one (bool false)] := rfl
    rw [hz]
    clear hz
    refine Zy (l := [.cell 4 28, .tmp 5, .tmp 6]) Try.func27 kRf rfl Try.ntmps27 rfl rfl ?_; simp only [argEnv, P0.d, Nat.reduceAdd]
    repeat' (first|refine wk ?_|((first|refine' w_q rfl rfl ?xa rfl ?_|refine' v_q rfl rfl ?xa rfl ?_|refine' Zh rfl rfl (Zb rfl) rfl ?xa rfl ?_|refine' Zi rfl rfl (Zb rfl) rfl ?xa rfl ?_);case xa => first|exact Zn tbOk rfl rfl rfl rfl oM (by first|exact hx|exact hx2)|exact Ze KD1 rfl ⟨Zd (Za rfl), Zd (Za rfl), trivial⟩|exact Ze KD2 rfl ⟨Zd (Za rfl), Zd (Za rfl), trivial⟩|exact Ze KD3 rfl ⟨Zd (Za rfl), Zd (Za rfl), trivial⟩)|(refine wkB ?_ ?_<;>intro hg_<;>try exact wkX)|fail)
    all_goals first
      | exact ret_3 (Zat rfl rfl tyF0 rfl rfl rfl (Zar (by exact ⟨Zaq, Zae, Zae, Zae, trivial⟩))) (Zr rfl (Z4 rfl)) (Zr rfl (Zo rfl))
      | (exfalso; exact hg ⟨by assumption, by assumption, by assumption, by omega, by omega, by omega⟩)
theorem f_l18Read (nil : Bool) (L : List (List Int)) (at_ : Nat) (hl : L.length ≤ 2000) (hat : at_ < L.length) (hL : ∀ b ∈ L,b.length ≤ 1048576) :
  ∃ x n q,Fn Try.prog 27 [.one (row nil 1 (rowsI L)),iP (at_ : Int)] (.tup [stateR x,iP n,.one (bool q)]) ∧ (q = true → ckAt (L.drop at_) = some x) ∧ (q = false → ckAt (L.drop at_) = none):=by
 by_cases hh : L[at_].head? = some 1
 ·refine ⟨_,_,_,f_l18Read1 nil L at_ hl hat hL hh,rdRes_some,rdRes_none⟩
 ·refine ⟨zSta,0,false,f_l18ReadZ nil L at_ hat hh,fun h=>by (cases h),fun _=>rdRes_none ?_⟩
  rw [List.drop_eq_getElem_cons hat]
  simp only [rdRes,rcdH_no hh]
def ckRes : Option Sta → Sta × Bool
 | some s=>(s,true)
 | none=>(zSta,false)
theorem f_specLast (nil : Bool) (L : List (List Int)) (hl : L.length ≤ 1048576) (hL : ∀ b ∈ L, b.length ≤ 1048576) : Fn Try.prog 7 [.one (row nil 1 (rowsI L))] (.tup [stateR (ckRes (lastCk L)).1, .one (bool (ckRes (lastCk L)).2)]) := by
  have hlenL := Zag L
  have KO := f_ownRowsI nil L hl hL
  obtain ⟨X, hX⟩ : ∃ X, X = ckRes (lastCk L) := ⟨_, rfl⟩
  rw [← hX]
  have hz : stateR zSta = stateP 0 true [] true [] true [] := rfl
  by_cases hbig : L.length ≤ 2000
  · have hX0 : X = ckRes (lastFrom L L.length) := by rw [hX]; unfold lastCk; rw [if_pos hbig]
    clear hX
    refine Zy (l := [.cell 2 28, .tmp 3]) Try.func7 kRf rfl Try.ntmps7 rfl rfl ?_; simp only [argEnv, P0.d, Nat.reduceAdd]
    repeat' (first|refine wk ?_|((first|refine' w_q rfl rfl ?xa rfl ?_|refine' v_q rfl rfl ?xa rfl ?_|refine' Zh rfl rfl (Zb rfl) rfl ?xa rfl ?_|refine' Zi rfl rfl (Zb rfl) rfl ?xa rfl ?_);case xa => exact Ze KO rfl ⟨Zd (Za rfl), trivial⟩)|(refine wkB ?_ ?_<;>intro hg_<;>try exact wkX)|fail)
    have hw0 : IntKind.i64.wrap (((rowsI L).length : Int) - 1) = (L.length : Int) - 1 := by rw [hlenL]; exact IntWalk.i64_in _ oM
    obtain ⟨F, hFs⟩ : ∃ F : Nat → St, ∀ k, F k = mkS 32 [(4, .one (.r true (int ((k : Int) - 1)))), (2, .one (.ptr 2 0 0 0)), (0, .one (.r true (row false 1 (rowsI L))))] [(2, .var 28 [.r true (int 0), .r true (row true 0 []), .r true (row true 0 []), .r true (row true 0 [])])] := ⟨_, fun _ => rfl⟩
    refine Z7 (fun k : Nat => k ≤ L.length ∧ X = ckRes (lastFrom L k)) F (fun k => k) L.length ⟨Nat.le_refl _, hX0⟩ (by rw [hFs];(refine Zg [] rfl ?_ ?_ <;> repeat' (first|refine wkS ?_ ?_|exact wkE|exact Zq hw0))) ?_
    rintro k ⟨hk, HX⟩
    clear hX0
    cases k with
    | zero =>
      rw [hFs]
      have hXz : X = (zSta, false) := HX
      rw [hXz]
      dsimp only
      rw [hz]
      clear HX hFs hXz
      repeat' (first|refine wk ?_|(refine wkB ?_ ?_<;>intro hg_<;>try exact wkX)|fail)
      all_goals first
        | exact ret_2 (Zat rfl rfl tyF0 rfl rfl rfl (Zar (by exact ⟨Zaq, Zae, Zae, Zae, trivial⟩))) (Zr rfl (Zo rfl))
        | (exfalso; omega)
    | succ m =>
      obtain ⟨x, n, q, KR, hq1, hq2⟩ := f_l18Read false L m hbig oM hL
      have e1 : (((m + 1 : Nat) : Int) - 1) = (m : Int) := by omega
      have hw1 : IntKind.i64.wrap ((m : Int) - 1) = (m : Int) - 1 := IntWalk.i64_in _ oM
      cases q
      · have HX2 : X = ckRes (lastFrom L m) := by rw [HX, lastFrom, hq2 rfl]
        have hfin : ∀ s' : St, Weak s' (F m) → ∃ x' : Nat, (x' ≤ L.length ∧ X = ckRes (lastFrom L x')) ∧ Weak s' (F x') ∧ x' < m + 1 := fun s' h => ⟨m, ⟨by omega, HX2⟩, h, by omega⟩
        rw [hFs] at hfin ⊢
        rw [e1]
        clear hFs HX HX2 hq1 hq2
        repeat' (first|refine wk ?_|((first|refine' w_q rfl rfl ?xa rfl ?_|refine' v_q rfl rfl ?xa rfl ?_|refine' Zh rfl rfl (Zb rfl) rfl ?xa rfl ?_|refine' Zi rfl rfl (Zb rfl) rfl ?xa rfl ?_);case xa => exact Ze KR rfl ⟨Zd (Za rfl), Zd (Za rfl), trivial⟩)|(refine wkB ?_ ?_<;>intro hg_<;>try exact wkX)|fail)
        all_goals first
          | (refine hfin _ ?_
             (refine Zg [] rfl ?_ ?_ <;> repeat' (first|refine wkS ?_ ?_|exact wkE|exact Zq hw1)))
          | (exfalso; omega)
      · have HX2 : X = (x, true) := by rw [HX, lastFrom, hq1 rfl]; rfl
        rw [HX2, hFs, e1]
        dsimp only
        clear hFs HX HX2 hq1 hq2
        obtain ⟨r, vs, gs, ms⟩ := x
        repeat' (first|refine wk ?_|((first|refine' w_q rfl rfl ?xa rfl ?_|refine' v_q rfl rfl ?xa rfl ?_|refine' Zh rfl rfl (Zb rfl) rfl ?xa rfl ?_|refine' Zi rfl rfl (Zb rfl) rfl ?xa rfl ?_);case xa => exact Ze KR rfl ⟨Zd (Za rfl), Zd (Za rfl), trivial⟩)|(refine wkB ?_ ?_<;>intro hg_<;>try exact wkX)|fail)
        all_goals first
          | exact ret_2 (Zat rfl rfl tyF0 rfl rfl rfl (Zar (by exact ⟨cres_new, cres_new, cres_new, cres_new, trivial⟩))) (Zr rfl (Zo rfl))
          | (exfalso; omega)
  · have hXz : X = (zSta, false) := by rw [hX]; unfold lastCk; rw [if_neg hbig]; rfl
    rw [hXz]
    dsimp only
    rw [hz]
    clear hX hXz hz
    have hw0 : IntKind.i64.wrap (((rowsI L).length : Int) - 1) = (L.length : Int) - 1 := by rw [hlenL]; exact IntWalk.i64_in _ oM
    refine Zy (l := [.cell 2 28, .tmp 3]) Try.func7 kRf rfl Try.ntmps7 rfl rfl ?_; simp only [argEnv, P0.d, Nat.reduceAdd]
    repeat' (first|refine wk ?_|((first|refine' w_q rfl rfl ?xa rfl ?_|refine' v_q rfl rfl ?xa rfl ?_|refine' Zh rfl rfl (Zb rfl) rfl ?xa rfl ?_|refine' Zi rfl rfl (Zb rfl) rfl ?xa rfl ?_);case xa => exact Ze KO rfl ⟨Zd (Za rfl), trivial⟩)|(refine wkB ?_ ?_<;>intro hg_<;>try exact wkX)|fail)
    refine Z7 (fun k : Nat => True) (fun k : Nat => mkS 32 [(4, .one (.r true (int ((L.length : Int) - 1)))), (2, .one (.ptr 2 0 0 0)), (0, .one (.r true (row false 1 (rowsI L))))] [(2, .var 28 [.r true (int 0), .r true (row true 0 []), .r true (row true 0 []), .r true (row true 0 [])])]) (fun k => k) 0 trivial (by (refine Zg [] rfl ?_ ?_ <;> repeat' (first|refine wkS ?_ ?_|exact wkE|exact Zq hw0))) ?_
    intro k _
    repeat' (first|refine wk ?_|(refine wkB ?_ ?_<;>intro hg_<;>try exact wkX)|fail)
    all_goals first
      | exact ret_2 (Zat rfl rfl tyF0 rfl rfl rfl (Zar (by exact ⟨Zaq, Zae, Zae, Zae, trivial⟩))) (Zr rfl (Zo rfl))
      | (exfalso; omega)
end Go.Proofs.Ytmkijbfiilpccaa.Abs
