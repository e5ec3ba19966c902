/- Draws of states by states: l20State for graphs without vertices, and for all. No statement of the seat is proved here. -/
import Derived.Lib.Hide
import Derived.Test.YtmkijbfiilpccaaLaTy
import Derived.Test.YtmkijbfiilpccaaLaAItB
import Derived.Test.YtmkijbfiilpccaaLaADrV
import Derived.Test.YtmkijbfiilpccaaLaGLast
set_option linter.unusedSimpArgs false
set_option linter.unusedVariables false
set_option maxRecDepth 100000
set_option maxHeartbeats 64000000
namespace Go.Proofs.Ytmkijbfiilpccaa.Abs
open Go.RowKit
open R (val row ref)
theorem f_startZ0 : FnS Try.prog 70 [.one (.r false (int ((0 : Nat) : Int)))] [] (.agg [.r true (int 0),.r true (row false 1 []),.r true (row true 1 []),.r true (row true 3 [])]) []:=by
 have K:=Zb5 2000001 (f_specStartZ 0 oM rfl) rfl
 refine Zbw (d:=.agg [.r true (int 0),frC 2000001 1 true [] (.own 2000001 0 0 1),Zc,Zc]) K ?_
 rw [Zbb (k:=2000001) (sz:=1) (n:=0) (new:=true) (els:=[]) rfl]
 exact imp4 Zbv Zbv Zcq Zcq
abbrev stateQ (rd : Int) (VS : List Int) (ng : Bool) (GS : List Bool) (nm : Bool) (MS : List E3) : D:=.agg [.r true (int rd),.r true (row false 1 (ints VS)),.r true (row ng 1 (bools GS)),.r true (row nm 3 (edges MS))]
theorem plain_of_own {args : List D} {f : FuncId} {m1 nb : Bool} {bs : List Int} {h : List (Nat × Ob)} {rd p5 : Int} {VS : List Int} {GS : List Bool} {nm : Bool} {MS : List E3} (K : FnS Try.prog f args h (stateO rd VS GS.length nm MS) (rdH 1000000000 m1 true nb bs p5 ++ [(2000002,.sl 4 1 true (bools GS))])) : FnS Try.prog f args h (stateQ rd VS false GS nm MS) (rdH 1000000000 m1 true nb bs p5):=by
 have hg : GS.length = (bools GS).length:=by rw [Zah]
 have K1:=Zb5 2000002 K rfl
 refine Zbw (d:=.agg [.r true (int rd),.r true (row false 1 (ints VS)),frC 2000002 1 true (bools GS) (.own 2000002 0 GS.length 1),.r true (row nm 3 (edges MS))]) K1 ?_
 rw [Zbb hg]
 exact Zac rfl
def curO : Option Sta → Sta
 | none=>⟨0,[],[],[]⟩
 | some x=>x
def itZ (m : Int) (es : List E3) (k s r : Int) : Nat → Option Sta
 | 0=>none
 | i + 1=>match stepS m es k s r (curO (itZ m es k s r i)) with
  | none=>itZ m es k s r i
  | some x=>some x
def curZ (m : Int) (es : List E3) (k s r : Int) (i : Nat) : Sta × Bool:=(curO (itZ m es k s r i),(itZ m es k s r i).isNone)
theorem curZ_len (m : Int) (es : List E3) (k s r : Int) : ∀ i,(curZ m es k s r i).1.vs.length ≤ 16 ∧ (curZ m es k s r i).1.gs.length ≤ 16 ∧ (curZ m es k s r i).1.ms.length ≤ 2000
 | 0=>by simp [curZ,itZ,curO]
 | i + 1=>by
  have ih:=curZ_len m es k s r i
  cases hs : stepS m es k s r (curO (itZ m es k s r i)) with
  | none =>
   have e : itZ m es k s r (i + 1) = itZ m es k s r i:=by
    show (match stepS m es k s r (curO (itZ m es k s r i)) with | none=>itZ m es k s r i | some x=>some x) = _
    rw [hs]
   unfold curZ at *
   rw [e]; exact ih
  | some x =>
   have e : itZ m es k s r (i + 1) = some x:=by
    show (match stepS m es k s r (curO (itZ m es k s r i)) with | none=>itZ m es k s r i | some x=>some x) = _
    rw [hs]
   unfold curZ
   rw [e]
   have h:=stepS_ok hs
   unfold stOk at h
   simp only [Bool.and_eq_true,decide_eq_true_eq,inR] at h
   dsimp only [curO]
   omega
theorem curZ_msI (m : Int) (es : List E3) (k s r : Int) (hel : es.length ≤ 41) : ∀ i,MsI k (curZ m es k s r i).1
 | 0=>start_msI k _ _
 | i + 1=>by
  have ih:=curZ_msI m es k s r hel i
  cases hs : stepS m es k s r (curO (itZ m es k s r i)) with
  | none =>
   have e : itZ m es k s r (i + 1) = itZ m es k s r i:=by
    show (match stepS m es k s r (curO (itZ m es k s r i)) with | none=>itZ m es k s r i | some x=>some x) = _
    rw [hs]
   unfold curZ at *
   rw [e]; exact ih
  | some x =>
   have e : itZ m es k s r (i + 1) = some x:=by
    show (match stepS m es k s r (curO (itZ m es k s r i)) with | none=>itZ m es k s r i | some x=>some x) = _
    rw [hs]
   unfold curZ
   rw [e]
   exact step_msI hel ih hs
theorem l20StateZ_ex (bs : List Int) (p n : Int) (hn : 0 ≤ n) (hn2 : n ≤ 1000000) (hB : Byte bs) (hl : bs.length ≤ 2000) (hp0 : 0 ≤ p) (hp : p ≤ 700000) (nE : Bool) (m : Int) (es : List E3) (k s r : Int) (hm : m ≤ 0) (hel : es.length ≤ 41) :
    ∃ (st : Sta) (nm : Bool) (p' : Int), (st.vs.length ≤ 17 ∧ st.gs.length ≤ 17 ∧ st.ms.length ≤ 625 ∧ p ≤ p' ∧ p' ≤ p + 200) ∧ ∃ ng : Bool, ∀ m1 nb, FnS Try.prog 41 [.one (.ptr 1000000000 0 0 0), .agg [.r false (int m), .r false (row nE 3 (edges es))], .agg [.r false (int k), .r false (int s), .r false (int r)], .one (.r false (int n))] (rdH 1000000000 m1 true nb bs p)
      (stateQ st.r st.vs ng st.gs nm st.ms) (rdH 1000000000 m1 true nb bs p') := by
  have hM : ((0 : Nat) : Int) = max 0 (min 16 m) := by omega
  have KP0 : ∀ q : Int, 0 ≤ q → q ≤ 1000000 → ∀ n m1 nb, FnS Try.prog 67 [.one (.ptr 1000000000 0 0 0), .one (.r false (int n))] (rdH 1000000000 m1 true nb bs q) (.one (.r true (int (pickV bs q n)))) (rdH 1000000000 m1 true nb bs (q + 1)) := fun q h0 h1 n m1 nb => Zbd q n hB hl h0 h1 m1 true nb
  have hc := Zaz bs p 4
  have K10 := fun m1 nb => KP0 p hp0 oM 4 m1 nb
  have hcN : ((pickV bs p 4).toNat : Int) = pickV bs p 4 := Int.toNat_of_nonneg hc.1
  generalize hCC : (pickV bs p 4).toNat = C at *
  rw [← hcN] at K10
  have hC4 : C ≤ 4 := by omega
  clear hCC hcN hc
  have hlenC : (curZ m es k s r C).1.vs.length ≤ 16 ∧ (curZ m es k s r C).1.gs.length ≤ 16 ∧ (curZ m es k s r C).1.ms.length ≤ 615 := ⟨(curZ_len m es k s r C).1, (curZ_len m es k s r C).2.1, (curZ_msI m es k s r hel C).all⟩
  -- sorted?
  have K20 := fun m1 nb => KP0 (p + 1) oM oM 4 m1 nb
  generalize pickV bs (p + 1) 4 = q4 at *
  obtain ⟨ms, pm, ⟨hms, hpm0, hpm1⟩, KM0⟩ := l20Messages_ex bs (p + 1 + 1) ((curZ m es k s r C).1.vs.length : Int) hB hl oM oM
  obtain ⟨D2, hD2⟩ : ∃ D2 : Sta × Bool, D2 = if q4 = 0 then (⟨(curZ m es k s r C).1.r, (curZ m es k s r C).1.vs, (curZ m es k s r C).1.gs, sortL ((curZ m es k s r C).1.ms ++ ms)⟩, false) else curZ m es k s r C := ⟨_, rfl⟩
  obtain ⟨p3, hp3⟩ : ∃ p3 : Int, p3 = if q4 = 0 then pm else p + 1 + 1 := ⟨_, rfl⟩
  have hp3b : p + 2 ≤ p3 ∧ p3 ≤ p + 150 := by rw [hp3]; split <;> omega
  have hlen2 : D2.1.vs.length ≤ 16 ∧ D2.1.gs.length ≤ 16 ∧ D2.1.ms.length ≤ 624 := by
    rw [hD2]
    split
    · exact ⟨hlenC.1, hlenC.2.1, by have h := (sortL_len ((curZ m es k s r C).1.ms ++ ms)).1; rw [List.length_append] at h; dsimp only; omega⟩
    · exact ⟨hlenC.1, hlenC.2.1, by omega⟩
  have KO0 := fun m1 nb => f_odd0 (bs := bs) p3 n hn hn2 hB hl oM oM m1 nb
  have hoe : p3 ≤ odE p3 n ∧ odE p3 n ≤ p3 + 1 := by unfold odE; split <;> omega
  generalize odV bs p3 n = od at *
  generalize odE p3 n = p4 at *
  have K30 := fun m1 nb => KP0 p4 oM oM 4 m1 nb
  have h4 := Zaz bs p4 4
  generalize pickV bs p4 4 = a4 at *
  have K40 := fun m1 nb => KP0 (p4 + 1) oM oM 2 m1 nb
  have h2 := Zaz bs (p4 + 1) 2
  generalize pickV bs (p4 + 1) 2 = a2 at *
  obtain ⟨c, hcd⟩ : ∃ c : Nat, c = if od then a4.toNat else 4 := ⟨_, rfl⟩
  obtain ⟨p5, hp5⟩ : ∃ p5 : Int, p5 = if od then (if a4 = 0 then p4 + 1 + 1 else p4 + 1) else p4 := ⟨_, rfl⟩
  have hp5b : p4 ≤ p5 ∧ p5 ≤ p4 + 2 := by rw [hp5]; split <;> (try split) <;> omega
  have hc4 : c ≤ 4 := by rw [hcd]; split <;> omega
  have hlast : (lastP c a2 D2).1.vs.length ≤ 17 ∧ (lastP c a2 D2).1.gs.length ≤ 17 ∧ (lastP c a2 D2).1.ms.length ≤ 625 := by
    unfold lastP
    split <;> (try simp only [List.length_append, List.length_cons, List.length_nil]) <;> omega
  refine ⟨(lastP c a2 D2).1, (lastP c a2 D2).2, p5, ⟨hlast.1, hlast.2.1, hlast.2.2, by omega, by omega⟩, ?_⟩
  clear hlast
  cases hO : itZ m es k s r C with
  | some st =>
    suffices hown : ∀ m1 nb, FnS Try.prog 41 [.one (.ptr 1000000000 0 0 0), .agg [.r false (int m), .r false (row nE 3 (edges es))], .agg [.r false (int k), .r false (int s), .r false (int r)], .one (.r false (int n))] (rdH 1000000000 m1 true nb bs p) (stateO (lastP c a2 D2).1.r (lastP c a2 D2).1.vs (lastP c a2 D2).1.gs.length (lastP c a2 D2).2 (lastP c a2 D2).1.ms) (rdH 1000000000 m1 true nb bs p5 ++ [(2000002, .sl 4 1 true (bools (lastP c a2 D2).1.gs))]) from ⟨false, fun m1 nb => plain_of_own (hown m1 nb)⟩
    intro m1 nb
    have KS := f_startZ0
    have K1 := K10 m1 nb
    have K2 := K20 m1 nb
    have KM := KM0 m1 nb
    have KO := KO0 m1 nb
    have K3 := K30 m1 nb
    have K4 := K40 m1 nb
    clear K10 K20 KM0 KO0 K30 K40 KP0
    unfold rdH at *
    refine Zad (l := [.cell 8 28]) Try.func41 kRf rfl Try.ntmps41 rfl rfl ?_; simp only [dEnv, Nat.reduceAdd]
    refine Zbk ?_
    repeat' (first|refine wkN ?_|(refine wkB ?_ ?_<;>intro hg_<;>try exact wkX)|fail)
    refine Zbk ?_
    repeat' (first|refine wkN ?_|((first|refine' w_e rfl ?xa ?xb ?xc ?xe ?_|refine' v_e rfl ?xa ?xb ?xc ?xe ?_);(case xa => exact Ze 17 rfl (Zax (ys := [iP ((0 : Nat) : Int)]) [] KS rfl rfl ⟨asA_eq (Za rfl) (by show R.val (.int .i64 _) = R.val (.int .i64 _);congr 2;rw [hM];(try simp only [Int.max_def, Int.min_def]);repeat' (first|omega|split)), trivial⟩ rfl rfl));(case xb|xc|xe=>rfl);try refine wkD ?_)|(refine wkB ?_ ?_<;>intro hg_<;>try exact wkX)|fail)
    refine Zbp (mkS 82 [(9, .one (.ptr 9 0 0 0)), (8, .one (.ptr 8 0 0 0)), (3, .one (.r false (int n))), (0, .one (.ptr 1000000000 0 0 0))] [(1000000000, .var 90 [.r m1 (row nb 1 (bys bs)), .r true (int (p + 1))]), (9, .var 28 [.r true (int (curZ m es k s r C).1.r), .r true (row false 1 (ints (curZ m es k s r C).1.vs)), .own 102 0 (curZ m es k s r C).1.gs.length 1, .r true (row (curZ m es k s r C).2 3 (edges (curZ m es k s r C).1.ms))]), (102, .sl 4 1 true (bools (curZ m es k s r C).1.gs)), (8, .var 28 [.r true (int 0), Zs, Zs, Zs])]) ?_ ?_
    · clear KM KO K2 K3 K4
      repeat' (first|refine wk ?_|((first|refine' w_e rfl ?xa ?xb ?xc ?xe ?_|refine' v_e rfl ?xa ?xb ?xc ?xe ?_);(case xa => exact Ze 19 rfl (Zg [] K1 rfl ⟨Zh (Za rfl), asE, trivial⟩ sbH rfl));(case xb|xc|xe=>rfl);try refine wkD ?_)|(refine wkB ?_ ?_<;>intro hg_<;>try exact wkX)|fail)
      obtain ⟨F, hFn, hFs⟩ : ∃ F : Nat → St, (∀ i, itZ m es k s r i = none → F i = mkS 82 [(10, .one (.r true (int ((C : Int) - (i : Int))))), (9, .one (.ptr 9 0 0 0)), (8, .one (.ptr 8 0 0 0)), (6, .one (.ptr 6 0 0 0)), (5, .one (.ptr 5 0 0 0)), (3, .one (.r false (int n))), (0, .one (.ptr 1000000000 0 0 0))] [(1000000000, .var 90 [.r m1 (row nb 1 (bys bs)), .r true (int (p + 1))]), (9, .var 28 [.r true (int 0), .r true (row false 1 []), .r true (row true 1 []), .r true (row true 3 [])]), (8, .var 28 [.r true (int 0), Zs, Zs, Zs]), (6, .var 59 [.r false (int k), .r false (int s), .r false (int r)]), (5, .var 57 [.r false (int m), .r false (row nE 3 (edges es))])]) ∧ (∀ i st, itZ m es k s r i = some st → F i = mkS 82 [(10, .one (.r true (int ((C : Int) - (i : Int))))), (9, .one (.ptr 9 0 0 0)), (8, .one (.ptr 8 0 0 0)), (6, .one (.ptr 6 0 0 0)), (5, .one (.ptr 5 0 0 0)), (3, .one (.r false (int n))), (0, .one (.ptr 1000000000 0 0 0))] [(1000000000, .var 90 [.r m1 (row nb 1 (bys bs)), .r true (int (p + 1))]), (9, .var 28 [.r true (int st.r), .r true (row false 1 (ints st.vs)), .own 102 0 st.gs.length 1, .r true (row false 3 (edges st.ms))]), (102, .sl 4 1 true (bools st.gs)), (8, .var 28 [.r true (int 0), Zs, Zs, Zs]), (6, .var 59 [.r false (int k), .r false (int s), .r false (int r)]), (5, .var 57 [.r false (int m), .r false (row nE 3 (edges es))])]) := ⟨fun i => match itZ m es k s r i with | none => mkS 82 [(10, .one (.r true (int ((C : Int) - (i : Int))))), (9, .one (.ptr 9 0 0 0)), (8, .one (.ptr 8 0 0 0)), (6, .one (.ptr 6 0 0 0)), (5, .one (.ptr 5 0 0 0)), (3, .one (.r false (int n))), (0, .one (.ptr 1000000000 0 0 0))] [(1000000000, .var 90 [.r m1 (row nb 1 (bys bs)), .r true (int (p + 1))]), (9, .var 28 [.r true (int 0), .r true (row false 1 []), .r true (row true 1 []), .r true (row true 3 [])]), (8, .var 28 [.r true (int 0), Zs, Zs, Zs]), (6, .var 59 [.r false (int k), .r false (int s), .r false (int r)]), (5, .var 57 [.r false (int m), .r false (row nE 3 (edges es))])] | some st => mkS 82 [(10, .one (.r true (int ((C : Int) - (i : Int))))), (9, .one (.ptr 9 0 0 0)), (8, .one (.ptr 8 0 0 0)), (6, .one (.ptr 6 0 0 0)), (5, .one (.ptr 5 0 0 0)), (3, .one (.r false (int n))), (0, .one (.ptr 1000000000 0 0 0))] [(1000000000, .var 90 [.r m1 (row nb 1 (bys bs)), .r true (int (p + 1))]), (9, .var 28 [.r true (int st.r), .r true (row false 1 (ints st.vs)), .own 102 0 st.gs.length 1, .r true (row false 3 (edges st.ms))]), (102, .sl 4 1 true (bools st.gs)), (8, .var 28 [.r true (int 0), Zs, Zs, Zs]), (6, .var 59 [.r false (int k), .r false (int s), .r false (int r)]), (5, .var 57 [.r false (int m), .r false (row nE 3 (edges es))])], fun i h => by simp only [h], fun i st h => by simp only [h]⟩
      refine Zaa (fun i : Nat => i ≤ C) F (fun i => C - i) 0 (Nat.zero_le _) (by rw [hFn 0 rfl];(refine Zi [] rfl ?_ ?_ <;> repeat' (first|refine wkS ?_ ?_|exact wkE|exact Zt oM))) ?_
      intro i hi
      have hfin : ∀ s' : St, Weak s' (F (i + 1)) → i < C → ∃ x' : Nat, x' ≤ C ∧ Weak s' (F x') ∧ C - x' < C - i := fun s' h hlt => ⟨i + 1, by omega, h, by omega⟩
      by_cases hlt : i < C
      · have hnx : itZ m es k s r (i + 1) = match stepS m es k s r (curO (itZ m es k s r i)) with | none => itZ m es k s r i | some x => some x := rfl
        have hsz := curZ_len m es k s r i
        unfold curZ at hsz
        cases hz : itZ m es k s r i with
        | none =>
          have KT := f_stepP m nE false true true es k s r ⟨0, [], [], []⟩ oM (by simp) (by simp) (by simp)
          rw [hz] at hnx
          rw [hFn i hz]
          dsimp only [curO] at hnx
          cases hst : stepS m es k s r ⟨0, [], [], []⟩ with
          | none =>
            rw [hst] at KT hnx
            have hF1 : F (i + 1) = mkS 82 [(10, .one (.r true (int ((C : Int) - ((i + 1 : Nat) : Int))))), (9, .one (.ptr 9 0 0 0)), (8, .one (.ptr 8 0 0 0)), (6, .one (.ptr 6 0 0 0)), (5, .one (.ptr 5 0 0 0)), (3, .one (.r false (int n))), (0, .one (.ptr 1000000000 0 0 0))] [(1000000000, .var 90 [.r m1 (row nb 1 (bys bs)), .r true (int (p + 1))]), (9, .var 28 [.r true (int 0), .r true (row false 1 []), .r true (row true 1 []), .r true (row true 3 [])]), (8, .var 28 [.r true (int 0), Zs, Zs, Zs]), (6, .var 59 [.r false (int k), .r false (int s), .r false (int r)]), (5, .var 57 [.r false (int m), .r false (row nE 3 (edges es))])] := hFn (i + 1) hnx
            have KT' : FnS Try.prog 71 [.agg [.r false (int m), .r false (row nE 3 (edges es))], .agg [.r false (int k), .r false (int s), .r false (int r)], .agg [.r false (int 0), .r false (row false 1 (ints [])), .r false (row true 1 (bools [])), .r false (row true 3 (edges []))]] [] (.tups [(true, [.r true (int 0), Zs, Zs, Zs]), (false, [.r true (bool false)])]) [] := KT
            rw [hF1] at hfin
            clear KT hst hFn hFs hF1 hnx
            repeat' (first|refine wk ?_|((first|refine' w_e rfl ?xa ?xb ?xc ?xe ?_|refine' v_e rfl ?xa ?xb ?xc ?xe ?_);(case xa => exact Ze 28 rfl (Zax (ys := [graphP m nE es, prgP k s r, stateP 0 false [] true [] true []]) [] KT' rfl rfl ⟨Zq (Za rfl) ⟨Zd, Zd, trivial⟩, Zq (Za rfl) ⟨Zd, Zd, Zd, trivial⟩, Zq (Za rfl) ⟨Zd, Zd, Zd, Zd, trivial⟩, trivial⟩ rfl rfl));(case xb|xc|xe=>rfl);try refine wkD ?_)|(refine wkB ?_ ?_<;>intro hg_<;>try exact wkX)|fail)
            all_goals first
              | (exfalso; omega)
              | (refine hfin _ ?_ hlt
                 (refine Zi [] rfl ?_ ?_ <;> repeat' (first|refine wkS ?_ ?_|exact wkE|exact Zt (by rw [IntWalk.i64_in _ oM] <;> omega)));done)
          | some y =>
            rw [hst] at KT hnx
            obtain ⟨yr, yv, yg, ym⟩ := y
            have hF1 := hFs (i + 1) _ hnx
            have KT' : FnS Try.prog 71 [.agg [.r false (int m), .r false (row nE 3 (edges es))], .agg [.r false (int k), .r false (int s), .r false (int r)], .agg [.r false (int 0), .r false (row false 1 (ints [])), .r false (row true 1 (bools [])), .r false (row true 3 (edges []))]] [] (.tups [(true, [.r true (int yr), .r true (row false 1 (ints yv)), .own 2000002 0 yg.length 1, .r true (row false 3 (edges ym))]), (false, [.r true (bool true)])]) [(2000002, .sl 4 1 true (bools yg))] := KT
            rw [hF1] at hfin
            clear KT hst hFn hFs hF1 hnx
            repeat' (first|refine wk ?_|((first|refine' w_e rfl ?xa ?xb ?xc ?xe ?_|refine' v_e rfl ?xa ?xb ?xc ?xe ?_);(case xa => exact Ze 28 rfl (Zax (ys := [graphP m nE es, prgP k s r, stateP 0 false [] true [] true []]) [(2000002, 502)] KT' rfl rfl ⟨Zq (Za rfl) ⟨Zd, Zd, trivial⟩, Zq (Za rfl) ⟨Zd, Zd, Zd, trivial⟩, Zq (Za rfl) ⟨Zd, Zd, Zd, Zd, trivial⟩, trivial⟩ rfl rfl));(case xb|xc|xe=>rfl);try refine wkD ?_)|(refine wkB ?_ ?_<;>intro hg_<;>try exact wkX)|fail)
            all_goals first
              | (exfalso; omega)
              | (refine hfin _ ?_ hlt
                 (refine Zi [(102, 502)] rfl ?_ ?_ <;> repeat' (first|refine wkS ?_ ?_|exact wkE|exact Zt (by rw [IntWalk.i64_in _ oM] <;> omega)));done)
        | some x =>
          rw [hz] at hnx hsz
          rw [hFs i x hz]
          obtain ⟨xr, xv, xg, xm⟩ := x
          dsimp only [curO] at hnx hsz
          have KT := f_stepP m nE false false false es k s r ⟨xr, xv, xg, xm⟩ oM (by dsimp only; omega) (by dsimp only; omega) (by dsimp only; omega)
          have hgl := Zah xg
          cases hst : stepS m es k s r ⟨xr, xv, xg, xm⟩ with
          | none =>
            rw [hst] at KT hnx
            have hF1 : F (i + 1) = mkS 82 [(10, .one (.r true (int ((C : Int) - ((i + 1 : Nat) : Int))))), (9, .one (.ptr 9 0 0 0)), (8, .one (.ptr 8 0 0 0)), (6, .one (.ptr 6 0 0 0)), (5, .one (.ptr 5 0 0 0)), (3, .one (.r false (int n))), (0, .one (.ptr 1000000000 0 0 0))] [(1000000000, .var 90 [.r m1 (row nb 1 (bys bs)), .r true (int (p + 1))]), (9, .var 28 [.r true (int xr), .r true (row false 1 (ints xv)), .own 102 0 xg.length 1, .r true (row false 3 (edges xm))]), (102, .sl 4 1 true (bools xg)), (8, .var 28 [.r true (int 0), Zs, Zs, Zs]), (6, .var 59 [.r false (int k), .r false (int s), .r false (int r)]), (5, .var 57 [.r false (int m), .r false (row nE 3 (edges es))])] := hFs (i + 1) _ hnx
            have KT' : FnS Try.prog 71 [.agg [.r false (int m), .r false (row nE 3 (edges es))], .agg [.r false (int k), .r false (int s), .r false (int r)], .agg [.r false (int xr), .r false (row false 1 (ints xv)), .r false (row false 1 (bools xg)), .r false (row false 3 (edges xm))]] [] (.tups [(true, [.r true (int 0), Zs, Zs, Zs]), (false, [.r true (bool false)])]) [] := KT
            rw [hF1] at hfin
            clear KT hst hFn hFs hF1 hnx
            repeat' (first|refine wk ?_|((first|refine' w_e rfl ?xa ?xb ?xc ?xe ?_|refine' v_e rfl ?xa ?xb ?xc ?xe ?_);(case xa => exact Ze 28 rfl (Zax (ys := [graphP m nE es, prgP k s r, stateP xr false xv false xg false xm]) [] KT' rfl rfl ⟨Zq (Za rfl) ⟨Zd, Zd, trivial⟩, Zq (Za rfl) ⟨Zd, Zd, Zd, trivial⟩, Zq (Za rfl) ⟨Zd, Zd, Zaf (Zj rfl) hgl.symm, Zd, trivial⟩, trivial⟩ rfl rfl));(case xb|xc|xe=>rfl);try refine wkD ?_)|(refine wkB ?_ ?_<;>intro hg_<;>try exact wkX)|fail)
            all_goals first
              | (exfalso; omega)
              | (refine hfin _ ?_ hlt
                 (refine Zi [] rfl ?_ ?_ <;> repeat' (first|refine wkS ?_ ?_|exact wkE|exact Zt (by rw [IntWalk.i64_in _ oM] <;> omega)));done)
          | some y =>
            rw [hst] at KT hnx
            obtain ⟨yr, yv, yg, ym⟩ := y
            have hF1 := hFs (i + 1) _ hnx
            have KT' : FnS Try.prog 71 [.agg [.r false (int m), .r false (row nE 3 (edges es))], .agg [.r false (int k), .r false (int s), .r false (int r)], .agg [.r false (int xr), .r false (row false 1 (ints xv)), .r false (row false 1 (bools xg)), .r false (row false 3 (edges xm))]] [] (.tups [(true, [.r true (int yr), .r true (row false 1 (ints yv)), .own 2000002 0 yg.length 1, .r true (row false 3 (edges ym))]), (false, [.r true (bool true)])]) [(2000002, .sl 4 1 true (bools yg))] := KT
            rw [hF1] at hfin
            clear KT hst hFn hFs hF1 hnx
            repeat' (first|refine wk ?_|((first|refine' w_e rfl ?xa ?xb ?xc ?xe ?_|refine' v_e rfl ?xa ?xb ?xc ?xe ?_);(case xa => exact Ze 28 rfl (Zax (ys := [graphP m nE es, prgP k s r, stateP xr false xv false xg false xm]) [(2000002, 502)] KT' rfl rfl ⟨Zq (Za rfl) ⟨Zd, Zd, trivial⟩, Zq (Za rfl) ⟨Zd, Zd, Zd, trivial⟩, Zq (Za rfl) ⟨Zd, Zd, Zaf (Zj rfl) hgl.symm, Zd, trivial⟩, trivial⟩ rfl rfl));(case xb|xc|xe=>rfl);try refine wkD ?_)|(refine wkB ?_ ?_<;>intro hg_<;>try exact wkX)|fail)
            all_goals first
              | (exfalso; omega)
              | (refine hfin _ ?_ hlt
                 (refine Zi [(102, 502)] rfl ?_ ?_ <;> repeat' (first|refine wkS ?_ ?_|exact wkE|exact Zt (by rw [IntWalk.i64_in _ oM] <;> omega)));done)
      · obtain rfl : i = C := by omega
        rw [hFs i st hO]
        clear hFn hFs hfin
        have hD1 : curZ m es k s r i = (st, false) := by unfold curZ; rw [hO]; rfl
        rw [hD1]
        repeat' (first|refine wk ?_|(refine wkB ?_ ?_<;>intro hg_<;>try exact wkX)|fail)
        all_goals first
          | (exfalso; omega)
          | ((refine Zi [] rfl ?_ ?_ <;>exact wkW);done)
    clear K1 KS
    generalize curZ m es k s r C = D1 at *
    refine Zbp (mkS 82 [(9, .one (.ptr 9 0 0 0)), (8, .one (.ptr 8 0 0 0)), (3, .one (.r false (int n))), (0, .one (.ptr 1000000000 0 0 0))] [(1000000000, .var 90 [.r m1 (row nb 1 (bys bs)), .r true (int (p3))]), (9, .var 28 [.r true (int D2.1.r), .r true (row false 1 (ints D2.1.vs)), .own 102 0 D2.1.gs.length 1, .r true (row D2.2 3 (edges D2.1.ms))]), (102, .sl 4 1 true (bools D2.1.gs)), (8, .var 28 [.r true (int 0), Zs, Zs, Zs])]) ?_ ?_
    · clear KO K3 K4
      obtain ⟨⟨xr, xv, xg, xm⟩, xn⟩ := D1
      dsimp only at *
      have hvl := Zu xv
      have hml := Zp xm
      have hmsl := Zp ms
      rw [← hvl] at KM
      by_cases hq : q4 = 0
      · rw [if_pos hq] at hD2 hp3
        subst hD2
        subst hp3
        have happ : edges xm ++ edges ms = edges (xm ++ ms) := by unfold edges; rw [List.map_append]
        have KQ := Zc0 false (xm ++ ms) (by rw [List.length_append]; omega)
        have hsl := Zp (sortL (xm ++ ms))
        rw [← happ] at KQ
        generalize sortL (xm ++ ms) = S at *
        have h0 : ([] ++ edges xm ++ edges ms).length = (edges xm).length + (edges ms).length := by simp
        repeat' (first|refine wk ?_|((first|refine' w_e rfl ?xa ?xb ?xc ?xe ?_|refine' v_e rfl ?xa ?xb ?xc ?xe ?_);(case xa => first|exact Ze 34 rfl (Zg [] K2 rfl ⟨Zh (Za rfl), asE, trivial⟩ sbH rfl)|exact Ze 39 rfl (Zw tlOk rfl rfl rfl rfl rfl rfl (Z6 Za2 (Zbg _)) rfl (by simp only [maxLen, List.length_nil];omega) (by simp only [List.length_nil];omega))|exact Zl [] tlOk rfl rfl rfl rfl rfl rfl (by simp [AllN]) (by simp)|exact Ze 44 rfl (Zg [(2000001, 544)] KM rfl ⟨Zh (Za rfl), asE, trivial⟩ sbH rfl)|exact Ze 45 rfl (Zw tlOk rfl rfl rfl rfl rfl rfl (Z6 (Z0 (Zj rfl) hmsl.symm) (Zbg _)) (by simp) (by simp only [maxLen, List.length_append, List.length_nil];omega) (by simp only [List.length_append, List.length_nil];omega))|exact Ze 46 rfl (Zbe KQ rfl rfl ⟨Zcv (Za rfl) (Zj rfl) (by simp), trivial⟩));(case xb|xc|xe=>rfl);try refine wkD ?_)|(refine wkB ?_ ?_<;>intro hg_<;>try exact wkX)|fail)
        all_goals first
          | (exfalso; omega)
          | exact Zb0 (Za9 46 rfl) (by (refine Zi [] rfl ?_ ?_ <;> repeat' (first|refine wkS ?_ ?_|exact wkE|exact var4q rfl rfl rfl (Zbb rfl))))
      · rw [if_neg hq] at hD2 hp3
        subst hD2
        subst hp3
        repeat' (first|refine wk ?_|((first|refine' w_e rfl ?xa ?xb ?xc ?xe ?_|refine' v_e rfl ?xa ?xb ?xc ?xe ?_);(case xa => exact Ze 34 rfl (Zg [] K2 rfl ⟨Zh (Za rfl), asE, trivial⟩ sbH rfl));(case xb|xc|xe=>rfl);try refine wkD ?_)|(refine wkB ?_ ?_<;>intro hg_<;>try exact wkX)|fail)
        all_goals first
          | (exfalso; omega)
          | ((refine Zi [] rfl ?_ ?_ <;>exact wkW);done)
    clear K2 KM hD2 hp3
    refine Zbp (mkS 82 [(9, .one (.ptr 9 0 0 0)), (8, .one (.ptr 8 0 0 0)), (3, .one (.r false (int n))), (0, .one (.ptr 1000000000 0 0 0))] [(1000000000, .var 90 [.r m1 (row nb 1 (bys bs)), .r true (int (p5))]), (9, .var 28 [.r true (int (lastP c a2 D2).1.r), .r true (row false 1 (ints (lastP c a2 D2).1.vs)), .own 102 0 (lastP c a2 D2).1.gs.length 1, .r true (row (lastP c a2 D2).2 3 (edges (lastP c a2 D2).1.ms))]), (102, .sl 4 1 true (bools (lastP c a2 D2).1.gs)), (8, .var 28 [.r true (int 0), Zs, Zs, Zs])]) ?_ ?_
    · obtain ⟨⟨xr, xv, xg, xm⟩, xn⟩ := D2
      dsimp only at *
      have hvl := Zu xv
      have hml := Zp xm
      have hgl := Zah xg
      cases od
      · rw [if_neg (by decide)] at hcd hp5
        subst hcd
        subst hp5
        dsimp only [lastP]
        repeat' (first|refine wk ?_|((first|refine' w_e rfl ?xa ?xb ?xc ?xe ?_|refine' v_e rfl ?xa ?xb ?xc ?xe ?_);(case xa => exact Ze 50 rfl (Zg [] KO rfl ⟨Zh (Za rfl), asE, trivial⟩ sbH rfl));(case xb|xc|xe=>rfl);try refine wkD ?_)|(refine wkB ?_ ?_<;>intro hg_<;>try exact wkX)|fail)
        all_goals first
          | (exfalso; omega)
          | (exfalso; simp at hg_; done)
          | ((refine Zi [] rfl ?_ ?_ <;>exact wkW);done)
      · rw [if_pos rfl] at hcd hp5
        have h4c : a4 = 0 ∨ a4 = 1 ∨ a4 = 2 ∨ a4 = 3 := by omega
        rcases h4c with rfl | rfl | rfl | rfl
        all_goals
          first
            | rw [if_pos rfl] at hp5
            | rw [if_neg (by decide)] at hp5
          subst hcd
          subst hp5
          simp only [lp0, lp1, lp2, lp3]
          repeat' (first|refine wk ?_|((first|refine' w_q rfl rfl ?xa rfl ?_|refine' v_q rfl rfl ?xa rfl ?_|refine' Zn rfl rfl (Zb rfl) rfl ?xa rfl ?_|refine' Zo rfl rfl (Zb rfl) rfl ?xa rfl ?_);case xa => first|exact Zap tbOk rfl rfl rfl rfl oM (by show _ < ((2 : Nat) : Int);omega)|exact Zae (xs := [-1, 101]) tbOk rfl rfl rfl rfl (by simp only [List.length_cons, List.length_nil];omega))|((first|refine' w_e rfl ?xa ?xb ?xc ?xe ?_|refine' v_e rfl ?xa ?xb ?xc ?xe ?_);(case xa => first|exact Ze 50 rfl (Zg [] KO rfl ⟨Zh (Za rfl), asE, trivial⟩ sbH rfl)|exact Ze 52 rfl (Zg [] K3 rfl ⟨Zh (Za rfl), asE, trivial⟩ sbH rfl)|exact Ze 62 rfl (Zg [] K4 rfl ⟨Zh (Za rfl), asE, trivial⟩ sbH rfl)|exact Ze 60 rfl (Zl [.const (.int .i64 (-1)), .const (.int .i64 101)] tlOk rfl rfl rfl rfl rfl rfl (Za4 [-1, 101]) (by simp))|exact Ze 70 rfl (Zl [.const (.bool true)] tlOk rfl rfl rfl rfl rfl rfl (Zy rfl) (by simp))|exact Ze 71 rfl (Zw tlOk rfl rfl rfl rfl rfl rfl (Z6 (Z0 (Zj rfl) rfl) (by simp [plain1])) hgl.symm (by simp only [maxLen, List.length_cons, List.length_nil];omega) (by simp only [List.length_cons, List.length_nil];omega))|exact Ze 76 rfl (Zl [.tmp 75] tlOk rfl rfl rfl rfl rfl rfl (Zy rfl) (by simp))|exact Ze 79 rfl (Zw tlOk rfl rfl rfl rfl rfl rfl (Z6 Za2 (Zbg _)) rfl (by simp only [maxLen, List.length_cons, List.length_nil];omega) (by simp only [List.length_cons, List.length_nil];omega))|exact Ze 53 rfl (Zl [.const (.int .i64 (-2))] tlOk rfl rfl rfl rfl rfl rfl (Zy rfl) (by simp))|exact Ze 56 rfl (Zw tlOk rfl rfl rfl rfl rfl rfl (Z6 Za2 (Zbx _)) rfl (by simp only [maxLen, List.length_cons, List.length_nil];omega) (by simp only [List.length_cons, List.length_nil];omega)));(case xb|xc|xe=>rfl);try refine wkD ?_)|(refine wkB ?_ ?_<;>intro hg_<;>try exact wkX)|fail)
          all_goals first
            | (exfalso; omega)
            | (exfalso; simp at hg_; done)
            | ((refine Zi [] rfl ?_ ?_ <;> repeat' (first|refine wkS ?_ ?_|exact wkE|exact var4q (Zbm (by rw [Nat.zero_add];rfl)) rfl rfl rfl));done)
            | ((refine Zi [(102, 71)] rfl ?_ ?_ <;> repeat' (first|refine wkS ?_ ?_|exact wkE|exact var4q rfl rfl (cell_ownQ (by simp only [List.length_append, List.length_cons, List.length_nil] <;> omega)) rfl|exact Zz rfl (by unfold bools;rw [List.map_append] <;> rfl)));done)
            | exact Zb0 (Za9 79 rfl) (by (refine Zi [] rfl ?_ ?_ <;> repeat' (first|refine wkS ?_ ?_|exact wkE|exact var4q rfl rfl rfl (Zbb (by simp only [List.length_cons, List.length_append, List.length_nil] <;> omega)))))
            | exact Zb0 (Za9 56 rfl) (by (refine Zi [] rfl ?_ ?_ <;> repeat' (first|refine wkS ?_ ?_|exact wkE|exact var4q rfl (Zbb (by simp only [List.length_cons, List.length_append, List.length_nil] <;> omega)) rfl rfl)))
    clear KO K3 K4
    generalize lastP c a2 D2 = D3 at *
    repeat' (first|refine wk ?_|(refine wkB ?_ ?_<;>intro hg_<;>try exact wkX)|fail)
    all_goals first
      | exact Z4 [(2000002, 102)] rfl sbH (Za3 rfl rfl tyF0 rfl rfl rfl (Zac rfl))
  | none =>
    have hgs2 : D2.1.gs = [] := by
      have h1 : curZ m es k s r C = (⟨0, [], [], []⟩, true) := by unfold curZ; rw [hO]; rfl
      rw [hD2, h1]
      split <;> rfl
    by_cases hc1 : c = 1
    · skip
      suffices hown : ∀ m1 nb, FnS Try.prog 41 [.one (.ptr 1000000000 0 0 0), .agg [.r false (int m), .r false (row nE 3 (edges es))], .agg [.r false (int k), .r false (int s), .r false (int r)], .one (.r false (int n))] (rdH 1000000000 m1 true nb bs p) (stateO (lastP c a2 D2).1.r (lastP c a2 D2).1.vs (lastP c a2 D2).1.gs.length (lastP c a2 D2).2 (lastP c a2 D2).1.ms) (rdH 1000000000 m1 true nb bs p5 ++ [(2000002, .sl 4 1 true (bools (lastP c a2 D2).1.gs))]) from ⟨false, fun m1 nb => plain_of_own (hown m1 nb)⟩
      intro m1 nb
      have KS := f_startZ0
      have K1 := K10 m1 nb
      have K2 := K20 m1 nb
      have KM := KM0 m1 nb
      have KO := KO0 m1 nb
      have K3 := K30 m1 nb
      have K4 := K40 m1 nb
      clear K10 K20 KM0 KO0 K30 K40 KP0
      unfold rdH at *
      refine Zad (l := [.cell 8 28]) Try.func41 kRf rfl Try.ntmps41 rfl rfl ?_; simp only [dEnv, Nat.reduceAdd]
      refine Zbk ?_
      repeat' (first|refine wkN ?_|(refine wkB ?_ ?_<;>intro hg_<;>try exact wkX)|fail)
      refine Zbk ?_
      repeat' (first|refine wkN ?_|((first|refine' w_e rfl ?xa ?xb ?xc ?xe ?_|refine' v_e rfl ?xa ?xb ?xc ?xe ?_);(case xa => exact Ze 17 rfl (Zax (ys := [iP ((0 : Nat) : Int)]) [] KS rfl rfl ⟨asA_eq (Za rfl) (by show R.val (.int .i64 _) = R.val (.int .i64 _);congr 2;rw [hM];(try simp only [Int.max_def, Int.min_def]);repeat' (first|omega|split)), trivial⟩ rfl rfl));(case xb|xc|xe=>rfl);try refine wkD ?_)|(refine wkB ?_ ?_<;>intro hg_<;>try exact wkX)|fail)
      refine Zbp (mkS 82 [(9, .one (.ptr 9 0 0 0)), (8, .one (.ptr 8 0 0 0)), (3, .one (.r false (int n))), (0, .one (.ptr 1000000000 0 0 0))] [(1000000000, .var 90 [.r m1 (row nb 1 (bys bs)), .r true (int (p + 1))]), (9, .var 28 [.r true (int (curZ m es k s r C).1.r), .r true (row false 1 (ints (curZ m es k s r C).1.vs)), .r true (row true 1 []), .r true (row (curZ m es k s r C).2 3 (edges (curZ m es k s r C).1.ms))]), (8, .var 28 [.r true (int 0), Zs, Zs, Zs])]) ?_ ?_
      · clear KM KO K2 K3 K4
        repeat' (first|refine wk ?_|((first|refine' w_e rfl ?xa ?xb ?xc ?xe ?_|refine' v_e rfl ?xa ?xb ?xc ?xe ?_);(case xa => exact Ze 19 rfl (Zg [] K1 rfl ⟨Zh (Za rfl), asE, trivial⟩ sbH rfl));(case xb|xc|xe=>rfl);try refine wkD ?_)|(refine wkB ?_ ?_<;>intro hg_<;>try exact wkX)|fail)
        obtain ⟨F, hFn, hFs⟩ : ∃ F : Nat → St, (∀ i, itZ m es k s r i = none → F i = mkS 82 [(10, .one (.r true (int ((C : Int) - (i : Int))))), (9, .one (.ptr 9 0 0 0)), (8, .one (.ptr 8 0 0 0)), (6, .one (.ptr 6 0 0 0)), (5, .one (.ptr 5 0 0 0)), (3, .one (.r false (int n))), (0, .one (.ptr 1000000000 0 0 0))] [(1000000000, .var 90 [.r m1 (row nb 1 (bys bs)), .r true (int (p + 1))]), (9, .var 28 [.r true (int 0), .r true (row false 1 []), .r true (row true 1 []), .r true (row true 3 [])]), (8, .var 28 [.r true (int 0), Zs, Zs, Zs]), (6, .var 59 [.r false (int k), .r false (int s), .r false (int r)]), (5, .var 57 [.r false (int m), .r false (row nE 3 (edges es))])]) ∧ (∀ i st, itZ m es k s r i = some st → F i = mkS 82 [(10, .one (.r true (int ((C : Int) - (i : Int))))), (9, .one (.ptr 9 0 0 0)), (8, .one (.ptr 8 0 0 0)), (6, .one (.ptr 6 0 0 0)), (5, .one (.ptr 5 0 0 0)), (3, .one (.r false (int n))), (0, .one (.ptr 1000000000 0 0 0))] [(1000000000, .var 90 [.r m1 (row nb 1 (bys bs)), .r true (int (p + 1))]), (9, .var 28 [.r true (int st.r), .r true (row false 1 (ints st.vs)), .own 102 0 st.gs.length 1, .r true (row false 3 (edges st.ms))]), (102, .sl 4 1 true (bools st.gs)), (8, .var 28 [.r true (int 0), Zs, Zs, Zs]), (6, .var 59 [.r false (int k), .r false (int s), .r false (int r)]), (5, .var 57 [.r false (int m), .r false (row nE 3 (edges es))])]) := ⟨fun i => match itZ m es k s r i with | none => mkS 82 [(10, .one (.r true (int ((C : Int) - (i : Int))))), (9, .one (.ptr 9 0 0 0)), (8, .one (.ptr 8 0 0 0)), (6, .one (.ptr 6 0 0 0)), (5, .one (.ptr 5 0 0 0)), (3, .one (.r false (int n))), (0, .one (.ptr 1000000000 0 0 0))] [(1000000000, .var 90 [.r m1 (row nb 1 (bys bs)), .r true (int (p + 1))]), (9, .var 28 [.r true (int 0), .r true (row false 1 []), .r true (row true 1 []), .r true (row true 3 [])]), (8, .var 28 [.r true (int 0), Zs, Zs, Zs]), (6, .var 59 [.r false (int k), .r false (int s), .r false (int r)]), (5, .var 57 [.r false (int m), .r false (row nE 3 (edges es))])] | some st => mkS 82 [(10, .one (.r true (int ((C : Int) - (i : Int))))), (9, .one (.ptr 9 0 0 0)), (8, .one (.ptr 8 0 0 0)), (6, .one (.ptr 6 0 0 0)), (5, .one (.ptr 5 0 0 0)), (3, .one (.r false (int n))), (0, .one (.ptr 1000000000 0 0 0))] [(1000000000, .var 90 [.r m1 (row nb 1 (bys bs)), .r true (int (p + 1))]), (9, .var 28 [.r true (int st.r), .r true (row false 1 (ints st.vs)), .own 102 0 st.gs.length 1, .r true (row false 3 (edges st.ms))]), (102, .sl 4 1 true (bools st.gs)), (8, .var 28 [.r true (int 0), Zs, Zs, Zs]), (6, .var 59 [.r false (int k), .r false (int s), .r false (int r)]), (5, .var 57 [.r false (int m), .r false (row nE 3 (edges es))])], fun i h => by simp only [h], fun i st h => by simp only [h]⟩
        refine Zaa (fun i : Nat => i ≤ C) F (fun i => C - i) 0 (Nat.zero_le _) (by rw [hFn 0 rfl];(refine Zi [] rfl ?_ ?_ <;> repeat' (first|refine wkS ?_ ?_|exact wkE|exact Zt oM))) ?_
        intro i hi
        have hfin : ∀ s' : St, Weak s' (F (i + 1)) → i < C → ∃ x' : Nat, x' ≤ C ∧ Weak s' (F x') ∧ C - x' < C - i := fun s' h hlt => ⟨i + 1, by omega, h, by omega⟩
        by_cases hlt : i < C
        · have hnx : itZ m es k s r (i + 1) = match stepS m es k s r (curO (itZ m es k s r i)) with | none => itZ m es k s r i | some x => some x := rfl
          have hsz := curZ_len m es k s r i
          unfold curZ at hsz
          cases hz : itZ m es k s r i with
          | none =>
            have KT := f_stepP m nE false true true es k s r ⟨0, [], [], []⟩ oM (by simp) (by simp) (by simp)
            rw [hz] at hnx
            rw [hFn i hz]
            dsimp only [curO] at hnx
            cases hst : stepS m es k s r ⟨0, [], [], []⟩ with
            | none =>
              rw [hst] at KT hnx
              have hF1 : F (i + 1) = mkS 82 [(10, .one (.r true (int ((C : Int) - ((i + 1 : Nat) : Int))))), (9, .one (.ptr 9 0 0 0)), (8, .one (.ptr 8 0 0 0)), (6, .one (.ptr 6 0 0 0)), (5, .one (.ptr 5 0 0 0)), (3, .one (.r false (int n))), (0, .one (.ptr 1000000000 0 0 0))] [(1000000000, .var 90 [.r m1 (row nb 1 (bys bs)), .r true (int (p + 1))]), (9, .var 28 [.r true (int 0), .r true (row false 1 []), .r true (row true 1 []), .r true (row true 3 [])]), (8, .var 28 [.r true (int 0), Zs, Zs, Zs]), (6, .var 59 [.r false (int k), .r false (int s), .r false (int r)]), (5, .var 57 [.r false (int m), .r false (row nE 3 (edges es))])] := hFn (i + 1) hnx
              have KT' : FnS Try.prog 71 [.agg [.r false (int m), .r false (row nE 3 (edges es))], .agg [.r false (int k), .r false (int s), .r false (int r)], .agg [.r false (int 0), .r false (row false 1 (ints [])), .r false (row true 1 (bools [])), .r false (row true 3 (edges []))]] [] (.tups [(true, [.r true (int 0), Zs, Zs, Zs]), (false, [.r true (bool false)])]) [] := KT
              rw [hF1] at hfin
              clear KT hst hFn hFs hF1 hnx
              repeat' (first|refine wk ?_|((first|refine' w_e rfl ?xa ?xb ?xc ?xe ?_|refine' v_e rfl ?xa ?xb ?xc ?xe ?_);(case xa => exact Ze 28 rfl (Zax (ys := [graphP m nE es, prgP k s r, stateP 0 false [] true [] true []]) [] KT' rfl rfl ⟨Zq (Za rfl) ⟨Zd, Zd, trivial⟩, Zq (Za rfl) ⟨Zd, Zd, Zd, trivial⟩, Zq (Za rfl) ⟨Zd, Zd, Zd, Zd, trivial⟩, trivial⟩ rfl rfl));(case xb|xc|xe=>rfl);try refine wkD ?_)|(refine wkB ?_ ?_<;>intro hg_<;>try exact wkX)|fail)
              all_goals first
                | (exfalso; omega)
                | (refine hfin _ ?_ hlt
                   (refine Zi [] rfl ?_ ?_ <;> repeat' (first|refine wkS ?_ ?_|exact wkE|exact Zt (by rw [IntWalk.i64_in _ oM] <;> omega)));done)
            | some y =>
              rw [hst] at KT hnx
              obtain ⟨yr, yv, yg, ym⟩ := y
              have hF1 := hFs (i + 1) _ hnx
              have KT' : FnS Try.prog 71 [.agg [.r false (int m), .r false (row nE 3 (edges es))], .agg [.r false (int k), .r false (int s), .r false (int r)], .agg [.r false (int 0), .r false (row false 1 (ints [])), .r false (row true 1 (bools [])), .r false (row true 3 (edges []))]] [] (.tups [(true, [.r true (int yr), .r true (row false 1 (ints yv)), .own 2000002 0 yg.length 1, .r true (row false 3 (edges ym))]), (false, [.r true (bool true)])]) [(2000002, .sl 4 1 true (bools yg))] := KT
              rw [hF1] at hfin
              clear KT hst hFn hFs hF1 hnx
              repeat' (first|refine wk ?_|((first|refine' w_e rfl ?xa ?xb ?xc ?xe ?_|refine' v_e rfl ?xa ?xb ?xc ?xe ?_);(case xa => exact Ze 28 rfl (Zax (ys := [graphP m nE es, prgP k s r, stateP 0 false [] true [] true []]) [(2000002, 502)] KT' rfl rfl ⟨Zq (Za rfl) ⟨Zd, Zd, trivial⟩, Zq (Za rfl) ⟨Zd, Zd, Zd, trivial⟩, Zq (Za rfl) ⟨Zd, Zd, Zd, Zd, trivial⟩, trivial⟩ rfl rfl));(case xb|xc|xe=>rfl);try refine wkD ?_)|(refine wkB ?_ ?_<;>intro hg_<;>try exact wkX)|fail)
              all_goals first
                | (exfalso; omega)
                | (refine hfin _ ?_ hlt
                   (refine Zi [(102, 502)] rfl ?_ ?_ <;> repeat' (first|refine wkS ?_ ?_|exact wkE|exact Zt (by rw [IntWalk.i64_in _ oM] <;> omega)));done)
          | some x =>
            rw [hz] at hnx hsz
            rw [hFs i x hz]
            obtain ⟨xr, xv, xg, xm⟩ := x
            dsimp only [curO] at hnx hsz
            have KT := f_stepP m nE false false false es k s r ⟨xr, xv, xg, xm⟩ oM (by dsimp only; omega) (by dsimp only; omega) (by dsimp only; omega)
            have hgl := Zah xg
            cases hst : stepS m es k s r ⟨xr, xv, xg, xm⟩ with
            | none =>
              rw [hst] at KT hnx
              have hF1 : F (i + 1) = mkS 82 [(10, .one (.r true (int ((C : Int) - ((i + 1 : Nat) : Int))))), (9, .one (.ptr 9 0 0 0)), (8, .one (.ptr 8 0 0 0)), (6, .one (.ptr 6 0 0 0)), (5, .one (.ptr 5 0 0 0)), (3, .one (.r false (int n))), (0, .one (.ptr 1000000000 0 0 0))] [(1000000000, .var 90 [.r m1 (row nb 1 (bys bs)), .r true (int (p + 1))]), (9, .var 28 [.r true (int xr), .r true (row false 1 (ints xv)), .own 102 0 xg.length 1, .r true (row false 3 (edges xm))]), (102, .sl 4 1 true (bools xg)), (8, .var 28 [.r true (int 0), Zs, Zs, Zs]), (6, .var 59 [.r false (int k), .r false (int s), .r false (int r)]), (5, .var 57 [.r false (int m), .r false (row nE 3 (edges es))])] := hFs (i + 1) _ hnx
              have KT' : FnS Try.prog 71 [.agg [.r false (int m), .r false (row nE 3 (edges es))], .agg [.r false (int k), .r false (int s), .r false (int r)], .agg [.r false (int xr), .r false (row false 1 (ints xv)), .r false (row false 1 (bools xg)), .r false (row false 3 (edges xm))]] [] (.tups [(true, [.r true (int 0), Zs, Zs, Zs]), (false, [.r true (bool false)])]) [] := KT
              rw [hF1] at hfin
              clear KT hst hFn hFs hF1 hnx
              repeat' (first|refine wk ?_|((first|refine' w_e rfl ?xa ?xb ?xc ?xe ?_|refine' v_e rfl ?xa ?xb ?xc ?xe ?_);(case xa => exact Ze 28 rfl (Zax (ys := [graphP m nE es, prgP k s r, stateP xr false xv false xg false xm]) [] KT' rfl rfl ⟨Zq (Za rfl) ⟨Zd, Zd, trivial⟩, Zq (Za rfl) ⟨Zd, Zd, Zd, trivial⟩, Zq (Za rfl) ⟨Zd, Zd, Zaf (Zj rfl) hgl.symm, Zd, trivial⟩, trivial⟩ rfl rfl));(case xb|xc|xe=>rfl);try refine wkD ?_)|(refine wkB ?_ ?_<;>intro hg_<;>try exact wkX)|fail)
              all_goals first
                | (exfalso; omega)
                | (refine hfin _ ?_ hlt
                   (refine Zi [] rfl ?_ ?_ <;> repeat' (first|refine wkS ?_ ?_|exact wkE|exact Zt (by rw [IntWalk.i64_in _ oM] <;> omega)));done)
            | some y =>
              rw [hst] at KT hnx
              obtain ⟨yr, yv, yg, ym⟩ := y
              have hF1 := hFs (i + 1) _ hnx
              have KT' : FnS Try.prog 71 [.agg [.r false (int m), .r false (row nE 3 (edges es))], .agg [.r false (int k), .r false (int s), .r false (int r)], .agg [.r false (int xr), .r false (row false 1 (ints xv)), .r false (row false 1 (bools xg)), .r false (row false 3 (edges xm))]] [] (.tups [(true, [.r true (int yr), .r true (row false 1 (ints yv)), .own 2000002 0 yg.length 1, .r true (row false 3 (edges ym))]), (false, [.r true (bool true)])]) [(2000002, .sl 4 1 true (bools yg))] := KT
              rw [hF1] at hfin
              clear KT hst hFn hFs hF1 hnx
              repeat' (first|refine wk ?_|((first|refine' w_e rfl ?xa ?xb ?xc ?xe ?_|refine' v_e rfl ?xa ?xb ?xc ?xe ?_);(case xa => exact Ze 28 rfl (Zax (ys := [graphP m nE es, prgP k s r, stateP xr false xv false xg false xm]) [(2000002, 502)] KT' rfl rfl ⟨Zq (Za rfl) ⟨Zd, Zd, trivial⟩, Zq (Za rfl) ⟨Zd, Zd, Zd, trivial⟩, Zq (Za rfl) ⟨Zd, Zd, Zaf (Zj rfl) hgl.symm, Zd, trivial⟩, trivial⟩ rfl rfl));(case xb|xc|xe=>rfl);try refine wkD ?_)|(refine wkB ?_ ?_<;>intro hg_<;>try exact wkX)|fail)
              all_goals first
                | (exfalso; omega)
                | (refine hfin _ ?_ hlt
                   (refine Zi [(102, 502)] rfl ?_ ?_ <;> repeat' (first|refine wkS ?_ ?_|exact wkE|exact Zt (by rw [IntWalk.i64_in _ oM] <;> omega)));done)
        · obtain rfl : i = C := by omega
          rw [hFn i hO]
          clear hFn hFs hfin
          have hD1 : curZ m es k s r i = (⟨0, [], [], []⟩, true) := by unfold curZ; rw [hO]; rfl
          rw [hD1]
          repeat' (first|refine wk ?_|(refine wkB ?_ ?_<;>intro hg_<;>try exact wkX)|fail)
          all_goals first
            | (exfalso; omega)
            | ((refine Zi [] rfl ?_ ?_ <;>exact wkW);done)
      clear K1 KS
      generalize curZ m es k s r C = D1 at *
      refine Zbp (mkS 82 [(9, .one (.ptr 9 0 0 0)), (8, .one (.ptr 8 0 0 0)), (3, .one (.r false (int n))), (0, .one (.ptr 1000000000 0 0 0))] [(1000000000, .var 90 [.r m1 (row nb 1 (bys bs)), .r true (int (p3))]), (9, .var 28 [.r true (int D2.1.r), .r true (row false 1 (ints D2.1.vs)), .r true (row true 1 []), .r true (row D2.2 3 (edges D2.1.ms))]), (8, .var 28 [.r true (int 0), Zs, Zs, Zs])]) ?_ ?_
      · clear KO K3 K4
        obtain ⟨⟨xr, xv, xg, xm⟩, xn⟩ := D1
        dsimp only at *
        have hvl := Zu xv
        have hml := Zp xm
        have hmsl := Zp ms
        rw [← hvl] at KM
        by_cases hq : q4 = 0
        · rw [if_pos hq] at hD2 hp3
          subst hD2
          subst hp3
          have happ : edges xm ++ edges ms = edges (xm ++ ms) := by unfold edges; rw [List.map_append]
          have KQ := Zc0 false (xm ++ ms) (by rw [List.length_append]; omega)
          have hsl := Zp (sortL (xm ++ ms))
          rw [← happ] at KQ
          generalize sortL (xm ++ ms) = S at *
          have h0 : ([] ++ edges xm ++ edges ms).length = (edges xm).length + (edges ms).length := by simp
          repeat' (first|refine wk ?_|((first|refine' w_e rfl ?xa ?xb ?xc ?xe ?_|refine' v_e rfl ?xa ?xb ?xc ?xe ?_);(case xa => first|exact Ze 34 rfl (Zg [] K2 rfl ⟨Zh (Za rfl), asE, trivial⟩ sbH rfl)|exact Ze 39 rfl (Zw tlOk rfl rfl rfl rfl rfl rfl (Z6 Za2 (Zbg _)) rfl (by simp only [maxLen, List.length_nil];omega) (by simp only [List.length_nil];omega))|exact Zl [] tlOk rfl rfl rfl rfl rfl rfl (by simp [AllN]) (by simp)|exact Ze 44 rfl (Zg [(2000001, 544)] KM rfl ⟨Zh (Za rfl), asE, trivial⟩ sbH rfl)|exact Ze 45 rfl (Zw tlOk rfl rfl rfl rfl rfl rfl (Z6 (Z0 (Zj rfl) hmsl.symm) (Zbg _)) (by simp) (by simp only [maxLen, List.length_append, List.length_nil];omega) (by simp only [List.length_append, List.length_nil];omega))|exact Ze 46 rfl (Zbe KQ rfl rfl ⟨Zcv (Za rfl) (Zj rfl) (by simp), trivial⟩));(case xb|xc|xe=>rfl);try refine wkD ?_)|(refine wkB ?_ ?_<;>intro hg_<;>try exact wkX)|fail)
          all_goals first
            | (exfalso; omega)
            | exact Zb0 (Za9 46 rfl) (by (refine Zi [] rfl ?_ ?_ <;> repeat' (first|refine wkS ?_ ?_|exact wkE|exact var4q rfl rfl rfl (Zbb rfl))))
        · rw [if_neg hq] at hD2 hp3
          subst hD2
          subst hp3
          repeat' (first|refine wk ?_|((first|refine' w_e rfl ?xa ?xb ?xc ?xe ?_|refine' v_e rfl ?xa ?xb ?xc ?xe ?_);(case xa => exact Ze 34 rfl (Zg [] K2 rfl ⟨Zh (Za rfl), asE, trivial⟩ sbH rfl));(case xb|xc|xe=>rfl);try refine wkD ?_)|(refine wkB ?_ ?_<;>intro hg_<;>try exact wkX)|fail)
          all_goals first
            | (exfalso; omega)
            | ((refine Zi [] rfl ?_ ?_ <;>exact wkW);done)
      clear K2 KM hD2 hp3
      refine Zbp (mkS 82 [(9, .one (.ptr 9 0 0 0)), (8, .one (.ptr 8 0 0 0)), (3, .one (.r false (int n))), (0, .one (.ptr 1000000000 0 0 0))] [(1000000000, .var 90 [.r m1 (row nb 1 (bys bs)), .r true (int (p5))]), (9, .var 28 [.r true (int (lastP c a2 D2).1.r), .r true (row false 1 (ints (lastP c a2 D2).1.vs)), .own 102 0 (lastP c a2 D2).1.gs.length 1, .r true (row (lastP c a2 D2).2 3 (edges (lastP c a2 D2).1.ms))]), (102, .sl 4 1 true (bools (lastP c a2 D2).1.gs)), (8, .var 28 [.r true (int 0), Zs, Zs, Zs])]) ?_ ?_
      · obtain ⟨⟨xr, xv, xg, xm⟩, xn⟩ := D2
        dsimp only at *
        have hvl := Zu xv
        have hml := Zp xm
        have hgl := Zah xg
        have hxg : xg = [] := hgs2
        subst hxg
        cases od
        · rw [if_neg (by decide)] at hcd hp5
          subst hcd
          subst hp5
          dsimp only [lastP]
          repeat' (first|refine wk ?_|((first|refine' w_e rfl ?xa ?xb ?xc ?xe ?_|refine' v_e rfl ?xa ?xb ?xc ?xe ?_);(case xa => exact Ze 50 rfl (Zg [] KO rfl ⟨Zh (Za rfl), asE, trivial⟩ sbH rfl));(case xb|xc|xe=>rfl);try refine wkD ?_)|(refine wkB ?_ ?_<;>intro hg_<;>try exact wkX)|fail)
          all_goals first
            | (exfalso; omega)
            | (exfalso; simp at hg_; done)
            | ((refine Zi [] rfl ?_ ?_ <;>exact wkW);done)
        · rw [if_pos rfl] at hcd hp5
          have h4c : a4 = 0 ∨ a4 = 1 ∨ a4 = 2 ∨ a4 = 3 := by omega
          rcases h4c with rfl | rfl | rfl | rfl
          all_goals
            first
              | rw [if_pos rfl] at hp5
              | rw [if_neg (by decide)] at hp5
            subst hcd
            subst hp5
            simp only [lp0, lp1, lp2, lp3]
            repeat' (first|refine wk ?_|((first|refine' w_q rfl rfl ?xa rfl ?_|refine' v_q rfl rfl ?xa rfl ?_|refine' Zn rfl rfl (Zb rfl) rfl ?xa rfl ?_|refine' Zo rfl rfl (Zb rfl) rfl ?xa rfl ?_);case xa => first|exact Zap tbOk rfl rfl rfl rfl oM (by show _ < ((2 : Nat) : Int);omega)|exact Zae (xs := [-1, 101]) tbOk rfl rfl rfl rfl (by simp only [List.length_cons, List.length_nil];omega))|((first|refine' w_e rfl ?xa ?xb ?xc ?xe ?_|refine' v_e rfl ?xa ?xb ?xc ?xe ?_);(case xa => first|exact Ze 50 rfl (Zg [] KO rfl ⟨Zh (Za rfl), asE, trivial⟩ sbH rfl)|exact Ze 52 rfl (Zg [] K3 rfl ⟨Zh (Za rfl), asE, trivial⟩ sbH rfl)|exact Ze 62 rfl (Zg [] K4 rfl ⟨Zh (Za rfl), asE, trivial⟩ sbH rfl)|exact Ze 60 rfl (Zl [.const (.int .i64 (-1)), .const (.int .i64 101)] tlOk rfl rfl rfl rfl rfl rfl (Za4 [-1, 101]) (by simp))|exact Ze 70 rfl (Zl [.const (.bool true)] tlOk rfl rfl rfl rfl rfl rfl (Zy rfl) (by simp))|exact Ze 71 rfl (Zas tlOk rfl rfl rfl rfl rfl (Z6 (Z0 (Zj rfl) rfl) (by simp [plain1])) (by simp) (by simp [maxLen]) (by simp))|exact Ze 76 rfl (Zl [.tmp 75] tlOk rfl rfl rfl rfl rfl rfl (Zy rfl) (by simp))|exact Ze 79 rfl (Zw tlOk rfl rfl rfl rfl rfl rfl (Z6 Za2 (Zbg _)) rfl (by simp only [maxLen, List.length_cons, List.length_nil];omega) (by simp only [List.length_cons, List.length_nil];omega))|exact Ze 53 rfl (Zl [.const (.int .i64 (-2))] tlOk rfl rfl rfl rfl rfl rfl (Zy rfl) (by simp))|exact Ze 56 rfl (Zw tlOk rfl rfl rfl rfl rfl rfl (Z6 Za2 (Zbx _)) rfl (by simp only [maxLen, List.length_cons, List.length_nil];omega) (by simp only [List.length_cons, List.length_nil];omega)));(case xb|xc|xe=>rfl);try refine wkD ?_)|(refine wkB ?_ ?_<;>intro hg_<;>try exact wkX)|fail)
            all_goals first
              | (exfalso; omega)
              | (exfalso; simp at hg_; done)
              | ((refine Zi [] rfl ?_ ?_ <;> repeat' (first|refine wkS ?_ ?_|exact wkE|exact var4q (Zbm (by rw [Nat.zero_add];rfl)) rfl rfl rfl));done)
              | ((refine Zi [(102, 71)] rfl ?_ ?_ <;> repeat' (first|refine wkS ?_ ?_|exact wkE|exact var4q rfl rfl (cell_ownQ (by simp only [List.length_append, List.length_cons, List.length_nil] <;> omega)) rfl|exact Zz rfl (by unfold bools;rw [List.map_append] <;> rfl)));done)
              | exact Zb0 (Za9 79 rfl) (by (refine Zi [] rfl ?_ ?_ <;> repeat' (first|refine wkS ?_ ?_|exact wkE|exact var4q rfl rfl rfl (Zbb (by simp only [List.length_cons, List.length_append, List.length_nil] <;> omega)))))
              | exact Zb0 (Za9 56 rfl) (by (refine Zi [] rfl ?_ ?_ <;> repeat' (first|refine wkS ?_ ?_|exact wkE|exact var4q rfl (Zbb (by simp only [List.length_cons, List.length_append, List.length_nil] <;> omega)) rfl rfl)))
      clear KO K3 K4
      generalize lastP c a2 D2 = D3 at *
      repeat' (first|refine wk ?_|(refine wkB ?_ ?_<;>intro hg_<;>try exact wkX)|fail)
      all_goals first
        | exact Z4 [(2000002, 102)] rfl sbH (Za3 rfl rfl tyF0 rfl rfl rfl (Zac rfl))
    · have hgl5 : (lastP c a2 D2).1.gs = [] := by
        unfold lastP
        split
        · exact hgs2
        · exact absurd rfl hc1
        · exact hgs2
        · exact hgs2
        · exact hgs2
      suffices hown : ∀ m1 nb, FnS Try.prog 41 [.one (.ptr 1000000000 0 0 0), .agg [.r false (int m), .r false (row nE 3 (edges es))], .agg [.r false (int k), .r false (int s), .r false (int r)], .one (.r false (int n))] (rdH 1000000000 m1 true nb bs p) (.agg [.r true (int (lastP c a2 D2).1.r), .r true (row false 1 (ints (lastP c a2 D2).1.vs)), .r true (row true 1 []), .r true (row (lastP c a2 D2).2 3 (edges (lastP c a2 D2).1.ms))]) (rdH 1000000000 m1 true nb bs p5) from ⟨true, by rw [hgl5]; exact hown⟩
      intro m1 nb
      have KS := f_startZ0
      have K1 := K10 m1 nb
      have K2 := K20 m1 nb
      have KM := KM0 m1 nb
      have KO := KO0 m1 nb
      have K3 := K30 m1 nb
      have K4 := K40 m1 nb
      clear K10 K20 KM0 KO0 K30 K40 KP0
      unfold rdH at *
      refine Zad (l := [.cell 8 28]) Try.func41 kRf rfl Try.ntmps41 rfl rfl ?_; simp only [dEnv, Nat.reduceAdd]
      refine Zbk ?_
      repeat' (first|refine wkN ?_|(refine wkB ?_ ?_<;>intro hg_<;>try exact wkX)|fail)
      refine Zbk ?_
      repeat' (first|refine wkN ?_|((first|refine' w_e rfl ?xa ?xb ?xc ?xe ?_|refine' v_e rfl ?xa ?xb ?xc ?xe ?_);(case xa => exact Ze 17 rfl (Zax (ys := [iP ((0 : Nat) : Int)]) [] KS rfl rfl ⟨asA_eq (Za rfl) (by show R.val (.int .i64 _) = R.val (.int .i64 _);congr 2;rw [hM];(try simp only [Int.max_def, Int.min_def]);repeat' (first|omega|split)), trivial⟩ rfl rfl));(case xb|xc|xe=>rfl);try refine wkD ?_)|(refine wkB ?_ ?_<;>intro hg_<;>try exact wkX)|fail)
      refine Zbp (mkS 82 [(9, .one (.ptr 9 0 0 0)), (8, .one (.ptr 8 0 0 0)), (3, .one (.r false (int n))), (0, .one (.ptr 1000000000 0 0 0))] [(1000000000, .var 90 [.r m1 (row nb 1 (bys bs)), .r true (int (p + 1))]), (9, .var 28 [.r true (int (curZ m es k s r C).1.r), .r true (row false 1 (ints (curZ m es k s r C).1.vs)), .r true (row true 1 []), .r true (row (curZ m es k s r C).2 3 (edges (curZ m es k s r C).1.ms))]), (8, .var 28 [.r true (int 0), Zs, Zs, Zs])]) ?_ ?_
      · clear KM KO K2 K3 K4
        repeat' (first|refine wk ?_|((first|refine' w_e rfl ?xa ?xb ?xc ?xe ?_|refine' v_e rfl ?xa ?xb ?xc ?xe ?_);(case xa => exact Ze 19 rfl (Zg [] K1 rfl ⟨Zh (Za rfl), asE, trivial⟩ sbH rfl));(case xb|xc|xe=>rfl);try refine wkD ?_)|(refine wkB ?_ ?_<;>intro hg_<;>try exact wkX)|fail)
        obtain ⟨F, hFn, hFs⟩ : ∃ F : Nat → St, (∀ i, itZ m es k s r i = none → F i = mkS 82 [(10, .one (.r true (int ((C : Int) - (i : Int))))), (9, .one (.ptr 9 0 0 0)), (8, .one (.ptr 8 0 0 0)), (6, .one (.ptr 6 0 0 0)), (5, .one (.ptr 5 0 0 0)), (3, .one (.r false (int n))), (0, .one (.ptr 1000000000 0 0 0))] [(1000000000, .var 90 [.r m1 (row nb 1 (bys bs)), .r true (int (p + 1))]), (9, .var 28 [.r true (int 0), .r true (row false 1 []), .r true (row true 1 []), .r true (row true 3 [])]), (8, .var 28 [.r true (int 0), Zs, Zs, Zs]), (6, .var 59 [.r false (int k), .r false (int s), .r false (int r)]), (5, .var 57 [.r false (int m), .r false (row nE 3 (edges es))])]) ∧ (∀ i st, itZ m es k s r i = some st → F i = mkS 82 [(10, .one (.r true (int ((C : Int) - (i : Int))))), (9, .one (.ptr 9 0 0 0)), (8, .one (.ptr 8 0 0 0)), (6, .one (.ptr 6 0 0 0)), (5, .one (.ptr 5 0 0 0)), (3, .one (.r false (int n))), (0, .one (.ptr 1000000000 0 0 0))] [(1000000000, .var 90 [.r m1 (row nb 1 (bys bs)), .r true (int (p + 1))]), (9, .var 28 [.r true (int st.r), .r true (row false 1 (ints st.vs)), .own 102 0 st.gs.length 1, .r true (row false 3 (edges st.ms))]), (102, .sl 4 1 true (bools st.gs)), (8, .var 28 [.r true (int 0), Zs, Zs, Zs]), (6, .var 59 [.r false (int k), .r false (int s), .r false (int r)]), (5, .var 57 [.r false (int m), .r false (row nE 3 (edges es))])]) := ⟨fun i => match itZ m es k s r i with | none => mkS 82 [(10, .one (.r true (int ((C : Int) - (i : Int))))), (9, .one (.ptr 9 0 0 0)), (8, .one (.ptr 8 0 0 0)), (6, .one (.ptr 6 0 0 0)), (5, .one (.ptr 5 0 0 0)), (3, .one (.r false (int n))), (0, .one (.ptr 1000000000 0 0 0))] [(1000000000, .var 90 [.r m1 (row nb 1 (bys bs)), .r true (int (p + 1))]), (9, .var 28 [.r true (int 0), .r true (row false 1 []), .r true (row true 1 []), .r true (row true 3 [])]), (8, .var 28 [.r true (int 0), Zs, Zs, Zs]), (6, .var 59 [.r false (int k), .r false (int s), .r false (int r)]), (5, .var 57 [.r false (int m), .r false (row nE 3 (edges es))])] | some st => mkS 82 [(10, .one (.r true (int ((C : Int) - (i : Int))))), (9, .one (.ptr 9 0 0 0)), (8, .one (.ptr 8 0 0 0)), (6, .one (.ptr 6 0 0 0)), (5, .one (.ptr 5 0 0 0)), (3, .one (.r false (int n))), (0, .one (.ptr 1000000000 0 0 0))] [(1000000000, .var 90 [.r m1 (row nb 1 (bys bs)), .r true (int (p + 1))]), (9, .var 28 [.r true (int st.r), .r true (row false 1 (ints st.vs)), .own 102 0 st.gs.length 1, .r true (row false 3 (edges st.ms))]), (102, .sl 4 1 true (bools st.gs)), (8, .var 28 [.r true (int 0), Zs, Zs, Zs]), (6, .var 59 [.r false (int k), .r false (int s), .r false (int r)]), (5, .var 57 [.r false (int m), .r false (row nE 3 (edges es))])], fun i h => by simp only [h], fun i st h => by simp only [h]⟩
        refine Zaa (fun i : Nat => i ≤ C) F (fun i => C - i) 0 (Nat.zero_le _) (by rw [hFn 0 rfl];(refine Zi [] rfl ?_ ?_ <;> repeat' (first|refine wkS ?_ ?_|exact wkE|exact Zt oM))) ?_
        intro i hi
        have hfin : ∀ s' : St, Weak s' (F (i + 1)) → i < C → ∃ x' : Nat, x' ≤ C ∧ Weak s' (F x') ∧ C - x' < C - i := fun s' h hlt => ⟨i + 1, by omega, h, by omega⟩
        by_cases hlt : i < C
        · have hnx : itZ m es k s r (i + 1) = match stepS m es k s r (curO (itZ m es k s r i)) with | none => itZ m es k s r i | some x => some x := rfl
          have hsz := curZ_len m es k s r i
          unfold curZ at hsz
          cases hz : itZ m es k s r i with
          | none =>
            have KT := f_stepP m nE false true true es k s r ⟨0, [], [], []⟩ oM (by simp) (by simp) (by simp)
            rw [hz] at hnx
            rw [hFn i hz]
            dsimp only [curO] at hnx
            cases hst : stepS m es k s r ⟨0, [], [], []⟩ with
            | none =>
              rw [hst] at KT hnx
              have hF1 : F (i + 1) = mkS 82 [(10, .one (.r true (int ((C : Int) - ((i + 1 : Nat) : Int))))), (9, .one (.ptr 9 0 0 0)), (8, .one (.ptr 8 0 0 0)), (6, .one (.ptr 6 0 0 0)), (5, .one (.ptr 5 0 0 0)), (3, .one (.r false (int n))), (0, .one (.ptr 1000000000 0 0 0))] [(1000000000, .var 90 [.r m1 (row nb 1 (bys bs)), .r true (int (p + 1))]), (9, .var 28 [.r true (int 0), .r true (row false 1 []), .r true (row true 1 []), .r true (row true 3 [])]), (8, .var 28 [.r true (int 0), Zs, Zs, Zs]), (6, .var 59 [.r false (int k), .r false (int s), .r false (int r)]), (5, .var 57 [.r false (int m), .r false (row nE 3 (edges es))])] := hFn (i + 1) hnx
              have KT' : FnS Try.prog 71 [.agg [.r false (int m), .r false (row nE 3 (edges es))], .agg [.r false (int k), .r false (int s), .r false (int r)], .agg [.r false (int 0), .r false (row false 1 (ints [])), .r false (row true 1 (bools [])), .r false (row true 3 (edges []))]] [] (.tups [(true, [.r true (int 0), Zs, Zs, Zs]), (false, [.r true (bool false)])]) [] := KT
              rw [hF1] at hfin
              clear KT hst hFn hFs hF1 hnx
              repeat' (first|refine wk ?_|((first|refine' w_e rfl ?xa ?xb ?xc ?xe ?_|refine' v_e rfl ?xa ?xb ?xc ?xe ?_);(case xa => exact Ze 28 rfl (Zax (ys := [graphP m nE es, prgP k s r, stateP 0 false [] true [] true []]) [] KT' rfl rfl ⟨Zq (Za rfl) ⟨Zd, Zd, trivial⟩, Zq (Za rfl) ⟨Zd, Zd, Zd, trivial⟩, Zq (Za rfl) ⟨Zd, Zd, Zd, Zd, trivial⟩, trivial⟩ rfl rfl));(case xb|xc|xe=>rfl);try refine wkD ?_)|(refine wkB ?_ ?_<;>intro hg_<;>try exact wkX)|fail)
              all_goals first
                | (exfalso; omega)
                | (refine hfin _ ?_ hlt
                   (refine Zi [] rfl ?_ ?_ <;> repeat' (first|refine wkS ?_ ?_|exact wkE|exact Zt (by rw [IntWalk.i64_in _ oM] <;> omega)));done)
            | some y =>
              rw [hst] at KT hnx
              obtain ⟨yr, yv, yg, ym⟩ := y
              have hF1 := hFs (i + 1) _ hnx
              have KT' : FnS Try.prog 71 [.agg [.r false (int m), .r false (row nE 3 (edges es))], .agg [.r false (int k), .r false (int s), .r false (int r)], .agg [.r false (int 0), .r false (row false 1 (ints [])), .r false (row true 1 (bools [])), .r false (row true 3 (edges []))]] [] (.tups [(true, [.r true (int yr), .r true (row false 1 (ints yv)), .own 2000002 0 yg.length 1, .r true (row false 3 (edges ym))]), (false, [.r true (bool true)])]) [(2000002, .sl 4 1 true (bools yg))] := KT
              rw [hF1] at hfin
              clear KT hst hFn hFs hF1 hnx
              repeat' (first|refine wk ?_|((first|refine' w_e rfl ?xa ?xb ?xc ?xe ?_|refine' v_e rfl ?xa ?xb ?xc ?xe ?_);(case xa => exact Ze 28 rfl (Zax (ys := [graphP m nE es, prgP k s r, stateP 0 false [] true [] true []]) [(2000002, 502)] KT' rfl rfl ⟨Zq (Za rfl) ⟨Zd, Zd, trivial⟩, Zq (Za rfl) ⟨Zd, Zd, Zd, trivial⟩, Zq (Za rfl) ⟨Zd, Zd, Zd, Zd, trivial⟩, trivial⟩ rfl rfl));(case xb|xc|xe=>rfl);try refine wkD ?_)|(refine wkB ?_ ?_<;>intro hg_<;>try exact wkX)|fail)
              all_goals first
                | (exfalso; omega)
                | (refine hfin _ ?_ hlt
                   (refine Zi [(102, 502)] rfl ?_ ?_ <;> repeat' (first|refine wkS ?_ ?_|exact wkE|exact Zt (by rw [IntWalk.i64_in _ oM] <;> omega)));done)
          | some x =>
            rw [hz] at hnx hsz
            rw [hFs i x hz]
            obtain ⟨xr, xv, xg, xm⟩ := x
            dsimp only [curO] at hnx hsz
            have KT := f_stepP m nE false false false es k s r ⟨xr, xv, xg, xm⟩ oM (by dsimp only; omega) (by dsimp only; omega) (by dsimp only; omega)
            have hgl := Zah xg
            cases hst : stepS m es k s r ⟨xr, xv, xg, xm⟩ with
            | none =>
              rw [hst] at KT hnx
              have hF1 : F (i + 1) = mkS 82 [(10, .one (.r true (int ((C : Int) - ((i + 1 : Nat) : Int))))), (9, .one (.ptr 9 0 0 0)), (8, .one (.ptr 8 0 0 0)), (6, .one (.ptr 6 0 0 0)), (5, .one (.ptr 5 0 0 0)), (3, .one (.r false (int n))), (0, .one (.ptr 1000000000 0 0 0))] [(1000000000, .var 90 [.r m1 (row nb 1 (bys bs)), .r true (int (p + 1))]), (9, .var 28 [.r true (int xr), .r true (row false 1 (ints xv)), .own 102 0 xg.length 1, .r true (row false 3 (edges xm))]), (102, .sl 4 1 true (bools xg)), (8, .var 28 [.r true (int 0), Zs, Zs, Zs]), (6, .var 59 [.r false (int k), .r false (int s), .r false (int r)]), (5, .var 57 [.r false (int m), .r false (row nE 3 (edges es))])] := hFs (i + 1) _ hnx
              have KT' : FnS Try.prog 71 [.agg [.r false (int m), .r false (row nE 3 (edges es))], .agg [.r false (int k), .r false (int s), .r false (int r)], .agg [.r false (int xr), .r false (row false 1 (ints xv)), .r false (row false 1 (bools xg)), .r false (row false 3 (edges xm))]] [] (.tups [(true, [.r true (int 0), Zs, Zs, Zs]), (false, [.r true (bool false)])]) [] := KT
              rw [hF1] at hfin
              clear KT hst hFn hFs hF1 hnx
              repeat' (first|refine wk ?_|((first|refine' w_e rfl ?xa ?xb ?xc ?xe ?_|refine' v_e rfl ?xa ?xb ?xc ?xe ?_);(case xa => exact Ze 28 rfl (Zax (ys := [graphP m nE es, prgP k s r, stateP xr false xv false xg false xm]) [] KT' rfl rfl ⟨Zq (Za rfl) ⟨Zd, Zd, trivial⟩, Zq (Za rfl) ⟨Zd, Zd, Zd, trivial⟩, Zq (Za rfl) ⟨Zd, Zd, Zaf (Zj rfl) hgl.symm, Zd, trivial⟩, trivial⟩ rfl rfl));(case xb|xc|xe=>rfl);try refine wkD ?_)|(refine wkB ?_ ?_<;>intro hg_<;>try exact wkX)|fail)
              all_goals first
                | (exfalso; omega)
                | (refine hfin _ ?_ hlt
                   (refine Zi [] rfl ?_ ?_ <;> repeat' (first|refine wkS ?_ ?_|exact wkE|exact Zt (by rw [IntWalk.i64_in _ oM] <;> omega)));done)
            | some y =>
              rw [hst] at KT hnx
              obtain ⟨yr, yv, yg, ym⟩ := y
              have hF1 := hFs (i + 1) _ hnx
              have KT' : FnS Try.prog 71 [.agg [.r false (int m), .r false (row nE 3 (edges es))], .agg [.r false (int k), .r false (int s), .r false (int r)], .agg [.r false (int xr), .r false (row false 1 (ints xv)), .r false (row false 1 (bools xg)), .r false (row false 3 (edges xm))]] [] (.tups [(true, [.r true (int yr), .r true (row false 1 (ints yv)), .own 2000002 0 yg.length 1, .r true (row false 3 (edges ym))]), (false, [.r true (bool true)])]) [(2000002, .sl 4 1 true (bools yg))] := KT
              rw [hF1] at hfin
              clear KT hst hFn hFs hF1 hnx
              repeat' (first|refine wk ?_|((first|refine' w_e rfl ?xa ?xb ?xc ?xe ?_|refine' v_e rfl ?xa ?xb ?xc ?xe ?_);(case xa => exact Ze 28 rfl (Zax (ys := [graphP m nE es, prgP k s r, stateP xr false xv false xg false xm]) [(2000002, 502)] KT' rfl rfl ⟨Zq (Za rfl) ⟨Zd, Zd, trivial⟩, Zq (Za rfl) ⟨Zd, Zd, Zd, trivial⟩, Zq (Za rfl) ⟨Zd, Zd, Zaf (Zj rfl) hgl.symm, Zd, trivial⟩, trivial⟩ rfl rfl));(case xb|xc|xe=>rfl);try refine wkD ?_)|(refine wkB ?_ ?_<;>intro hg_<;>try exact wkX)|fail)
              all_goals first
                | (exfalso; omega)
                | (refine hfin _ ?_ hlt
                   (refine Zi [(102, 502)] rfl ?_ ?_ <;> repeat' (first|refine wkS ?_ ?_|exact wkE|exact Zt (by rw [IntWalk.i64_in _ oM] <;> omega)));done)
        · obtain rfl : i = C := by omega
          rw [hFn i hO]
          clear hFn hFs hfin
          have hD1 : curZ m es k s r i = (⟨0, [], [], []⟩, true) := by unfold curZ; rw [hO]; rfl
          rw [hD1]
          repeat' (first|refine wk ?_|(refine wkB ?_ ?_<;>intro hg_<;>try exact wkX)|fail)
          all_goals first
            | (exfalso; omega)
            | ((refine Zi [] rfl ?_ ?_ <;>exact wkW);done)
      clear K1 KS
      generalize curZ m es k s r C = D1 at *
      refine Zbp (mkS 82 [(9, .one (.ptr 9 0 0 0)), (8, .one (.ptr 8 0 0 0)), (3, .one (.r false (int n))), (0, .one (.ptr 1000000000 0 0 0))] [(1000000000, .var 90 [.r m1 (row nb 1 (bys bs)), .r true (int (p3))]), (9, .var 28 [.r true (int D2.1.r), .r true (row false 1 (ints D2.1.vs)), .r true (row true 1 []), .r true (row D2.2 3 (edges D2.1.ms))]), (8, .var 28 [.r true (int 0), Zs, Zs, Zs])]) ?_ ?_
      · clear KO K3 K4
        obtain ⟨⟨xr, xv, xg, xm⟩, xn⟩ := D1
        dsimp only at *
        have hvl := Zu xv
        have hml := Zp xm
        have hmsl := Zp ms
        rw [← hvl] at KM
        by_cases hq : q4 = 0
        · rw [if_pos hq] at hD2 hp3
          subst hD2
          subst hp3
          have happ : edges xm ++ edges ms = edges (xm ++ ms) := by unfold edges; rw [List.map_append]
          have KQ := Zc0 false (xm ++ ms) (by rw [List.length_append]; omega)
          have hsl := Zp (sortL (xm ++ ms))
          rw [← happ] at KQ
          generalize sortL (xm ++ ms) = S at *
          have h0 : ([] ++ edges xm ++ edges ms).length = (edges xm).length + (edges ms).length := by simp
          repeat' (first|refine wk ?_|((first|refine' w_e rfl ?xa ?xb ?xc ?xe ?_|refine' v_e rfl ?xa ?xb ?xc ?xe ?_);(case xa => first|exact Ze 34 rfl (Zg [] K2 rfl ⟨Zh (Za rfl), asE, trivial⟩ sbH rfl)|exact Ze 39 rfl (Zw tlOk rfl rfl rfl rfl rfl rfl (Z6 Za2 (Zbg _)) rfl (by simp only [maxLen, List.length_nil];omega) (by simp only [List.length_nil];omega))|exact Zl [] tlOk rfl rfl rfl rfl rfl rfl (by simp [AllN]) (by simp)|exact Ze 44 rfl (Zg [(2000001, 544)] KM rfl ⟨Zh (Za rfl), asE, trivial⟩ sbH rfl)|exact Ze 45 rfl (Zw tlOk rfl rfl rfl rfl rfl rfl (Z6 (Z0 (Zj rfl) hmsl.symm) (Zbg _)) (by simp) (by simp only [maxLen, List.length_append, List.length_nil];omega) (by simp only [List.length_append, List.length_nil];omega))|exact Ze 46 rfl (Zbe KQ rfl rfl ⟨Zcv (Za rfl) (Zj rfl) (by simp), trivial⟩));(case xb|xc|xe=>rfl);try refine wkD ?_)|(refine wkB ?_ ?_<;>intro hg_<;>try exact wkX)|fail)
          all_goals first
            | (exfalso; omega)
            | exact Zb0 (Za9 46 rfl) (by (refine Zi [] rfl ?_ ?_ <;> repeat' (first|refine wkS ?_ ?_|exact wkE|exact var4q rfl rfl rfl (Zbb rfl))))
        · rw [if_neg hq] at hD2 hp3
          subst hD2
          subst hp3
          repeat' (first|refine wk ?_|((first|refine' w_e rfl ?xa ?xb ?xc ?xe ?_|refine' v_e rfl ?xa ?xb ?xc ?xe ?_);(case xa => exact Ze 34 rfl (Zg [] K2 rfl ⟨Zh (Za rfl), asE, trivial⟩ sbH rfl));(case xb|xc|xe=>rfl);try refine wkD ?_)|(refine wkB ?_ ?_<;>intro hg_<;>try exact wkX)|fail)
          all_goals first
            | (exfalso; omega)
            | ((refine Zi [] rfl ?_ ?_ <;>exact wkW);done)
      clear K2 KM hD2 hp3
      refine Zbp (mkS 82 [(9, .one (.ptr 9 0 0 0)), (8, .one (.ptr 8 0 0 0)), (3, .one (.r false (int n))), (0, .one (.ptr 1000000000 0 0 0))] [(1000000000, .var 90 [.r m1 (row nb 1 (bys bs)), .r true (int (p5))]), (9, .var 28 [.r true (int (lastP c a2 D2).1.r), .r true (row false 1 (ints (lastP c a2 D2).1.vs)), .r true (row true 1 []), .r true (row (lastP c a2 D2).2 3 (edges (lastP c a2 D2).1.ms))]), (8, .var 28 [.r true (int 0), Zs, Zs, Zs])]) ?_ ?_
      · obtain ⟨⟨xr, xv, xg, xm⟩, xn⟩ := D2
        dsimp only at *
        have hvl := Zu xv
        have hml := Zp xm
        have hgl := Zah xg
        cases od
        · rw [if_neg (by decide)] at hcd hp5
          subst hcd
          subst hp5
          dsimp only [lastP]
          repeat' (first|refine wk ?_|((first|refine' w_e rfl ?xa ?xb ?xc ?xe ?_|refine' v_e rfl ?xa ?xb ?xc ?xe ?_);(case xa => exact Ze 50 rfl (Zg [] KO rfl ⟨Zh (Za rfl), asE, trivial⟩ sbH rfl));(case xb|xc|xe=>rfl);try refine wkD ?_)|(refine wkB ?_ ?_<;>intro hg_<;>try exact wkX)|fail)
          all_goals first
            | (exfalso; omega)
            | (exfalso; simp at hg_; done)
            | ((refine Zi [] rfl ?_ ?_ <;>exact wkW);done)
        · rw [if_pos rfl] at hcd hp5
          have h4c : a4 = 0 ∨ a4 = 1 ∨ a4 = 2 ∨ a4 = 3 := by omega
          rcases h4c with rfl | rfl | rfl | rfl
          all_goals
            first
              | rw [if_pos rfl] at hp5
              | rw [if_neg (by decide)] at hp5
            subst hcd
            subst hp5
            simp only [lp0, lp1, lp2, lp3]
            repeat' (first|refine wk ?_|((first|refine' w_q rfl rfl ?xa rfl ?_|refine' v_q rfl rfl ?xa rfl ?_|refine' Zn rfl rfl (Zb rfl) rfl ?xa rfl ?_|refine' Zo rfl rfl (Zb rfl) rfl ?xa rfl ?_);case xa => first|exact Zap tbOk rfl rfl rfl rfl oM (by show _ < ((2 : Nat) : Int);omega)|exact Zae (xs := [-1, 101]) tbOk rfl rfl rfl rfl (by simp only [List.length_cons, List.length_nil];omega))|((first|refine' w_e rfl ?xa ?xb ?xc ?xe ?_|refine' v_e rfl ?xa ?xb ?xc ?xe ?_);(case xa => first|exact Ze 50 rfl (Zg [] KO rfl ⟨Zh (Za rfl), asE, trivial⟩ sbH rfl)|exact Ze 52 rfl (Zg [] K3 rfl ⟨Zh (Za rfl), asE, trivial⟩ sbH rfl)|exact Ze 62 rfl (Zg [] K4 rfl ⟨Zh (Za rfl), asE, trivial⟩ sbH rfl)|exact Ze 60 rfl (Zl [.const (.int .i64 (-1)), .const (.int .i64 101)] tlOk rfl rfl rfl rfl rfl rfl (Za4 [-1, 101]) (by simp))|exact Ze 70 rfl (Zl [.const (.bool true)] tlOk rfl rfl rfl rfl rfl rfl (Zy rfl) (by simp))|exact Ze 71 rfl (Zw tlOk rfl rfl rfl rfl rfl rfl (Z6 (Z0 (Zj rfl) rfl) (by simp [plain1])) hgl.symm (by simp only [maxLen, List.length_cons, List.length_nil];omega) (by simp only [List.length_cons, List.length_nil];omega))|exact Ze 76 rfl (Zl [.tmp 75] tlOk rfl rfl rfl rfl rfl rfl (Zy rfl) (by simp))|exact Ze 79 rfl (Zw tlOk rfl rfl rfl rfl rfl rfl (Z6 Za2 (Zbg _)) rfl (by simp only [maxLen, List.length_cons, List.length_nil];omega) (by simp only [List.length_cons, List.length_nil];omega))|exact Ze 53 rfl (Zl [.const (.int .i64 (-2))] tlOk rfl rfl rfl rfl rfl rfl (Zy rfl) (by simp))|exact Ze 56 rfl (Zw tlOk rfl rfl rfl rfl rfl rfl (Z6 Za2 (Zbx _)) rfl (by simp only [maxLen, List.length_cons, List.length_nil];omega) (by simp only [List.length_cons, List.length_nil];omega)));(case xb|xc|xe=>rfl);try refine wkD ?_)|(refine wkB ?_ ?_<;>intro hg_<;>try exact wkX)|fail)
            all_goals first
              | (exfalso; omega)
              | (exfalso; simp at hg_; done)
              | ((refine Zi [] rfl ?_ ?_ <;> repeat' (first|refine wkS ?_ ?_|exact wkE|exact var4q (Zbm (by rw [Nat.zero_add];rfl)) rfl rfl rfl));done)
              | ((refine Zi [(102, 71)] rfl ?_ ?_ <;> repeat' (first|refine wkS ?_ ?_|exact wkE|exact var4q rfl rfl (cell_ownQ (by simp only [List.length_append, List.length_cons, List.length_nil] <;> omega)) rfl|exact Zz rfl (by unfold bools;rw [List.map_append] <;> rfl)));done)
              | exact Zb0 (Za9 79 rfl) (by (refine Zi [] rfl ?_ ?_ <;> repeat' (first|refine wkS ?_ ?_|exact wkE|exact var4q rfl rfl rfl (Zbb (by simp only [List.length_cons, List.length_append, List.length_nil] <;> omega)))))
              | exact Zb0 (Za9 56 rfl) (by (refine Zi [] rfl ?_ ?_ <;> repeat' (first|refine wkS ?_ ?_|exact wkE|exact var4q rfl (Zbb (by simp only [List.length_cons, List.length_append, List.length_nil] <;> omega)) rfl rfl)))
      clear KO K3 K4
      generalize lastP c a2 D2 = D3 at *
      repeat' (first|refine wk ?_|(refine wkB ?_ ?_<;>intro hg_<;>try exact wkX)|fail)
      all_goals first
        | exact Z4 [] rfl sbH (Za3 rfl rfl tyF0 rfl rfl rfl (Zac rfl))
theorem l20State_ex (bs : List Int) (p n : Int) (hn : 0 ≤ n) (hn2 : n ≤ 1000000) (hB : Byte bs) (hl : bs.length ≤ 2000) (hp0 : 0 ≤ p) (hp : p ≤ 700000) (nE : Bool) (m : Int) (es : List E3) (k s r : Int) (hm : m ≤ 17) (hel : es.length ≤ 41) :
  ∃ (st : Sta) (nm ng : Bool) (p' : Int),(st.vs.length ≤ 17 ∧ st.gs.length ≤ 17 ∧ st.ms.length ≤ 625 ∧ p ≤ p' ∧ p' ≤ p + 200) ∧ ∀ m1 nb,FnS Try.prog 41 [.one (.ptr 1000000000 0 0 0),.agg [.r false (int m),.r false (row nE 3 (edges es))],.agg [.r false (int k),.r false (int s),.r false (int r)],.one (.r false (int n))] (rdH 1000000000 m1 true nb bs p)
   (stateQ st.r st.vs ng st.gs nm st.ms) (rdH 1000000000 m1 true nb bs p'):=by
 by_cases h : 0 < m
 ·obtain ⟨st,nm,p',hf,K⟩:=l20StateP_ex bs p n hn hn2 hB hl hp0 hp nE m es k s r ⟨h,hm⟩ hel
  exact ⟨st,nm,false,p',hf,fun m1 nb=>plain_of_own (K m1 nb)⟩
 ·obtain ⟨st,nm,p',hf,ng,K⟩:=l20StateZ_ex bs p n hn hn2 hB hl hp0 hp nE m es k s r oM hel
  exact ⟨st,nm,ng,p',hf,K⟩
end Go.Proofs.Ytmkijbfiilpccaa.Abs
set_option linter.unusedSimpArgs false
set_option linter.unusedVariables false
namespace Go.Proofs.Ytmkijbfiilpccaa.Abs
open Go.RowKit
open R (val row ref)
def Rnd (bs : List Int) (L : List (List Int)) (p : Int) (L' : List (List Int)) (p' : Int) : Prop :=
 ∃ (nE : Bool) (m : Int) (es : List E3) (k s r p1 : Int) (st : Sta) (nm ng : Bool) (p2 : Int),
  (∀ m1 nb,FnS Try.prog 40 [.one (.ptr 1000000000 0 0 0),.one (.r false (int 0))] (rdH 1000000000 m1 true nb bs p) (.tups [(true,[.r true (int m),.r true (row nE 3 (edges es))]),(true,[.r true (int k),.r true (int s),.r true (int r)])]) (rdH 1000000000 m1 true nb bs p1)) ∧
  (∀ m1 nb,FnS Try.prog 41 [.one (.ptr 1000000000 0 0 0),.agg [.r false (int m),.r false (row nE 3 (edges es))],.agg [.r false (int k),.r false (int s),.r false (int r)],.one (.r false (int 0))] (rdH 1000000000 m1 true nb bs p1) (stateQ st.r st.vs ng st.gs nm st.ms) (rdH 1000000000 m1 true nb bs p2)) ∧
  (st.vs.length ≤ 17 ∧ st.gs.length ≤ 17 ∧ st.ms.length ≤ 625 ∧ 0 ≤ p2 ∧ p2 ≤ 100000) ∧ (if st.ok then ckB st else []).length ≤ 643 ∧
  L' = L ++ (if st.ok then ckB st else []) ++ (if pickV bs p2 3 = 0 then [[pickV bs (p2 + 1) 5]] else []) ∧ p' = if pickV bs p2 3 = 0 then p2 + 1 + 1 else p2 + 1
theorem rnd_ex (bs : List Int) (hB : Byte bs) (hl : bs.length ≤ 2000) (L : List (List Int)) (p : Int) (hp0 : 0 ≤ p) (hp : p ≤ 10000) :
  ∃ L' p',Rnd bs L p L' p' ∧ p ≤ p' ∧ p' ≤ p + 600 ∧ L'.length ≤ L.length + 644 ∧ ∀ b ∈ L',b ∈ L ∨ b.length ≤ 100:=by
 obtain ⟨nE,m,es,k,s,r,p1,⟨_,g2,g3,g4,g5⟩,KT0⟩:=l20Task_ex bs p 0 oM oM hB hl oM oM
 obtain ⟨st,nm,ng,p2,⟨s1,s2,s3,s4,s5⟩,KQ0⟩:=l20State_ex bs p1 0 oM oM hB hl oM oM nE m es k s r g2 g3
 have hlen : (if st.ok then ckB st else []).length ≤ 643:=by
  split
  ·rename_i h
   have h1:=Zb4 (Sta.okF h)
   have:=(Sta.okF h).many
   omega
  ·simp
 have hrec : ∀ b ∈ (if st.ok then ckB st else []),b.length ≤ 100:=by
  split
  ·exact fun b hb=>ckB_recl hb
  ·simp
 refine ⟨_,_,⟨nE,m,es,k,s,r,p1,st,nm,ng,p2,fun m1 nb=>KT0 m1 true nb,fun m1 nb=>KQ0 m1 nb,⟨s1,s2,s3,by omega,by omega⟩,hlen,rfl,rfl⟩,?_,?_,?_,?_⟩
 ·split<;>omega
 ·split<;>omega
 ·have e5 : (if pickV bs p2 3 = 0 then [[pickV bs (p2 + 1) 5]] else ([] : List (List Int))).length ≤ 1:=by split<;>simp
  rw [List.length_append,List.length_append]; omega
 ·intro b hb
  rw [List.append_assoc,List.mem_append,List.mem_append] at hb
  rcases hb with h | h | h
  ·exact .inl h
  ·exact .inr (hrec b h)
  ·split at h
   ·simp at h; subst h; exact .inr (by simp)
   ·simp at h
theorem rnds_ex (bs : List Int) (hB : Byte bs) (hl : bs.length ≤ 2000) (p : Int) (hp0 : 0 ≤ p) (hp : p ≤ 1000) : ∀ n : Nat,n ≤ 2 →
  ∃ (F : Nat → List (List Int)) (G : Nat → Int),F 0 = [] ∧ G 0 = p ∧ (∀ i,i < n → Rnd bs (F i) (G i) (F (i + 1)) (G (i + 1))) ∧ ∀ i,i ≤ n → p ≤ G i ∧ G i ≤ p + 600 * (i : Int) ∧ (F i).length ≤ 644 * i ∧ ∀ b ∈ F i,b.length ≤ 100
 | 0,_=>⟨fun _=>[],fun _=>p,rfl,rfl,fun i hi=>by omega,fun i hi=>by dsimp only; exact ⟨by omega,by omega,by simp,by simp⟩⟩
 | n + 1,hn=>by
  obtain ⟨F,G,h1,h2,h3,h4⟩:=rnds_ex bs hB hl p hp0 hp n oM
  obtain ⟨q1,q2,q3,q4⟩:=h4 n (Nat.le_refl _)
  obtain ⟨L',p',r1,r2,r3,r4,r5⟩:=rnd_ex bs hB hl (F n) (G n) oM oM
  refine ⟨fun i=>if i = n + 1 then L' else F i,fun i=>if i = n + 1 then p' else G i,by simp [h1],by simp [h2],fun i hi=>?_,fun i hi=>?_⟩
  ·by_cases e : i = n
   ·subst e
    simp only [if_true,show ¬ i = i + 1 by omega,if_false]
    exact r1
   ·simp only [show ¬ i = n + 1 by omega,show ¬ i + 1 = n + 1 by omega,if_false]
    exact h3 i oM
  ·by_cases e : i = n + 1
   ·subst e
    simp only [if_true]
    refine ⟨by omega,by omega,by omega,fun b hb=>?_⟩
    rcases r5 b hb with h | h
    ·exact q4 b h
    ·exact h
   ·simp only [if_neg e]
    exact h4 i oM
theorem frC_takeI {k sz n : Nat} {new : Bool} {els : List P0} (hn : n ≤ els.length) : frC k sz new els (.own k 0 n sz) = .r new (row false sz (els.take n)):=by
 have h1 : Nat.beq k k = true:=Nat.beq_refl k
 have h2 : Nat.beq sz sz = true:=Nat.beq_refl sz
 have h3 : Nat.ble (0 + n) els.length = true:=by simpa using hn
 show (bif Nat.beq k k then (bif (Nat.beq sz sz && Nat.ble (0 + n) els.length) then Cell.r new (row false sz ((els.drop 0).take n)) else .any) else _) = _
 rw [h1,h2,h3,List.drop_zero]
 rfl
theorem l20Ck_ex (bs : List Int) (p : Int) (hB : Byte bs) (hl : bs.length ≤ 2000) (hp0 : 0 ≤ p) (hp : p ≤ 100) :
    ∃ (L : List (List Int)) (p' : Int), (L.length ≤ 1291 ∧ ∀ b ∈ L, b.length ≤ 100) ∧ ∀ m1 nb, FnS Try.prog 55 [.one (.ptr 1000000000 0 0 0)] (rdH 1000000000 m1 true nb bs p) (.one (.r true (row false 1 (rowsI L)))) (rdH 1000000000 m1 true nb bs p') := by
  have KP0 : ∀ q : Int, 0 ≤ q → q ≤ 1000000 → ∀ n m1 nb, FnS Try.prog 67 [.one (.ptr 1000000000 0 0 0), .one (.r false (int n))] (rdH 1000000000 m1 true nb bs q) (.one (.r true (int (pickV bs q n)))) (rdH 1000000000 m1 true nb bs (q + 1)) := fun q h0 h1 n m1 nb => Zbd q n hB hl h0 h1 m1 true nb
  have hc := Zaz bs p 3
  have K10 := fun m1 nb => KP0 p hp0 oM 3 m1 nb
  have hcN : ((pickV bs p 3).toNat : Int) = pickV bs p 3 := Int.toNat_of_nonneg hc.1
  generalize hCC : (pickV bs p 3).toNat = C at *
  rw [← hcN] at K10
  have hC2 : C ≤ 2 := by omega
  clear hCC hcN hc
  obtain ⟨F, G, hF0, hG0, hR, hb⟩ := rnds_ex bs hB hl (p + 1) oM oM C hC2
  obtain ⟨b1, b2, b3, b4⟩ := hb C (Nat.le_refl _)
  have hbC : (F C).length ≤ 1288 := by omega
  have hG2 : G C ≤ p + 1201 := by omega
  -- what the end does
  obtain ⟨L', p', hcase⟩ : ∃ (L' : List (List Int)) (p' : Int), (((oddV bs (G C) 3 && decide (0 < (F C).length)) = false ∧ L' = F C ∧ p' = G C + 1) ∨ ((oddV bs (G C) 3 && decide (0 < (F C).length)) = true ∧ pickV bs (G C + 1) 3 = 0 ∧ L' = (F C).take (pickV bs (G C + 1 + 1) (if ((F C).length : Int) < 256 then ((F C).length : Int) else 256)).toNat ∧ p' = G C + 1 + 1 + 1) ∨
      ((oddV bs (G C) 3 && decide (0 < (F C).length)) = true ∧ pickV bs (G C + 1) 3 = 1 ∧ L' = (F C).set (pickV bs (G C + 1 + 1) (if ((F C).length : Int) < 256 then ((F C).length : Int) else 256)).toNat [pickV bs (G C + 1 + 1 + 1) 5, pickV bs (G C + 1 + 1 + 1 + 1) 9] ∧ p' = G C + 1 + 1 + 1 + 1 + 1) ∨
      ((oddV bs (G C) 3 && decide (0 < (F C).length)) = true ∧ pickV bs (G C + 1) 3 ≠ 0 ∧ pickV bs (G C + 1) 3 ≠ 1 ∧ L' = F C ++ [[1, 0, 1, 0], [2, 1, 2], [4]] ∧ p' = G C + 1 + 1)) := by
    cases h1 : (oddV bs (G C) 3 && decide (0 < (F C).length)) with
    | false => exact ⟨_, _, .inl ⟨rfl, rfl, rfl⟩⟩
    | true =>
      by_cases h2 : pickV bs (G C + 1) 3 = 0
      · exact ⟨_, _, .inr (.inl ⟨rfl, h2, rfl, rfl⟩)⟩
      · by_cases h3 : pickV bs (G C + 1) 3 = 1
        · exact ⟨_, _, .inr (.inr (.inl ⟨rfl, h3, rfl, rfl⟩))⟩
        · exact ⟨_, _, .inr (.inr (.inr ⟨rfl, h2, h3, rfl, rfl⟩))⟩
  refine ⟨L', p', ?_, ?_⟩
  · rcases hcase with ⟨_, rfl, _⟩ | ⟨_, _, rfl, _⟩ | ⟨_, _, rfl, _⟩ | ⟨_, _, _, rfl, _⟩
    · exact ⟨by omega, b4⟩
    · exact ⟨by rw [List.length_take]; omega, fun b hb => b4 b (List.mem_of_mem_take hb)⟩
    · refine ⟨by rw [List.length_set]; omega, fun b hb => ?_⟩
      rcases List.mem_or_eq_of_mem_set hb with h | rfl
      · exact b4 b h
      · simp
    · refine ⟨by simp; omega, fun b hb => ?_⟩
      rw [List.mem_append] at hb
      rcases hb with h | h
      · exact b4 b h
      · simp at h; rcases h with rfl | rfl | rfl <;> simp
  intro m1 nb
  have K1 := K10 m1 nb
  clear K10
  unfold rdH at *
  refine Zad (l := [.tmp 2]) Try.func55 kRf rfl Try.ntmps55 rfl rfl ?_; simp only [dEnv, Nat.reduceAdd]
  refine Zbk ?_
  repeat' (first|refine wkN ?_|(refine wkB ?_ ?_<;>intro hg_<;>try exact wkX)|fail)
  refine Zbk ?_
  repeat' (first|refine wkN ?_|((first|refine' w_e rfl ?xa ?xb ?xc ?xe ?_|refine' v_e rfl ?xa ?xb ?xc ?xe ?_);(case xa => exact Zl [] tlOk rfl rfl rfl rfl rfl rfl (by simp [AllN]) (by simp));(case xb|xc|xe=>rfl);try refine wkD ?_)|(refine wkB ?_ ?_<;>intro hg_<;>try exact wkX)|fail)
  refine Zbp (mkS 74 [(3, .one (.own 100 0 (F C).length 1)), (0, .one (.ptr 1000000000 0 0 0))] [(1000000000, .var 90 [.r m1 (row nb 1 (bys bs)), .r true (int (G C))]), (100, .sl 24 1 true (rowsI (F C)))]) ?_ ?_
  · clear hcase
    repeat' (first|refine wk ?_|((first|refine' w_e rfl ?xa ?xb ?xc ?xe ?_|refine' v_e rfl ?xa ?xb ?xc ?xe ?_);(case xa => exact Ze 9 rfl (Zg [] K1 rfl ⟨Zh (Za rfl), asE, trivial⟩ sbH rfl));(case xb|xc|xe=>rfl);try refine wkD ?_)|(refine wkB ?_ ?_<;>intro hg_<;>try exact wkX)|fail)
    obtain ⟨S, hS⟩ : ∃ S : Nat → St, ∀ i, S i = mkS 74 [(4, .one (.r true (int ((C : Int) - (i : Int))))), (3, .one (.own 100 0 (F i).length 1)), (0, .one (.ptr 1000000000 0 0 0))] [(1000000000, .var 90 [.r m1 (row nb 1 (bys bs)), .r true (int (G i))]), (100, .sl 24 1 true (rowsI (F i)))] := ⟨_, fun _ => rfl⟩
    refine Zaa (fun i : Nat => i ≤ C) S (fun i => C - i) 0 (Nat.zero_le _) (by rw [hS, hF0, hG0];(refine Zi [(100, 7)] rfl ?_ ?_ <;> repeat' (first|refine wkS ?_ ?_|exact wkE|exact Zt oM))) ?_
    intro i hi
    have hfin : ∀ s' : St, Weak s' (S (i + 1)) → i < C → ∃ x' : Nat, x' ≤ C ∧ Weak s' (S x') ∧ C - x' < C - i := fun s' h hlt => ⟨i + 1, by omega, h, by omega⟩
    by_cases hlt : i < C
    · have hRi := hR i hlt
      obtain ⟨c1, c2, c3, c4⟩ := hb i hi
      rw [hS] at hfin
      rw [hS]
      clear hS hR hb hF0 hG0 K1 b1 b2 b3 b4 hbC hG2
      generalize F (i + 1) = L1 at *
      generalize G (i + 1) = p9 at *
      generalize F i = L0 at *
      generalize G i = pi at *
      obtain ⟨nE, m, es, k, s, r, p1, st, nm, ng, p2, KT0, KQ0, ⟨s1, s2, s3, s4, s5⟩, hcl, hL1, hp9⟩ := hRi
      have KT := KT0 m1 nb
      have KQ := KQ0 m1 nb
      unfold rdH at KT KQ
      have KS := Zc1 st false ng nm oM oM oM
      have KA := KP0 p2 oM oM 3 m1 nb
      have KB := KP0 (p2 + 1) oM oM 5 m1 nb
      clear KT0 KQ0 KP0
      have hll := (Zan L0).symm
      have h3 : L0.length ≤ 1288 := by omega
      obtain ⟨sr, sv, sg, sm⟩ := st
      dsimp only at *
      generalize (if Sta.ok ⟨sr, sv, sg, sm⟩ then ckB ⟨sr, sv, sg, sm⟩ else []) = Cb at *
      have hcbl := Zan Cb
      generalize pickV bs (p2 + 1) 5 = v5 at *
      generalize pickV bs p2 3 = q3 at *
      by_cases hq : q3 = 0
      · rw [if_pos hq] at hL1 hp9
        subst hL1 hp9
        have e1 : rowsI (L0 ++ Cb ++ [[v5]]) = rowsI L0 ++ rowsI Cb ++ [rowP [v5]] := by unfold rowsI; rw [List.map_append, List.map_append]; rfl
        repeat' (first|refine wk ?_|((first|refine' w_q rfl rfl ?xa rfl ?_|refine' v_q rfl rfl ?xa rfl ?_|refine' Zn rfl rfl (Zb rfl) rfl ?xa rfl ?_|refine' Zo rfl rfl (Zb rfl) rfl ?xa rfl ?_);case xa => exact Zm KS rfl ⟨Zq (Za rfl) ⟨Zd, Zd, Zd, Zd, trivial⟩, trivial⟩)|((first|refine' w_e rfl ?xa ?xb ?xc ?xe ?_|refine' v_e rfl ?xa ?xb ?xc ?xe ?_);(case xa => first|exact Ze 16 rfl (Zg [] KT rfl ⟨Zh (Za rfl), asE, trivial⟩ sbH rfl)|exact Ze 23 rfl (Zg [] KQ rfl ⟨Zh (Za rfl), by rw [Za rfl];exact asD_agg2, by rw [Za rfl];exact asD_agg3, asE, trivial⟩ sbH rfl)|exact Ze 25 rfl (Zw tlOk rfl rfl rfl rfl rfl rfl Za2 hll (by simp only [maxLen];omega) oM)|exact Ze 27 rfl (Zg [] KA rfl ⟨Zh (Za rfl), asE, trivial⟩ sbH rfl)|exact Ze 31 rfl (Zg [] KB rfl ⟨Zh (Za rfl), asE, trivial⟩ sbH rfl)|exact Zl [.tmp 31] tlOk rfl rfl rfl rfl rfl rfl (Zy rfl) (by simp)|exact e_buildF 32 tlOk rfl rfl rfl rfl rfl rfl rfl rfl|exact Ze 34 rfl (Zw tlOk rfl rfl rfl rfl rfl rfl (Z0 (Zj rfl) rfl) (by rw [List.length_append]) (by simp only [maxLen, List.length_append, List.length_cons, List.length_nil];omega) (by simp only [List.length_append, List.length_cons, List.length_nil];omega)));(case xb|xc|xe=>rfl);try refine wkD ?_)|(refine wkB ?_ ?_<;>intro hg_<;>try exact wkX)|fail)
        all_goals first
          | (exfalso; omega)
          | (refine hfin _ ?_ hlt
             (refine Zi [(100, 34)] rfl ?_ ?_ <;> repeat' (first|refine wkS ?_ ?_|exact wkE|exact Zt (by rw [IntWalk.i64_in _ oM] <;> omega)|exact Zba (by simp only [List.length_append, List.length_cons, List.length_nil];omega)|exact Zz rfl e1.symm));done)
      · rw [if_neg hq] at hL1 hp9
        subst hL1 hp9
        have e1 : rowsI (L0 ++ Cb ++ []) = rowsI L0 ++ rowsI Cb := by rw [List.append_nil]; unfold rowsI; rw [List.map_append]
        repeat' (first|refine wk ?_|((first|refine' w_q rfl rfl ?xa rfl ?_|refine' v_q rfl rfl ?xa rfl ?_|refine' Zn rfl rfl (Zb rfl) rfl ?xa rfl ?_|refine' Zo rfl rfl (Zb rfl) rfl ?xa rfl ?_);case xa => exact Zm KS rfl ⟨Zq (Za rfl) ⟨Zd, Zd, Zd, Zd, trivial⟩, trivial⟩)|((first|refine' w_e rfl ?xa ?xb ?xc ?xe ?_|refine' v_e rfl ?xa ?xb ?xc ?xe ?_);(case xa => first|exact Ze 16 rfl (Zg [] KT rfl ⟨Zh (Za rfl), asE, trivial⟩ sbH rfl)|exact Ze 23 rfl (Zg [] KQ rfl ⟨Zh (Za rfl), by rw [Za rfl];exact asD_agg2, by rw [Za rfl];exact asD_agg3, asE, trivial⟩ sbH rfl)|exact Ze 25 rfl (Zw tlOk rfl rfl rfl rfl rfl rfl Za2 hll (by simp only [maxLen];omega) oM)|exact Ze 27 rfl (Zg [] KA rfl ⟨Zh (Za rfl), asE, trivial⟩ sbH rfl));(case xb|xc|xe=>rfl);try refine wkD ?_)|(refine wkB ?_ ?_<;>intro hg_<;>try exact wkX)|fail)
        all_goals first
          | (exfalso; omega)
          | (refine hfin _ ?_ hlt
             (refine Zi [(100, 25)] rfl ?_ ?_ <;> repeat' (first|refine wkS ?_ ?_|exact wkE|exact Zt (by rw [IntWalk.i64_in _ oM] <;> omega)|exact Zba (by simp only [List.length_append, List.length_nil];omega)|exact Zz rfl e1.symm));done)
    · obtain rfl : i = C := by omega
      rw [hS]
      clear hS hfin
      repeat' (first|refine wk ?_|(refine wkB ?_ ?_<;>intro hg_<;>try exact wkX)|fail)
      all_goals first
        | (exfalso; omega)
        | ((refine Zi [] rfl ?_ ?_ <;>exact wkW);done)
  clear K1 hR hb hF0 hG0
  have KO := f_odd (G C) 3 oM oM hB hl oM oM m1 true nb
  have KQ := KP0 (G C + 1) oM oM 3 m1 nb
  have KM := KP0 (G C + 1 + 1) oM oM (if ((F C).length : Int) < 256 then ((F C).length : Int) else 256) m1 nb
  have hM := Zaz bs (G C + 1 + 1) (if ((F C).length : Int) < 256 then ((F C).length : Int) else 256)
  have KA := KP0 (G C + 1 + 1 + 1) oM oM 5 m1 nb
  have KB := KP0 (G C + 1 + 1 + 1 + 1) oM oM 9 m1 nb
  clear KP0 b4 b3 b2 b1 hG2
  have hM2 : 0 ≤ pickV bs (G C + 1 + 1) (if ((F C).length : Int) < 256 then ((F C).length : Int) else 256) ∧ (pickV bs (G C + 1 + 1) (if ((F C).length : Int) < 256 then ((F C).length : Int) else 256) < ((F C).length : Int) ∨ pickV bs (G C + 1 + 1) (if ((F C).length : Int) < 256 then ((F C).length : Int) else 256) = 0) := by
    refine ⟨hM.1, ?_⟩
    rcases hM.2 with h | h
    · refine .inl ?_
      split at h <;> split <;> omega
    · exact .inr h
  clear hM
  generalize oddV bs (G C) 3 = od at *
  generalize pickV bs (G C + 1) 3 = q at *
  generalize pickV bs (G C + 1 + 1) (if ((F C).length : Int) < 256 then ((F C).length : Int) else 256) = v at *
  generalize pickV bs (G C + 1 + 1 + 1) 5 = va at *
  generalize pickV bs (G C + 1 + 1 + 1 + 1) 9 = vb at *
  generalize F C = L at *
  generalize G C = pc at *
  have hll := Zan L
  unfold rdH at *
  rcases hcase with ⟨h1, rfl, rfl⟩ | ⟨h1, h2, rfl, rfl⟩ | ⟨h1, h2, rfl, rfl⟩ | ⟨h1, h2, h3, rfl, rfl⟩
  · cases od
    · repeat' (first|refine wk ?_|((first|refine' w_e rfl ?xa ?xb ?xc ?xe ?_|refine' v_e rfl ?xa ?xb ?xc ?xe ?_);(case xa => exact Ze 36 rfl (Zg [] KO rfl ⟨Zh (Za rfl), asE, trivial⟩ sbH rfl));(case xb|xc|xe=>rfl);try refine wkD ?_)|(refine wkB ?_ ?_<;>intro hg_<;>try exact wkX)|fail)
      all_goals first
        | exact Zal (Zcf (Za9 100 rfl) (show Weak _ (mkS 74 [(2, .one (.r true (row false 1 (rowsI L'))))] [(1000000000, .var 90 [.r m1 (row nb 1 (bys bs)), .r true (int (pc + 1))])]) from by (refine Zi [] rfl ?_ ?_ <;> repeat' (first|refine wkS ?_ ?_|exact wkE|exact congrArg D.one (Zck hll.symm))))) (Z4 [] rfl sbH (Zce rfl (Zac rfl)))
    · have h0 : ¬ 0 < L'.length := by simpa using h1
      repeat' (first|refine wk ?_|((first|refine' w_e rfl ?xa ?xb ?xc ?xe ?_|refine' v_e rfl ?xa ?xb ?xc ?xe ?_);(case xa => exact Ze 36 rfl (Zg [] KO rfl ⟨Zh (Za rfl), asE, trivial⟩ sbH rfl));(case xb|xc|xe=>rfl);try refine wkD ?_)|(refine wkB ?_ ?_<;>intro hg_<;>try exact wkX)|fail)
      all_goals first
        | (exfalso; omega)
        | exact Zal (Zcf (Za9 100 rfl) (show Weak _ (mkS 74 [(2, .one (.r true (row false 1 (rowsI L'))))] [(1000000000, .var 90 [.r m1 (row nb 1 (bys bs)), .r true (int (pc + 1))])]) from by (refine Zi [] rfl ?_ ?_ <;> repeat' (first|refine wkS ?_ ?_|exact wkE|exact congrArg D.one (Zck hll.symm))))) (Z4 [] rfl sbH (Zce rfl (Zac rfl)))
  · rw [Bool.and_eq_true, decide_eq_true_eq] at h1
    obtain ⟨rfl, h0⟩ := h1
    subst h2
    have hv : v.toNat ≤ L.length := by omega
    have hvv : (v.toNat : Int) = v := by omega
    have e1 : (rowsI L).take v.toNat = rowsI (L.take v.toNat) := by unfold rowsI; rw [List.map_take]
    rw [← hvv] at KM
    repeat' (first|refine wk ?_|((first|refine' w_q rfl rfl ?xa rfl ?_|refine' v_q rfl rfl ?xa rfl ?_|refine' Zn rfl rfl (Zb rfl) rfl ?xa rfl ?_|refine' Zo rfl rfl (Zb rfl) rfl ?xa rfl ?_);case xa => exact k_sliceO (a := 0) (b := v.toNat) tbOk rfl rfl rfl rfl ⟨_, Za rfl⟩ oM oM)|((first|refine' w_e rfl ?xa ?xb ?xc ?xe ?_|refine' v_e rfl ?xa ?xb ?xc ?xe ?_);(case xa => first|exact Ze 36 rfl (Zg [] KO rfl ⟨Zh (Za rfl), asE, trivial⟩ sbH rfl)|exact Ze 43 rfl (Zg [] KQ rfl ⟨Zh (Za rfl), asE, trivial⟩ sbH rfl)|exact Ze 57 rfl (Zg [] KM rfl ⟨Zh (Za rfl), asE, trivial⟩ sbH rfl));(case xb|xc|xe=>rfl);try refine wkD ?_)|(refine wkB ?_ ?_<;>intro hg_<;>try exact wkX)|fail)
    all_goals first
      | (exfalso; omega)
      | exact Zal (Zcf (Za9 100 rfl) (show Weak _ (mkS 74 [(2, .one (.r true (row false 1 (rowsI (L.take v.toNat)))))] [(1000000000, .var 90 [.r m1 (row nb 1 (bys bs)), .r true (int (pc + 1 + 1 + 1))])]) from by (refine Zi [] rfl ?_ ?_ <;> repeat' (first|refine wkS ?_ ?_|exact wkE|exact congrArg D.one ((frC_takeI oM).trans (by rw [Nat.sub_zero, e1];rfl)))))) (Z4 [] rfl sbH (Zce rfl (Zac rfl)))
  · rw [Bool.and_eq_true, decide_eq_true_eq] at h1
    obtain ⟨rfl, h0⟩ := h1
    subst h2
    have hv : v.toNat < L.length := by omega
    have hvv : (v.toNat : Int) = v := by omega
    have e1 : (rowsI L).set v.toNat (rowP [va, vb]) = rowsI (L.set v.toNat [va, vb]) := by unfold rowsI; rw [List.map_set]
    have e2 : (rowsI L).set (0 + ((v.toNat : Nat) : Int).toNat) (P0.one (row false 1 (List.take [P0.one (int va), P0.one (int vb)].length (List.drop 0 [P0.one (int va), P0.one (int vb)])))) = rowsI (L.set v.toNat [va, vb]) := by rw [Nat.zero_add, Int.toNat_natCast]; exact e1
    rw [← hvv] at KM
    repeat' (first|refine wk ?_|((first|refine' w_q rfl rfl ?xa rfl ?_|refine' v_q rfl rfl ?xa rfl ?_|refine' Zn rfl rfl (Zb rfl) rfl ?xa rfl ?_|refine' Zo rfl rfl (Zb rfl) rfl ?xa rfl ?_);case xa => exact Zap tbOk rfl rfl rfl rfl oM oM)|((first|refine' w_e rfl ?xa ?xb ?xc ?xe ?_|refine' v_e rfl ?xa ?xb ?xc ?xe ?_);(case xa => first|exact Ze 36 rfl (Zg [] KO rfl ⟨Zh (Za rfl), asE, trivial⟩ sbH rfl)|exact Ze 43 rfl (Zg [] KQ rfl ⟨Zh (Za rfl), asE, trivial⟩ sbH rfl)|exact Ze 66 rfl (Zg [] KM rfl ⟨Zh (Za rfl), asE, trivial⟩ sbH rfl)|exact Ze 68 rfl (Zg [] KA rfl ⟨Zh (Za rfl), asE, trivial⟩ sbH rfl)|exact Ze 70 rfl (Zg [] KB rfl ⟨Zh (Za rfl), asE, trivial⟩ sbH rfl)|exact Zl [.tmp 68, .tmp 70] tlOk rfl rfl rfl rfl rfl rfl (Za4 [va, vb]) (by simp)|exact e_freeze 71 rfl (e_storeS tbOk rfl rfl rfl rfl rfl rfl rfl rfl (by rw [hll];omega)));(case xb|xc|xe=>rfl);try refine wkD ?_)|(refine wkB ?_ ?_<;>intro hg_<;>try exact wkX)|fail)
    all_goals first
      | (exfalso; omega)
      | exact Zal (Zcf (Za9 100 rfl) (show Weak _ (mkS 74 [(2, .one (.r true (row false 1 (rowsI (L.set v.toNat [va, vb])))))] [(1000000000, .var 90 [.r m1 (row nb 1 (bys bs)), .r true (int (pc + 1 + 1 + 1 + 1 + 1))])]) from by (refine Zi [] rfl ?_ ?_ <;> repeat' (first|refine wkS ?_ ?_|exact wkE|exact congrArg D.one ((Zck (by rw [List.length_set, hll])).trans (by rw [e2];rfl)))))) (Z4 [] rfl sbH (Zce rfl (Zac rfl)))
  · rw [Bool.and_eq_true, decide_eq_true_eq] at h1
    obtain ⟨rfl, h0⟩ := h1
    have e1 : rowsI L ++ [rowP [1, 0, 1, 0], rowP [2, 1, 2], rowP [4]] = rowsI (L ++ [[1, 0, 1, 0], [2, 1, 2], [4]]) := by unfold rowsI; rw [List.map_append]; rfl
    repeat' (first|refine wk ?_|((first|refine' w_e rfl ?xa ?xb ?xc ?xe ?_|refine' v_e rfl ?xa ?xb ?xc ?xe ?_);(case xa => first|exact Ze 36 rfl (Zg [] KO rfl ⟨Zh (Za rfl), asE, trivial⟩ sbH rfl)|exact Ze 43 rfl (Zg [] KQ rfl ⟨Zh (Za rfl), asE, trivial⟩ sbH rfl)|exact Zl [.const (.int .i64 1), .const (.int .i64 0), .const (.int .i64 1), .const (.int .i64 0)] tlOk rfl rfl rfl rfl rfl rfl (Za4 [1, 0, 1, 0]) (by simp)|exact Zl [.const (.int .i64 2), .const (.int .i64 1), .const (.int .i64 2)] tlOk rfl rfl rfl rfl rfl rfl (Za4 [2, 1, 2]) (by simp)|exact Zl [.const (.int .i64 4)] tlOk rfl rfl rfl rfl rfl rfl (Za4 [4]) (by simp)|exact e_freeze 45 rfl (e_freeze 46 rfl (e_freeze 47 rfl (Zl [.tmp 45, .tmp 46, .tmp 47] tlOk rfl rfl rfl rfl rfl rfl (allN_3 rfl rfl rfl) (by simp))))|exact Zw tlOk rfl rfl rfl rfl rfl rfl (Z0 (Zj rfl) rfl) hll.symm (by simp only [maxLen, List.length_append, List.length_cons, List.length_nil];omega) (by simp only [List.length_append, List.length_cons, List.length_nil];omega));(case xb|xc|xe=>rfl);try refine wkD ?_)|(refine wkB ?_ ?_<;>intro hg_<;>try exact wkX)|fail)
    all_goals first
      | (exfalso; omega)
      | exact Zal (Zcf (Za9 49 rfl) (show Weak _ (mkS 74 [(2, .one (.r true (row false 1 (rowsI (L ++ [[1, 0, 1, 0], [2, 1, 2], [4]])))))] [(1000000000, .var 90 [.r m1 (row nb 1 (bys bs)), .r true (int (pc + 1 + 1))])]) from by (refine Zi [] rfl ?_ ?_ <;> repeat' (first|refine wkS ?_ ?_|exact wkE|exact congrArg D.one ((Zck (by simp)).trans (by rw [← e1];rfl)))))) (Z4 [] rfl sbH (Zce rfl (Zac rfl)))
end Go.Proofs.Ytmkijbfiilpccaa.Abs
