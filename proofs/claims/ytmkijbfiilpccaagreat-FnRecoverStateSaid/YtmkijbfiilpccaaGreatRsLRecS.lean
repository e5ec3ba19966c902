/- RecoverState and LastCheckpoint of the program, their results as plain data. No statement of the seat is proved here. -/
import Derived.Lib.Hide
import Derived.Test.YtmkijbfiilpccaaGreatRsTy
import Derived.Test.YtmkijbfiilpccaaGreatRsAFresh
import Derived.Test.YtmkijbfiilpccaaGreatRsARecB
import Derived.Test.YtmkijbfiilpccaaGreatRsASame
import Derived.Test.YtmkijbfiilpccaaGreatRsADrW
set_option linter.unusedSimpArgs false
set_option linter.unusedVariables false
set_option maxRecDepth 100000
set_option maxHeartbeats 16000000
namespace Go.Proofs.YtmkijbfiilpccaaGreat.Abs
open Go.RowKit
open R (val row ref)
theorem imp_tups2 {cs cs' : List Cell} {x : Cell} (h : DImp (.agg cs) (.agg cs')) : DImp (.tups [(true, cs), (false, [x])]) (.tups [(true, cs'), (false, [x])]) := fun ι base c v ⟨vs, h1, h2, h3⟩ => ⟨vs, h1, h2, fun j y hy => by
  match j, hy with
  | 0, hy => obtain rfl : (true, cs') = y := by simpa using hy
             obtain ⟨u, hu, hp⟩ := h3 0 _ rfl
             exact ⟨u, hu, h ι base c u hp⟩
  | 1, hy => obtain rfl : (false, [x]) = y := by simpa using hy
             exact h3 1 _ rfl
  | j + 2, hy => simp at hy⟩
abbrev cellsV (rd : Int) (nv : Bool) (VS : List Int) (ng : Bool) (GS : List Bool) (nm : Bool) (MS : List E3) : List Cell:=[.r true (int rd),.r true (row nv 1 (ints VS)),.r true (row ng 1 (bools GS)),.r true (row nm 3 (edges MS))]
abbrev stateV (rd : Int) (nv : Bool) (VS : List Int) (ng : Bool) (GS : List Bool) (nm : Bool) (MS : List E3) : D:=.agg (cellsV rd nv VS ng GS nm MS)
abbrev stateT (rd : Int) (nv : Bool) (VS : List Int) (ng : Bool) (GS : List Bool) (nm : Bool) (MS : List E3) (b : Bool) : D:=.tups [(true,cellsV rd nv VS ng GS nm MS),(false,[.r true (bool b)])]
theorem frzVZZ {f : FuncId} {args : List D} {r : Int} (K : FnS Tryz.prog f args [] (.agg [.r true (int r),Zc,Zc,Zc]) []) : FnS Tryz.prog f args [] (stateV r true [] true [] true []) [] :=
 Zbh K (imp4 Zbg Zcb Zcb Zcb)
theorem frzVOZ {f : FuncId} {args : List D} {r : Int} {vs : List Int} {gs : List Bool} (K : FnS Tryz.prog f args [] (.agg [.r true (int r),.own 2000001 0 vs.length 1,.own 2000002 0 gs.length 1,Zc]) [(2000001,.sl 3 1 true (ints vs)),(2000002,.sl 4 1 true (bools gs))]) : FnS Tryz.prog f args [] (stateV r false vs false gs true []) []:=by
 have hv : vs.length = (ints vs).length:=(Zr vs).symm
 have hg : gs.length = (bools gs).length:=(Zag gs).symm
 have A0:=Zbu 2000001 K rfl
 have K0 : FnS Tryz.prog f args [] (.agg [.r true (int r),.r true (row false 1 (ints vs)),.own 2000002 0 gs.length 1,Zc]) [(2000002,.sl 4 1 true (bools gs))]:=by
  refine Zbh (d:=(.agg [.r true (int r),frC 2000001 1 true (ints vs) (.own 2000001 0 vs.length 1),.own 2000002 0 gs.length 1,Zc])) A0 ?_
  rw [Zba hv]
  exact Z9 rfl
 have A1:=Zbu 2000002 K0 rfl
 have K1 : FnS Tryz.prog f args [] (.agg [.r true (int r),.r true (row false 1 (ints vs)),.r true (row false 1 (bools gs)),Zc]) []:=by
  refine Zbh (d:=(.agg [.r true (int r),.r true (row false 1 (ints vs)),frC 2000002 1 true (bools gs) (.own 2000002 0 gs.length 1),Zc])) A1 ?_
  rw [Zba hg]
  exact Z9 rfl
 exact Zbh K1 (imp4 Zbg Zbg Zbg Zcb)
theorem frzVOO {f : FuncId} {args : List D} {r : Int} {vs : List Int} {gs : List Bool} {ms : List E3} (K : FnS Tryz.prog f args [] (.agg [.r true (int r),.own 2000001 0 vs.length 1,.own 2000002 0 gs.length 1,.own 2000003 0 ms.length 3]) [(2000001,.sl 3 1 true (ints vs)),(2000002,.sl 4 1 true (bools gs)),(2000003,.sl 87 3 true (edges ms))]) : FnS Tryz.prog f args [] (stateV r false vs false gs false ms) []:=by
 have hv : vs.length = (ints vs).length:=(Zr vs).symm
 have hg : gs.length = (bools gs).length:=(Zag gs).symm
 have hm : ms.length = (edges ms).length:=(Zq ms).symm
 have A0:=Zbu 2000001 K rfl
 have K0 : FnS Tryz.prog f args [] (.agg [.r true (int r),.r true (row false 1 (ints vs)),.own 2000002 0 gs.length 1,.own 2000003 0 ms.length 3]) [(2000002,.sl 4 1 true (bools gs)),(2000003,.sl 87 3 true (edges ms))]:=by
  refine Zbh (d:=(.agg [.r true (int r),frC 2000001 1 true (ints vs) (.own 2000001 0 vs.length 1),.own 2000002 0 gs.length 1,.own 2000003 0 ms.length 3])) A0 ?_
  rw [Zba hv]
  exact Z9 rfl
 have A1:=Zbu 2000002 K0 rfl
 have K1 : FnS Tryz.prog f args [] (.agg [.r true (int r),.r true (row false 1 (ints vs)),.r true (row false 1 (bools gs)),.own 2000003 0 ms.length 3]) [(2000003,.sl 87 3 true (edges ms))]:=by
  refine Zbh (d:=(.agg [.r true (int r),.r true (row false 1 (ints vs)),frC 2000002 1 true (bools gs) (.own 2000002 0 gs.length 1),.own 2000003 0 ms.length 3])) A1 ?_
  rw [Zba hg]
  exact Z9 rfl
 have A2:=Zbu 2000003 K1 rfl
 have K2 : FnS Tryz.prog f args [] (.agg [.r true (int r),.r true (row false 1 (ints vs)),.r true (row false 1 (bools gs)),.r true (row false 3 (edges ms))]) []:=by
  refine Zbh (d:=(.agg [.r true (int r),.r true (row false 1 (ints vs)),.r true (row false 1 (bools gs)),frC 2000003 3 true (edges ms) (.own 2000003 0 ms.length 3)])) A2 ?_
  rw [Zba hm]
  exact Z9 rfl
 exact Zbh K2 (imp4 Zbg Zbg Zbg Zbg)
theorem frzTZZ {f : FuncId} {args : List D} {r : Int} {bb : Bool} (K : FnS Tryz.prog f args [] (.tups [(true,[.r true (int r),Zc,Zc,Zc]),(false,[.r true (bool bb)])]) []) : FnS Tryz.prog f args [] (stateT r true [] true [] true [] bb) [] :=
 Zbh K (imp_tups2 (imp4 Zbg Zcb Zcb Zcb))
theorem frzTOZ {f : FuncId} {args : List D} {r : Int} {vs : List Int} {gs : List Bool} {bb : Bool} (K : FnS Tryz.prog f args [] (.tups [(true,[.r true (int r),.own 2000001 0 vs.length 1,.own 2000002 0 gs.length 1,Zc]),(false,[.r true (bool bb)])]) [(2000001,.sl 3 1 true (ints vs)),(2000002,.sl 4 1 true (bools gs))]) : FnS Tryz.prog f args [] (stateT r false vs false gs true [] bb) []:=by
 have hv : vs.length = (ints vs).length:=(Zr vs).symm
 have hg : gs.length = (bools gs).length:=(Zag gs).symm
 have A0:=Zbu 2000001 K rfl
 have K0 : FnS Tryz.prog f args [] (.tups [(true,[.r true (int r),.r true (row false 1 (ints vs)),.own 2000002 0 gs.length 1,Zc]),(false,[.r true (bool bb)])]) [(2000002,.sl 4 1 true (bools gs))]:=by
  refine Zbh (d:=(.tups [(true,[.r true (int r),frC 2000001 1 true (ints vs) (.own 2000001 0 vs.length 1),.own 2000002 0 gs.length 1,Zc]),(false,[.r true (bool bb)])])) A0 ?_
  rw [Zba hv]
  exact Z9 rfl
 have A1:=Zbu 2000002 K0 rfl
 have K1 : FnS Tryz.prog f args [] (.tups [(true,[.r true (int r),.r true (row false 1 (ints vs)),.r true (row false 1 (bools gs)),Zc]),(false,[.r true (bool bb)])]) []:=by
  refine Zbh (d:=(.tups [(true,[.r true (int r),.r true (row false 1 (ints vs)),frC 2000002 1 true (bools gs) (.own 2000002 0 gs.length 1),Zc]),(false,[.r true (bool bb)])])) A1 ?_
  rw [Zba hg]
  exact Z9 rfl
 exact Zbh K1 (imp_tups2 (imp4 Zbg Zbg Zbg Zcb))
theorem frzTOO {f : FuncId} {args : List D} {r : Int} {vs : List Int} {gs : List Bool} {ms : List E3} {bb : Bool} (K : FnS Tryz.prog f args [] (.tups [(true,[.r true (int r),.own 2000001 0 vs.length 1,.own 2000002 0 gs.length 1,.own 2000003 0 ms.length 3]),(false,[.r true (bool bb)])]) [(2000001,.sl 3 1 true (ints vs)),(2000002,.sl 4 1 true (bools gs)),(2000003,.sl 87 3 true (edges ms))]) : FnS Tryz.prog f args [] (stateT r false vs false gs false ms bb) []:=by
 have hv : vs.length = (ints vs).length:=(Zr vs).symm
 have hg : gs.length = (bools gs).length:=(Zag gs).symm
 have hm : ms.length = (edges ms).length:=(Zq ms).symm
 have A0:=Zbu 2000001 K rfl
 have K0 : FnS Tryz.prog f args [] (.tups [(true,[.r true (int r),.r true (row false 1 (ints vs)),.own 2000002 0 gs.length 1,.own 2000003 0 ms.length 3]),(false,[.r true (bool bb)])]) [(2000002,.sl 4 1 true (bools gs)),(2000003,.sl 87 3 true (edges ms))]:=by
  refine Zbh (d:=(.tups [(true,[.r true (int r),frC 2000001 1 true (ints vs) (.own 2000001 0 vs.length 1),.own 2000002 0 gs.length 1,.own 2000003 0 ms.length 3]),(false,[.r true (bool bb)])])) A0 ?_
  rw [Zba hv]
  exact Z9 rfl
 have A1:=Zbu 2000002 K0 rfl
 have K1 : FnS Tryz.prog f args [] (.tups [(true,[.r true (int r),.r true (row false 1 (ints vs)),.r true (row false 1 (bools gs)),.own 2000003 0 ms.length 3]),(false,[.r true (bool bb)])]) [(2000003,.sl 87 3 true (edges ms))]:=by
  refine Zbh (d:=(.tups [(true,[.r true (int r),.r true (row false 1 (ints vs)),frC 2000002 1 true (bools gs) (.own 2000002 0 gs.length 1),.own 2000003 0 ms.length 3]),(false,[.r true (bool bb)])])) A1 ?_
  rw [Zba hg]
  exact Z9 rfl
 have A2:=Zbu 2000003 K1 rfl
 have K2 : FnS Tryz.prog f args [] (.tups [(true,[.r true (int r),.r true (row false 1 (ints vs)),.r true (row false 1 (bools gs)),.r true (row false 3 (edges ms))]),(false,[.r true (bool bb)])]) []:=by
  refine Zbh (d:=(.tups [(true,[.r true (int r),.r true (row false 1 (ints vs)),.r true (row false 1 (bools gs)),frC 2000003 3 true (edges ms) (.own 2000003 0 ms.length 3)]),(false,[.r true (bool bb)])])) A2 ?_
  rw [Zba hm]
  exact Z9 rfl
 exact Zbh K2 (imp_tups2 (imp4 Zbg Zbg Zbg Zbg))
noncomputable def recT (M : Nat) (xs : List Int) : Sta:=(recS M xs).getD ⟨0,List.replicate M 0,List.replicate M true,[]⟩
theorem recI_plain (M : Nat) (nil n1 n2 : Bool) (es : List E3) (xs ys : List Int) (hM : M ≤ 16) (hg : gOk M es = true) (hd : diskOk xs ys = true) (hn1 : n1 = true → xs = []) :
  ∃ nv ng nm : Bool,FnS Tryz.prog 5 [.agg [.r false (int (M : Int)),.r false (row nil 3 (edges es))],.agg [.r false (row n1 1 (ints xs)),.r false (row n2 1 (ints ys))]] [] (stateV (recT M xs).r nv (recT M xs).vs ng (recT M xs).gs nm (recT M xs).ms) []:=by
 obtain ⟨hc,hL⟩:=recL_len hd
 have e1 : (List.replicate M (0 : Int)).length = M:=List.length_replicate
 have e2 : (List.replicate M true).length = M:=List.length_replicate
 have start : (FnS Tryz.prog 5 [.agg [.r false (int (M : Int)),.r false (row nil 3 (edges es))],.agg [.r false (row n1 1 (ints xs)),.r false (row n2 1 (ints ys))]] [] (.agg [.r true (int 0),.own 2000001 0 M 1,.own 2000002 0 M 1,Zc]) [(2000001,.sl 3 1 true (ints (List.replicate M 0))),(2000002,.sl 4 1 true (bools (List.replicate M true)))]) → FnS Tryz.prog 5 [.agg [.r false (int (M : Int)),.r false (row nil 3 (edges es))],.agg [.r false (row n1 1 (ints xs)),.r false (row n2 1 (ints ys))]] [] (stateV 0 false (List.replicate M 0) false (List.replicate M true) true []) []:=fun KI =>
  frzVOZ (by rw [e1,e2]; exact KI)
 cases hk : lastCk (recL xs) with
 | none =>
  have hT : recT M xs = ⟨0,List.replicate M 0,List.replicate M true,[]⟩:=by unfold recT recS; rw [hk]; rfl
  rw [hT]
  exact ⟨false,false,true,start (f_implRecover0 M nil n1 n2 es xs ys hM hg hd hn1 hc hk)⟩
 | some s =>
  have hF:=Sta.okF (lastCk_ok hk)
  obtain ⟨r,vs,gs,ms⟩:=s
  have hT : recT M xs = if stOk M r vs gs.length ms then ⟨r,vs,gs,ms⟩ else ⟨0,List.replicate M 0,List.replicate M true,[]⟩:=by unfold recT recS; rw [hk]; dsimp only; split<;>rfl
  have b1 : vs.length ≤ 16:=hF.many
  have b2 : gs.length = vs.length:=hF.gl
  have b3 : ms.length ≤ 2000:=hF.ml
  have bm : ∀ m ∈ ms,0 ≤ m.1 ∧ m.1 < (vs.length : Int):=fun m hm=>⟨(hF.min m hm).1,(hF.min m hm).2.1⟩
  by_cases hv : vs = []
  ·subst hv
   have hgs : gs = []:=List.eq_nil_of_length_eq_zero (by simpa using b2)
   subst hgs
   have hms : ms = []:=by
    cases ms with
    | nil=>rfl
    | cons x t=>have:=bm x (by simp); simp at this; omega
   subst hms
   cases hst : stOk M r [] ([] : List Bool).length [] with
   | false =>
    rw [hst,if_neg (by simp)] at hT
    rw [hT]
    exact ⟨false,false,true,start (f_implRecoverNZZ M nil n1 n2 es xs ys hM hg hd hn1 hc r hk hst)⟩
   | true =>
    rw [hst,if_pos rfl] at hT
    rw [hT]
    exact ⟨true,true,true,frzVZZ (f_implRecoverYZZ M nil n1 n2 es xs ys hM hg hd hn1 hc r hk hst)⟩
  ·by_cases hm0 : ms = []
   ·subst hm0
    cases hst : stOk M r vs gs.length [] with
    | false =>
     rw [hst,if_neg (by simp)] at hT
     rw [hT]
     exact ⟨false,false,true,start (f_implRecoverNOZ M nil n1 n2 es xs ys hM hg hd hn1 hc r vs gs hv b2 b1 hk hst)⟩
    | true =>
     rw [hst,if_pos rfl] at hT
     rw [hT]
     exact ⟨false,false,true,frzVOZ (f_implRecoverYOZ M nil n1 n2 es xs ys hM hg hd hn1 hc r vs gs hv b2 b1 hk hst)⟩
   ·cases hst : stOk M r vs gs.length ms with
    | false =>
     rw [hst,if_neg (by simp)] at hT
     rw [hT]
     exact ⟨false,false,true,start (f_implRecoverNOO M nil n1 n2 es xs ys hM hg hd hn1 hc r vs gs hv b2 ms hm0 b1 b3 hk hst)⟩
    | true =>
     rw [hst,if_pos rfl] at hT
     rw [hT]
     exact ⟨false,false,false,frzVOO (f_implRecoverYOO M nil n1 n2 es xs ys hM hg hd hn1 hc r vs gs hv b2 ms hm0 b1 b3 hk hst)⟩
theorem recSp_plain (M : Nat) (nil n1 n2 : Bool) (es : List E3) (xs ys : List Int) (hM : M ≤ 16) (hg : gOk M es = true) (hd : diskOk xs ys = true) :
  ∃ nv ng nm : Bool,Fn Tryz.prog 7 [graphP M nil es,diskP n1 xs n2 ys] (.v (stateP (recT M xs).r nv (recT M xs).vs ng (recT M xs).gs nm (recT M xs).ms)):=by
 obtain ⟨hc,hL⟩:=recL_len hd
 have K:=f_specRecover M nil n1 n2 es xs ys hM hg hd hc hL
 unfold recT
 cases hs : recS M xs with
 | none=>rw [hs] at K; exact ⟨_,_,_,K⟩
 | some s=>rw [hs] at K; exact ⟨_,_,_,K⟩
noncomputable def lastT (L : List (List Int)) : Sta:=(lastCk L).getD ⟨0,[],[],[]⟩
theorem lastI_plain (nil : Bool) (L : List (List Int)) (hl : L.length ≤ 1048576) :
  ∃ nv ng nm : Bool,FnS Tryz.prog 11 [.one (.r false (row nil 1 (rowsI L)))] [] (stateT (lastT L).r nv (lastT L).vs ng (lastT L).gs nm (lastT L).ms (lastCk L).isSome) []:=by
 have K:=Zcw nil L hl
 unfold lastT
 cases hk : lastCk L with
 | none =>
  rw [hk] at K
  exact ⟨true,true,true,frzTZZ K⟩
 | some s =>
  have hF:=Sta.okF (lastCk_ok hk)
  rw [hk] at K
  obtain ⟨r,vs,gs,ms⟩:=s
  have b2 : gs.length = vs.length:=hF.gl
  have bm : ∀ m ∈ ms,0 ≤ m.1 ∧ m.1 < (vs.length : Int):=fun m hm=>⟨(hF.min m hm).1,(hF.min m hm).2.1⟩
  cases vs with
  | nil =>
   have hgs : gs = []:=List.eq_nil_of_length_eq_zero (by simpa using b2)
   subst hgs
   cases ms with
   | nil=>exact ⟨true,true,true,frzTZZ K⟩
   | cons x t=>exact absurd (bm x (by simp)) (by simp)
  | cons v vt =>
   cases ms with
   | nil=>exact ⟨false,false,true,frzTOZ K⟩
   | cons x t=>exact ⟨false,false,false,frzTOO K⟩
end Go.Proofs.YtmkijbfiilpccaaGreat.Abs
set_option linter.unusedSimpArgs false
set_option linter.unusedVariables false
namespace Go.Proofs.YtmkijbfiilpccaaGreat.Abs
open Go.RowKit
open R (val row ref)
theorem f_drawRecS (nb : Bool) (code : List Int) (hB : Byte code) (hl : code.length ≤ 1048576) :
  ∃ (nE n1 n2 : Bool) (m : Int) (es : List E3) (xs ys : List Int),(m ≤ 17 ∧ es.length ≤ 41 ∧ xs.length ≤ 2501 ∧ ys.length ≤ 2501 ∧ (n1 = true → xs = [])) ∧ Fn Tryz.prog 4 [.one (row nb 1 (bys code))] (.tup [graphP m nE es,diskP n1 xs n2 ys]):=by
 have K0:=f_open nb code hl
 have hB2:=byte_take2 hB 2000
 have hl2 : (code.take 2000).length ≤ 2000:=by rw [List.length_take]; omega
 generalize code.take 2000 = bs at *
 obtain ⟨nE,m,es,k,s,r,p1,⟨_,g2,g3,g4,g5⟩,KT0⟩:=l20Task_ex bs 0 12 oM oM hB2 hl2 oM oM
 have KT:=KT0 false true nb
 obtain ⟨st,nm,ng,p2,⟨s1,s2,s3,s4,s5⟩,KQ0⟩:=l20State_ex bs p1 9 oM oM hB2 hl2 oM oM nE m es k s r g2 g3
 have KQ:=KQ0 false nb
 clear KT0 KQ0
 have KF:=f_freshDisk st false ng nm oM oM oM
 obtain ⟨X,hX⟩ : ∃ X,(if frOk st = true then frY st else []) = X:=⟨_,rfl⟩
 have hd : diskOk [] X = true:=by rw [← hX]; split; exact frY_ok st; rfl
 have hn : (!frOk st) = true → X = []:=fun h=>by rw [← hX,if_neg]; simpa using h
 rw [hX] at KF
 generalize (!frOk st) = nX at *
 generalize frOk st = okX at *
 obtain ⟨r0,vs,gs,ms⟩:=st
 dsimp only at KF KQ s1 s2 s3
 have hXl : X.length ≤ 2000:=(Zbq hd).2.2.1
 have K1:=f_odd p2 3 oM oM hB2 hl2 oM oM false true nb
 have K2:=Za9 (p2 + 1) 256 hB2 hl2 oM oM false true nb
 have hv:=Zav bs (p2 + 1) 256
 generalize pickV bs (p2 + 1) 256 = v at *
 obtain ⟨b,hb⟩ : ∃ b : Nat,(if (X.length : Int) < v then (X.length : Int) else v) = (b : Int):=by
  split
  ·exact ⟨_,rfl⟩
  ·exact ⟨v.toNat,by omega⟩
 have K3:=f_specCrash true nX [] X v b oM hb hd
 rw [List.nil_append] at K3
 have hXb : (X.take b).length ≤ 2000:=by rw [List.length_take]; omega
 generalize X.take b = Xb at *
 generalize oddV bs p2 3 = od3 at *
 clear hb hX hB
 cases od3 with
 | true =>
  have K4:=f_odd (p2 + 1 + 1) 9 oM oM hB2 hl2 oM oM false true nb
  have K5:=f_l20Disk (bs:=bs) (p2 + 1 + 1 + 1) 3 oM oM hB2 hl2 oM oM false true nb
  have hD:=drD_bd bs (p2 + 1 + 1 + 1) 3
  generalize drD bs (p2 + 1 + 1 + 1) 3 = DR at *
  obtain ⟨xs,ys,q⟩:=DR
  dsimp only at K5 hD
  generalize oddV bs (p2 + 1 + 1) 9 = od9 at *
  have hlx:=(Zr xs).symm
  have hly:=(Zr ys).symm
  unfold rdH at *
  cases od9
  ·refine ⟨nE,false,true,m,es,Xb,[],⟨g2,g3,by omega,by simp,by simp⟩,?_⟩
   refine Zy (l:=[.cell 2 25,.cell 3 28]) Tryz.func4 kRf rfl Tryz.ntmps4 rfl rfl ?_; simp only [argEnv,P0.d,Nat.reduceAdd,diskP,graphP,stateP,List.map_cons,List.map_nil]
   repeat' (first|refine wk ?_|((first|refine' w_q rfl rfl ?xa rfl ?_|refine' v_q rfl rfl ?xa rfl ?_|refine' Zm rfl rfl (Zd rfl) rfl ?xa rfl ?_|refine' Zo rfl rfl (Zd rfl) rfl ?xa rfl ?_);case xa=>first|exact Zg KF rfl ⟨Zj (Za rfl) ⟨Zb,Zb,Zb,Zb,trivial⟩,trivial⟩|exact Zg K3 rfl ⟨Zj (Za rfl) ⟨Zar,Zb,trivial⟩,Zf (Za rfl),trivial⟩)|((first|refine' w_e rfl ?xa ?xb ?xc ?xe ?_|refine' v_e rfl ?xa ?xb ?xc ?xe ?_);(case xa=>first|exact Zh [(2000001,600)] K0 rfl ⟨asE,trivial⟩ trivial rfl|exact Ze 13 rfl (Zh [(1000000000,600)] KT rfl ⟨Zi (Za rfl),asE,trivial⟩ sbH rfl)|exact Ze 20 rfl (Zh [(1000000000,600)] KQ rfl ⟨Zi (Za rfl),by rw [Za rfl];exact asD_agg2,by rw [Za rfl];exact asD_agg3,asE,trivial⟩ sbH rfl)|exact Ze 25 rfl (Zh [(1000000000,600)] K1 rfl ⟨Zi (Za rfl),asE,trivial⟩ sbH rfl)|exact Ze 30 rfl (Zh [(1000000000,600)] K2 rfl ⟨Zi (Za rfl),asE,trivial⟩ sbH rfl)|exact Ze 33 rfl (Zh [(1000000000,600)] K4 rfl ⟨Zi (Za rfl),asE,trivial⟩ sbH rfl));(case xb|xc|xe=>rfl);try refine wkD ?_)|(refine wkB ?_ ?_<;>intro hg_<;>try exact wkX)|fail)
   all_goals first
    | (exfalso; omega)
    | exact Zbe (Zam rfl rfl tyF0 rfl rfl rfl (Zal (by exact ⟨Zae,Zae,trivial⟩))) (Zam rfl rfl tyF0 rfl rfl rfl (Zal (by exact ⟨Zae,Zae,trivial⟩)))
  ·refine ⟨nE,false,false,m,es,xs,ys,⟨g2,g3,by omega,by omega,by simp⟩,?_⟩
   refine Zy (l:=[.cell 2 25,.cell 3 28]) Tryz.func4 kRf rfl Tryz.ntmps4 rfl rfl ?_; simp only [argEnv,P0.d,Nat.reduceAdd,diskP,graphP,stateP,List.map_cons,List.map_nil]
   repeat' (first|refine wk ?_|((first|refine' w_q rfl rfl ?xa rfl ?_|refine' v_q rfl rfl ?xa rfl ?_|refine' Zm rfl rfl (Zd rfl) rfl ?xa rfl ?_|refine' Zo rfl rfl (Zd rfl) rfl ?xa rfl ?_);case xa=>first|exact Zg KF rfl ⟨Zj (Za rfl) ⟨Zb,Zb,Zb,Zb,trivial⟩,trivial⟩|exact Zg K3 rfl ⟨Zj (Za rfl) ⟨Zar,Zb,trivial⟩,Zf (Za rfl),trivial⟩)|((first|refine' w_e rfl ?xa ?xb ?xc ?xe ?_|refine' v_e rfl ?xa ?xb ?xc ?xe ?_);(case xa=>first|exact Zh [(2000001,600)] K0 rfl ⟨asE,trivial⟩ trivial rfl|exact Ze 13 rfl (Zh [(1000000000,600)] KT rfl ⟨Zi (Za rfl),asE,trivial⟩ sbH rfl)|exact Ze 20 rfl (Zh [(1000000000,600)] KQ rfl ⟨Zi (Za rfl),by rw [Za rfl];exact asD_agg2,by rw [Za rfl];exact asD_agg3,asE,trivial⟩ sbH rfl)|exact Ze 25 rfl (Zh [(1000000000,600)] K1 rfl ⟨Zi (Za rfl),asE,trivial⟩ sbH rfl)|exact Ze 30 rfl (Zh [(1000000000,600)] K2 rfl ⟨Zi (Za rfl),asE,trivial⟩ sbH rfl)|exact Ze 33 rfl (Zh [(1000000000,600)] K4 rfl ⟨Zi (Za rfl),asE,trivial⟩ sbH rfl)|exact Ze 35 rfl (Zh [(1000000000,600),(2000001,501),(2000002,502)] K5 rfl ⟨Zi (Za rfl),asE,trivial⟩ sbH rfl));(case xb|xc|xe=>rfl);try refine wkD ?_)|(refine wkB ?_ ?_<;>intro hg_<;>try exact wkX)|fail)
   all_goals first
    | (exfalso; omega)
    | exact Zbe (Zam rfl rfl tyF0 rfl rfl rfl (Zal (by exact ⟨Zae,Zae,trivial⟩))) (Zam rfl rfl tyF0 rfl rfl rfl (Zal (by exact ⟨Z0 (Zk rfl) hlx,Z0 (Zk rfl) hly,trivial⟩)))
 | false =>
  have K4:=f_odd (p2 + 1) 9 oM oM hB2 hl2 oM oM false true nb
  have K5:=f_l20Disk (bs:=bs) (p2 + 1 + 1) 3 oM oM hB2 hl2 oM oM false true nb
  have hD:=drD_bd bs (p2 + 1 + 1) 3
  generalize drD bs (p2 + 1 + 1) 3 = DR at *
  obtain ⟨xs,ys,q⟩:=DR
  dsimp only at K5 hD
  generalize oddV bs (p2 + 1) 9 = od9 at *
  have hlx:=(Zr xs).symm
  have hly:=(Zr ys).symm
  unfold rdH at *
  cases od9
  ·refine ⟨nE,nX,true,m,es,X,[],⟨g2,g3,by omega,by simp,hn⟩,?_⟩
   refine Zy (l:=[.cell 2 25,.cell 3 28]) Tryz.func4 kRf rfl Tryz.ntmps4 rfl rfl ?_; simp only [argEnv,P0.d,Nat.reduceAdd,diskP,graphP,stateP,List.map_cons,List.map_nil]
   repeat' (first|refine wk ?_|((first|refine' w_q rfl rfl ?xa rfl ?_|refine' v_q rfl rfl ?xa rfl ?_|refine' Zm rfl rfl (Zd rfl) rfl ?xa rfl ?_|refine' Zo rfl rfl (Zd rfl) rfl ?xa rfl ?_);case xa=>exact Zg KF rfl ⟨Zj (Za rfl) ⟨Zb,Zb,Zb,Zb,trivial⟩,trivial⟩)|((first|refine' w_e rfl ?xa ?xb ?xc ?xe ?_|refine' v_e rfl ?xa ?xb ?xc ?xe ?_);(case xa=>first|exact Zh [(2000001,600)] K0 rfl ⟨asE,trivial⟩ trivial rfl|exact Ze 13 rfl (Zh [(1000000000,600)] KT rfl ⟨Zi (Za rfl),asE,trivial⟩ sbH rfl)|exact Ze 20 rfl (Zh [(1000000000,600)] KQ rfl ⟨Zi (Za rfl),by rw [Za rfl];exact asD_agg2,by rw [Za rfl];exact asD_agg3,asE,trivial⟩ sbH rfl)|exact Ze 25 rfl (Zh [(1000000000,600)] K1 rfl ⟨Zi (Za rfl),asE,trivial⟩ sbH rfl)|exact Ze 33 rfl (Zh [(1000000000,600)] K4 rfl ⟨Zi (Za rfl),asE,trivial⟩ sbH rfl));(case xb|xc|xe=>rfl);try refine wkD ?_)|(refine wkB ?_ ?_<;>intro hg_<;>try exact wkX)|fail)
   all_goals first
    | (exfalso; omega)
    | exact Zbe (Zam rfl rfl tyF0 rfl rfl rfl (Zal (by exact ⟨Zae,Zae,trivial⟩))) (Zam rfl rfl tyF0 rfl rfl rfl (Zal (by exact ⟨Zae,Zae,trivial⟩)))
  ·refine ⟨nE,false,false,m,es,xs,ys,⟨g2,g3,by omega,by omega,by simp⟩,?_⟩
   refine Zy (l:=[.cell 2 25,.cell 3 28]) Tryz.func4 kRf rfl Tryz.ntmps4 rfl rfl ?_; simp only [argEnv,P0.d,Nat.reduceAdd,diskP,graphP,stateP,List.map_cons,List.map_nil]
   repeat' (first|refine wk ?_|((first|refine' w_q rfl rfl ?xa rfl ?_|refine' v_q rfl rfl ?xa rfl ?_|refine' Zm rfl rfl (Zd rfl) rfl ?xa rfl ?_|refine' Zo rfl rfl (Zd rfl) rfl ?xa rfl ?_);case xa=>exact Zg KF rfl ⟨Zj (Za rfl) ⟨Zb,Zb,Zb,Zb,trivial⟩,trivial⟩)|((first|refine' w_e rfl ?xa ?xb ?xc ?xe ?_|refine' v_e rfl ?xa ?xb ?xc ?xe ?_);(case xa=>first|exact Zh [(2000001,600)] K0 rfl ⟨asE,trivial⟩ trivial rfl|exact Ze 13 rfl (Zh [(1000000000,600)] KT rfl ⟨Zi (Za rfl),asE,trivial⟩ sbH rfl)|exact Ze 20 rfl (Zh [(1000000000,600)] KQ rfl ⟨Zi (Za rfl),by rw [Za rfl];exact asD_agg2,by rw [Za rfl];exact asD_agg3,asE,trivial⟩ sbH rfl)|exact Ze 25 rfl (Zh [(1000000000,600)] K1 rfl ⟨Zi (Za rfl),asE,trivial⟩ sbH rfl)|exact Ze 33 rfl (Zh [(1000000000,600)] K4 rfl ⟨Zi (Za rfl),asE,trivial⟩ sbH rfl)|exact Ze 35 rfl (Zh [(1000000000,600),(2000001,501),(2000002,502)] K5 rfl ⟨Zi (Za rfl),asE,trivial⟩ sbH rfl));(case xb|xc|xe=>rfl);try refine wkD ?_)|(refine wkB ?_ ?_<;>intro hg_<;>try exact wkX)|fail)
   all_goals first
    | (exfalso; omega)
    | exact Zbe (Zam rfl rfl tyF0 rfl rfl rfl (Zal (by exact ⟨Zae,Zae,trivial⟩))) (Zam rfl rfl tyF0 rfl rfl rfl (Zal (by exact ⟨Z0 (Zk rfl) hlx,Z0 (Zk rfl) hly,trivial⟩)))
theorem recS_yes (nb : Bool) (code : List Int) (hl : code.length ≤ 1048576) (M : Nat) (nE n1 n2 : Bool) (es : List E3) (xs ys : List Int) (hel : es.length ≤ 41) (hM : M ≤ 16)
  (KD : Fn Tryz.prog 4 [.one (row nb 1 (bys code))] (.tup [graphP M nE es,diskP n1 xs n2 ys]))
  (x l : Sta) (nv ng nm mv mg mm lv lg lm nr n3 n4 : Bool) (xs' : List Int) (RL : List (List Int)) (h1 : x.vs.length ≤ 1048576) (h2 : x.gs.length ≤ 1048576) (h3 : x.ms.length ≤ 1048576) (h4 : l.vs.length ≤ 1048576)
  (KI : FnS Tryz.prog 5 [.agg [.r false (int (M : Int)),.r false (row nE 3 (edges es))],.agg [.r false (row n1 1 (ints xs)),.r false (row n2 1 (ints ys))]] [] (stateV x.r nv x.vs ng x.gs nm x.ms) [])
  (KS : Fn Tryz.prog 7 [graphP M nE es,diskP n1 xs n2 ys] (.v (stateP x.r mv x.vs mg x.gs mm x.ms)))
  (KG : Fn Tryz.prog 8 [graphP M nE es] (.v (.one (bool true)))) (KV : Fn Tryz.prog 9 [diskP n1 xs n2 ys] (.v (.one (bool true))))
  (KR : Fn Tryz.prog 13 [diskP n1 xs n2 ys] (.v (diskP n3 xs' n4 [])))
  (KRc : Fn Tryz.prog 12 [diskP n3 xs' n4 []] (.v (.one (row nr 1 (rowsI RL)))))
  (KSV : Fn Tryz.prog 14 [stateP x.r nv x.vs ng x.gs nm x.ms,iP (M : Int)] (.v (.one (bool true))))
  (KSt : Fn Tryz.prog 15 [iP (M : Int)] (.v (stateP 0 false (List.replicate M 0) false (List.replicate M true) true [])))
  (KL : FnS Tryz.prog 11 [.one (.r false (row nr 1 (rowsI RL)))] [] (stateT l.r lv l.vs lg l.gs lm l.ms true) [])
  (hx : x = l) :
  Fn Tryz.prog 3 [.one (row nb 1 (bys code))] (.v (.one (bool true))):=by
 have hcl:=bys_len code
 have KQ:=Zc2 x.r nv ng nm mv mg mm x.vs x.gs x.ms h1 h2 h3
 have KQL:=Zc2 x.r nv ng nm lv lg lm x.vs x.gs x.ms h1 h2 h3
 have KQS:=KQ
 subst hx
 obtain ⟨r,vs,gs,ms⟩:=x
 dsimp only at *
 refine Zy (l:=[.tmp 2]) Tryz.func3 kRf rfl Tryz.ntmps3 rfl rfl ?_; simp only [argEnv,P0.d,Nat.reduceAdd,graphP,diskP,stateP,List.map_cons,List.map_nil]
 repeat' (first|refine wk ?_|((first|refine' w_q rfl rfl ?xa rfl ?_|refine' v_q rfl rfl ?xa rfl ?_|refine' Zm rfl rfl (Zd rfl) rfl ?xa rfl ?_|refine' Zo rfl rfl (Zd rfl) rfl ?xa rfl ?_);case xa=>first|exact Zg KD rfl ⟨Zf (Za rfl),trivial⟩|exact Zg KS rfl ⟨Zj (Za rfl) ⟨Zb,Zb,trivial⟩,Zj (Za rfl) ⟨Zb,Zb,trivial⟩,trivial⟩|exact Zbl 23 rfl (Zg KQ rfl ⟨Zj (Za rfl) ⟨Zb,Zb,Zb,Zb,trivial⟩,Zj (Za rfl) ⟨Zb,Zb,Zb,Zb,trivial⟩,trivial⟩)|exact Zg KG rfl ⟨Zj (Za rfl) ⟨Zb,Zb,trivial⟩,trivial⟩|exact Zg KV rfl ⟨Zj (Za rfl) ⟨Zb,Zb,trivial⟩,trivial⟩|exact Zg KR rfl ⟨Zj (Za rfl) ⟨Zb,Zb,trivial⟩,trivial⟩|exact Zg KRc rfl ⟨Zj (Za rfl) ⟨Zb,Zb,trivial⟩,trivial⟩|exact Zg KSV rfl ⟨Zj (Za rfl) ⟨Zb,Zb,Zb,Zb,trivial⟩,Zf (Za rfl),trivial⟩|exact Zbl 56 rfl (Zg KQL rfl ⟨Zj (Za rfl) ⟨Zb,Zb,Zb,Zb,trivial⟩,Zj (Za rfl) ⟨Zb,Zb,Zb,Zb,trivial⟩,trivial⟩)|exact Zbl 62 rfl (Zg KSt rfl ⟨Zf (Za rfl),trivial⟩)|exact Zbl 63 rfl (Zg KQS rfl ⟨Zj (Za rfl) ⟨Zb,Zb,Zb,Zb,trivial⟩,Zj (Za rfl) ⟨Zb,Zb,Zb,Zb,trivial⟩,trivial⟩))|((first|refine' w_e rfl ?xa ?xb ?xc ?xe ?_|refine' v_e rfl ?xa ?xb ?xc ?xe ?_);(case xa=>first|exact Ze 18 rfl (Zai (ys:=[graphP M nE es,diskP n1 xs n2 ys]) [] KI rfl rfl ⟨Zj (Za rfl) ⟨Zb,Zb,trivial⟩,Zj (Za rfl) ⟨Zb,Zb,trivial⟩,trivial⟩ rfl rfl)|exact Ze 44 rfl (Zai (ys:=[.one (row nr 1 (rowsI RL))]) [] KL rfl rfl ⟨Zf (Za rfl),trivial⟩ rfl rfl));(case xb|xc|xe=>rfl);try refine wkD ?_)|(refine wkB ?_ ?_<;>intro hg_<;>try exact wkX)|fail)
 all_goals first
  | exact Zad rfl (Zt rfl)
  | (exfalso;first|omega|(simp at hg_;done))
theorem recS_no (nb : Bool) (code : List Int) (hl : code.length ≤ 1048576) (M : Nat) (nE n1 n2 : Bool) (es : List E3) (xs ys : List Int) (hel : es.length ≤ 41) (hM : M ≤ 16)
  (KD : Fn Tryz.prog 4 [.one (row nb 1 (bys code))] (.tup [graphP M nE es,diskP n1 xs n2 ys]))
  (x l : Sta) (nv ng nm mv mg mm lv lg lm nr n3 n4 : Bool) (xs' : List Int) (RL : List (List Int)) (h1 : x.vs.length ≤ 1048576) (h2 : x.gs.length ≤ 1048576) (h3 : x.ms.length ≤ 1048576) (h4 : l.vs.length ≤ 1048576)
  (KI : FnS Tryz.prog 5 [.agg [.r false (int (M : Int)),.r false (row nE 3 (edges es))],.agg [.r false (row n1 1 (ints xs)),.r false (row n2 1 (ints ys))]] [] (stateV x.r nv x.vs ng x.gs nm x.ms) [])
  (KS : Fn Tryz.prog 7 [graphP M nE es,diskP n1 xs n2 ys] (.v (stateP x.r mv x.vs mg x.gs mm x.ms)))
  (KG : Fn Tryz.prog 8 [graphP M nE es] (.v (.one (bool true)))) (KV : Fn Tryz.prog 9 [diskP n1 xs n2 ys] (.v (.one (bool true))))
  (KR : Fn Tryz.prog 13 [diskP n1 xs n2 ys] (.v (diskP n3 xs' n4 [])))
  (KRc : Fn Tryz.prog 12 [diskP n3 xs' n4 []] (.v (.one (row nr 1 (rowsI RL)))))
  (KSV : Fn Tryz.prog 14 [stateP x.r nv x.vs ng x.gs nm x.ms,iP (M : Int)] (.v (.one (bool true))))
  (KSt : Fn Tryz.prog 15 [iP (M : Int)] (.v (stateP 0 false (List.replicate M 0) false (List.replicate M true) true [])))
  (KL : FnS Tryz.prog 11 [.one (.r false (row nr 1 (rowsI RL)))] [] (stateT l.r lv l.vs lg l.gs lm l.ms true) [])
  (hx : x = ⟨0,List.replicate M 0,List.replicate M true,[]⟩) (hne : x.vs.length ≠ l.vs.length) :
  Fn Tryz.prog 3 [.one (row nb 1 (bys code))] (.v (.one (bool true))):=by
 have hcl:=bys_len code
 have KQ:=Zc2 x.r nv ng nm mv mg mm x.vs x.gs x.ms h1 h2 h3
 have KQL:=f_sameStateNe x.r l.r nv ng nm lv lg lm x.vs l.vs x.gs l.gs x.ms l.ms h1 h4 hne
 have KQS:=Zc2 x.r nv ng nm false false true x.vs x.gs x.ms h1 h2 h3
 rw [← (by rw [hx] : x.vs = List.replicate M 0),← (by rw [hx] : x.gs = List.replicate M true),← (by rw [hx] : x.r = 0)] at KSt
 rw [(by rw [hx] : x.ms = [])] at *
 clear hx
 obtain ⟨r,vs,gs,ms⟩:=x
 obtain ⟨lr,lvs,lgs,lms⟩:=l
 dsimp only at *
 refine Zy (l:=[.tmp 2]) Tryz.func3 kRf rfl Tryz.ntmps3 rfl rfl ?_; simp only [argEnv,P0.d,Nat.reduceAdd,graphP,diskP,stateP,List.map_cons,List.map_nil]
 repeat' (first|refine wk ?_|((first|refine' w_q rfl rfl ?xa rfl ?_|refine' v_q rfl rfl ?xa rfl ?_|refine' Zm rfl rfl (Zd rfl) rfl ?xa rfl ?_|refine' Zo rfl rfl (Zd rfl) rfl ?xa rfl ?_);case xa=>first|exact Zg KD rfl ⟨Zf (Za rfl),trivial⟩|exact Zg KS rfl ⟨Zj (Za rfl) ⟨Zb,Zb,trivial⟩,Zj (Za rfl) ⟨Zb,Zb,trivial⟩,trivial⟩|exact Zbl 23 rfl (Zg KQ rfl ⟨Zj (Za rfl) ⟨Zb,Zb,Zb,Zb,trivial⟩,Zj (Za rfl) ⟨Zb,Zb,Zb,Zb,trivial⟩,trivial⟩)|exact Zg KG rfl ⟨Zj (Za rfl) ⟨Zb,Zb,trivial⟩,trivial⟩|exact Zg KV rfl ⟨Zj (Za rfl) ⟨Zb,Zb,trivial⟩,trivial⟩|exact Zg KR rfl ⟨Zj (Za rfl) ⟨Zb,Zb,trivial⟩,trivial⟩|exact Zg KRc rfl ⟨Zj (Za rfl) ⟨Zb,Zb,trivial⟩,trivial⟩|exact Zg KSV rfl ⟨Zj (Za rfl) ⟨Zb,Zb,Zb,Zb,trivial⟩,Zf (Za rfl),trivial⟩|exact Zbl 56 rfl (Zg KQL rfl ⟨Zj (Za rfl) ⟨Zb,Zb,Zb,Zb,trivial⟩,Zj (Za rfl) ⟨Zb,Zb,Zb,Zb,trivial⟩,trivial⟩)|exact Zbl 62 rfl (Zg KSt rfl ⟨Zf (Za rfl),trivial⟩)|exact Zbl 63 rfl (Zg KQS rfl ⟨Zj (Za rfl) ⟨Zb,Zb,Zb,Zb,trivial⟩,Zj (Za rfl) ⟨Zb,Zb,Zb,Zb,trivial⟩,trivial⟩))|((first|refine' w_e rfl ?xa ?xb ?xc ?xe ?_|refine' v_e rfl ?xa ?xb ?xc ?xe ?_);(case xa=>first|exact Ze 18 rfl (Zai (ys:=[graphP M nE es,diskP n1 xs n2 ys]) [] KI rfl rfl ⟨Zj (Za rfl) ⟨Zb,Zb,trivial⟩,Zj (Za rfl) ⟨Zb,Zb,trivial⟩,trivial⟩ rfl rfl)|exact Ze 44 rfl (Zai (ys:=[.one (row nr 1 (rowsI RL))]) [] KL rfl rfl ⟨Zf (Za rfl),trivial⟩ rfl rfl));(case xb|xc|xe=>rfl);try refine wkD ?_)|(refine wkB ?_ ?_<;>intro hg_<;>try exact wkX)|fail)
 all_goals first
  | exact Zad rfl (Zt rfl)
  | (exfalso;first|omega|(simp at hg_;done))
theorem recS_none (nb : Bool) (code : List Int) (hl : code.length ≤ 1048576) (M : Nat) (nE n1 n2 : Bool) (es : List E3) (xs ys : List Int) (hel : es.length ≤ 41) (hM : M ≤ 16)
  (KD : Fn Tryz.prog 4 [.one (row nb 1 (bys code))] (.tup [graphP M nE es,diskP n1 xs n2 ys]))
  (x l : Sta) (nv ng nm mv mg mm lv lg lm nr n3 n4 : Bool) (xs' : List Int) (RL : List (List Int)) (h1 : x.vs.length ≤ 1048576) (h2 : x.gs.length ≤ 1048576) (h3 : x.ms.length ≤ 1048576) (h4 : l.vs.length ≤ 1048576)
  (KI : FnS Tryz.prog 5 [.agg [.r false (int (M : Int)),.r false (row nE 3 (edges es))],.agg [.r false (row n1 1 (ints xs)),.r false (row n2 1 (ints ys))]] [] (stateV x.r nv x.vs ng x.gs nm x.ms) [])
  (KS : Fn Tryz.prog 7 [graphP M nE es,diskP n1 xs n2 ys] (.v (stateP x.r mv x.vs mg x.gs mm x.ms)))
  (KG : Fn Tryz.prog 8 [graphP M nE es] (.v (.one (bool true)))) (KV : Fn Tryz.prog 9 [diskP n1 xs n2 ys] (.v (.one (bool true))))
  (KR : Fn Tryz.prog 13 [diskP n1 xs n2 ys] (.v (diskP n3 xs' n4 [])))
  (KRc : Fn Tryz.prog 12 [diskP n3 xs' n4 []] (.v (.one (row nr 1 (rowsI RL)))))
  (KSV : Fn Tryz.prog 14 [stateP x.r nv x.vs ng x.gs nm x.ms,iP (M : Int)] (.v (.one (bool true))))
  (KSt : Fn Tryz.prog 15 [iP (M : Int)] (.v (stateP 0 false (List.replicate M 0) false (List.replicate M true) true [])))
  (KL : FnS Tryz.prog 11 [.one (.r false (row nr 1 (rowsI RL)))] [] (stateT l.r lv l.vs lg l.gs lm l.ms false) [])
  (hx : x = ⟨0,List.replicate M 0,List.replicate M true,[]⟩) :
  Fn Tryz.prog 3 [.one (row nb 1 (bys code))] (.v (.one (bool true))):=by
 have hcl:=bys_len code
 have KQ:=Zc2 x.r nv ng nm mv mg mm x.vs x.gs x.ms h1 h2 h3
 have KQL:=KQ
 have KQS:=Zc2 x.r nv ng nm false false true x.vs x.gs x.ms h1 h2 h3
 rw [← (by rw [hx] : x.vs = List.replicate M 0),← (by rw [hx] : x.gs = List.replicate M true),← (by rw [hx] : x.r = 0)] at KSt
 rw [(by rw [hx] : x.ms = [])] at *
 clear hx
 obtain ⟨r,vs,gs,ms⟩:=x
 obtain ⟨lr,lvs,lgs,lms⟩:=l
 dsimp only at *
 refine Zy (l:=[.tmp 2]) Tryz.func3 kRf rfl Tryz.ntmps3 rfl rfl ?_; simp only [argEnv,P0.d,Nat.reduceAdd,graphP,diskP,stateP,List.map_cons,List.map_nil]
 repeat' (first|refine wk ?_|((first|refine' w_q rfl rfl ?xa rfl ?_|refine' v_q rfl rfl ?xa rfl ?_|refine' Zm rfl rfl (Zd rfl) rfl ?xa rfl ?_|refine' Zo rfl rfl (Zd rfl) rfl ?xa rfl ?_);case xa=>first|exact Zg KD rfl ⟨Zf (Za rfl),trivial⟩|exact Zg KS rfl ⟨Zj (Za rfl) ⟨Zb,Zb,trivial⟩,Zj (Za rfl) ⟨Zb,Zb,trivial⟩,trivial⟩|exact Zbl 23 rfl (Zg KQ rfl ⟨Zj (Za rfl) ⟨Zb,Zb,Zb,Zb,trivial⟩,Zj (Za rfl) ⟨Zb,Zb,Zb,Zb,trivial⟩,trivial⟩)|exact Zg KG rfl ⟨Zj (Za rfl) ⟨Zb,Zb,trivial⟩,trivial⟩|exact Zg KV rfl ⟨Zj (Za rfl) ⟨Zb,Zb,trivial⟩,trivial⟩|exact Zg KR rfl ⟨Zj (Za rfl) ⟨Zb,Zb,trivial⟩,trivial⟩|exact Zg KRc rfl ⟨Zj (Za rfl) ⟨Zb,Zb,trivial⟩,trivial⟩|exact Zg KSV rfl ⟨Zj (Za rfl) ⟨Zb,Zb,Zb,Zb,trivial⟩,Zf (Za rfl),trivial⟩|exact Zbl 56 rfl (Zg KQL rfl ⟨Zj (Za rfl) ⟨Zb,Zb,Zb,Zb,trivial⟩,Zj (Za rfl) ⟨Zb,Zb,Zb,Zb,trivial⟩,trivial⟩)|exact Zbl 62 rfl (Zg KSt rfl ⟨Zf (Za rfl),trivial⟩)|exact Zbl 63 rfl (Zg KQS rfl ⟨Zj (Za rfl) ⟨Zb,Zb,Zb,Zb,trivial⟩,Zj (Za rfl) ⟨Zb,Zb,Zb,Zb,trivial⟩,trivial⟩))|((first|refine' w_e rfl ?xa ?xb ?xc ?xe ?_|refine' v_e rfl ?xa ?xb ?xc ?xe ?_);(case xa=>first|exact Ze 18 rfl (Zai (ys:=[graphP M nE es,diskP n1 xs n2 ys]) [] KI rfl rfl ⟨Zj (Za rfl) ⟨Zb,Zb,trivial⟩,Zj (Za rfl) ⟨Zb,Zb,trivial⟩,trivial⟩ rfl rfl)|exact Ze 44 rfl (Zai (ys:=[.one (row nr 1 (rowsI RL))]) [] KL rfl rfl ⟨Zf (Za rfl),trivial⟩ rfl rfl));(case xb|xc|xe=>rfl);try refine wkD ?_)|(refine wkB ?_ ?_<;>intro hg_<;>try exact wkX)|fail)
 all_goals first
  | exact Zad rfl (Zt rfl)
  | (exfalso;first|omega|(simp at hg_;done))
theorem recS_bad (nb : Bool) (code : List Int) (hl : code.length ≤ 1048576) (m : Int) (nE n1 n2 : Bool) (es : List E3) (xs ys : List Int) (hel : es.length ≤ 41) (hxl : xs.length ≤ 2501) (hyl : ys.length ≤ 2501)
  (KD : Fn Tryz.prog 4 [.one (row nb 1 (bys code))] (.tup [graphP m nE es,diskP n1 xs n2 ys])) (hv : (gOk m es && diskOk xs ys) = false) :
  Fn Tryz.prog 3 [.one (row nb 1 (bys code))] (.v (.one (bool true))):=by
 have hcl:=bys_len code
 have KI:=frzVZZ (f_implRecoverBad m nE n1 n2 es xs ys oM oM oM hv)
 have KS:=f_specRecoverBad m nE n1 n2 es xs ys oM oM oM hv
 have KQ:=Zc2 0 true true true true true true [] [] [] (by simp) (by simp) (by simp)
 have KG:=Zb5 m nE es (by simp only [maxLen]; omega)
 have KV:=Zce n1 n2 xs ys oM oM
 generalize gOk m es = a at *
 generalize diskOk xs ys = b at *
 cases a<;>cases b
 ·refine Zy (l:=[.tmp 2]) Tryz.func3 kRf rfl Tryz.ntmps3 rfl rfl ?_; simp only [argEnv,P0.d,Nat.reduceAdd,graphP,diskP,stateP,List.map_cons,List.map_nil]
  repeat' (first|refine wk ?_|((first|refine' w_q rfl rfl ?xa rfl ?_|refine' v_q rfl rfl ?xa rfl ?_|refine' Zm rfl rfl (Zd rfl) rfl ?xa rfl ?_|refine' Zo rfl rfl (Zd rfl) rfl ?xa rfl ?_);case xa=>first|exact Zg KD rfl ⟨Zf (Za rfl),trivial⟩|exact Zg KS rfl ⟨Zj (Za rfl) ⟨Zb,Zb,trivial⟩,Zj (Za rfl) ⟨Zb,Zb,trivial⟩,trivial⟩|exact Zbl 23 rfl (Zg KQ rfl ⟨Zj (Za rfl) ⟨Zb,Zb,Zb,Zb,trivial⟩,Zj (Za rfl) ⟨Zb,Zb,Zb,Zb,trivial⟩,trivial⟩)|exact Zg KG rfl ⟨Zj (Za rfl) ⟨Zb,Zb,trivial⟩,trivial⟩|exact Zg KV rfl ⟨Zj (Za rfl) ⟨Zb,Zb,trivial⟩,trivial⟩|exact Zg f_alive2 rfl trivial)|((first|refine' w_e rfl ?xa ?xb ?xc ?xe ?_|refine' v_e rfl ?xa ?xb ?xc ?xe ?_);(case xa=>exact Ze 18 rfl (Zai (ys:=[graphP m nE es,diskP n1 xs n2 ys]) [] KI rfl rfl ⟨Zj (Za rfl) ⟨Zb,Zb,trivial⟩,Zj (Za rfl) ⟨Zb,Zb,trivial⟩,trivial⟩ rfl rfl));(case xb|xc|xe=>rfl);try refine wkD ?_)|(refine wkB ?_ ?_<;>intro hg_<;>try exact wkX)|fail)
  all_goals first
   | exact Zad rfl (Zt rfl)
   | (exfalso;first|omega|(simp at hg_;done))
 ·refine Zy (l:=[.tmp 2]) Tryz.func3 kRf rfl Tryz.ntmps3 rfl rfl ?_; simp only [argEnv,P0.d,Nat.reduceAdd,graphP,diskP,stateP,List.map_cons,List.map_nil]
  repeat' (first|refine wk ?_|((first|refine' w_q rfl rfl ?xa rfl ?_|refine' v_q rfl rfl ?xa rfl ?_|refine' Zm rfl rfl (Zd rfl) rfl ?xa rfl ?_|refine' Zo rfl rfl (Zd rfl) rfl ?xa rfl ?_);case xa=>first|exact Zg KD rfl ⟨Zf (Za rfl),trivial⟩|exact Zg KS rfl ⟨Zj (Za rfl) ⟨Zb,Zb,trivial⟩,Zj (Za rfl) ⟨Zb,Zb,trivial⟩,trivial⟩|exact Zbl 23 rfl (Zg KQ rfl ⟨Zj (Za rfl) ⟨Zb,Zb,Zb,Zb,trivial⟩,Zj (Za rfl) ⟨Zb,Zb,Zb,Zb,trivial⟩,trivial⟩)|exact Zg KG rfl ⟨Zj (Za rfl) ⟨Zb,Zb,trivial⟩,trivial⟩|exact Zg KV rfl ⟨Zj (Za rfl) ⟨Zb,Zb,trivial⟩,trivial⟩|exact Zg f_alive2 rfl trivial)|((first|refine' w_e rfl ?xa ?xb ?xc ?xe ?_|refine' v_e rfl ?xa ?xb ?xc ?xe ?_);(case xa=>exact Ze 18 rfl (Zai (ys:=[graphP m nE es,diskP n1 xs n2 ys]) [] KI rfl rfl ⟨Zj (Za rfl) ⟨Zb,Zb,trivial⟩,Zj (Za rfl) ⟨Zb,Zb,trivial⟩,trivial⟩ rfl rfl));(case xb|xc|xe=>rfl);try refine wkD ?_)|(refine wkB ?_ ?_<;>intro hg_<;>try exact wkX)|fail)
  all_goals first
   | exact Zad rfl (Zt rfl)
   | (exfalso;first|omega|(simp at hg_;done))
 ·refine Zy (l:=[.tmp 2]) Tryz.func3 kRf rfl Tryz.ntmps3 rfl rfl ?_; simp only [argEnv,P0.d,Nat.reduceAdd,graphP,diskP,stateP,List.map_cons,List.map_nil]
  repeat' (first|refine wk ?_|((first|refine' w_q rfl rfl ?xa rfl ?_|refine' v_q rfl rfl ?xa rfl ?_|refine' Zm rfl rfl (Zd rfl) rfl ?xa rfl ?_|refine' Zo rfl rfl (Zd rfl) rfl ?xa rfl ?_);case xa=>first|exact Zg KD rfl ⟨Zf (Za rfl),trivial⟩|exact Zg KS rfl ⟨Zj (Za rfl) ⟨Zb,Zb,trivial⟩,Zj (Za rfl) ⟨Zb,Zb,trivial⟩,trivial⟩|exact Zbl 23 rfl (Zg KQ rfl ⟨Zj (Za rfl) ⟨Zb,Zb,Zb,Zb,trivial⟩,Zj (Za rfl) ⟨Zb,Zb,Zb,Zb,trivial⟩,trivial⟩)|exact Zg KG rfl ⟨Zj (Za rfl) ⟨Zb,Zb,trivial⟩,trivial⟩|exact Zg KV rfl ⟨Zj (Za rfl) ⟨Zb,Zb,trivial⟩,trivial⟩|exact Zg f_alive2 rfl trivial)|((first|refine' w_e rfl ?xa ?xb ?xc ?xe ?_|refine' v_e rfl ?xa ?xb ?xc ?xe ?_);(case xa=>exact Ze 18 rfl (Zai (ys:=[graphP m nE es,diskP n1 xs n2 ys]) [] KI rfl rfl ⟨Zj (Za rfl) ⟨Zb,Zb,trivial⟩,Zj (Za rfl) ⟨Zb,Zb,trivial⟩,trivial⟩ rfl rfl));(case xb|xc|xe=>rfl);try refine wkD ?_)|(refine wkB ?_ ?_<;>intro hg_<;>try exact wkX)|fail)
  all_goals first
   | exact Zad rfl (Zt rfl)
   | (exfalso;first|omega|(simp at hg_;done))
 ·cases hv
theorem start_ok (M : Nat) (hM : M ≤ 16) : stOk M 0 (List.replicate M 0) (List.replicate M true).length [] = true:=by
 unfold stOk
 have h1 : (List.replicate M (0 : Int)).all valIn = true:=by
  rw [List.all_eq_true]
  intro z hz
  rw [List.eq_of_mem_replicate hz]
  rfl
 rw [h1]
 simp [inR,msOk]
 omega
theorem stOk_len {M : Nat} {r : Int} {vs : List Int} {gl : Nat} {ms : List E3} (h : stOk M r vs gl ms = true) : vs.length = M ∧ gl = M ∧ ms.length ≤ 2000:=by
 unfold stOk at h
 simp only [Bool.and_eq_true,decide_eq_true_eq] at h
 omega
theorem f_lawRecS (nb : Bool) (code : List Int) (hB : Byte code) (hl : code.length ≤ 1048576) : Fn Tryz.prog 3 [.one (row nb 1 (bys code))] (.v (.one (bool true))):=by
 obtain ⟨nE,n1,n2,m,es,xs,ys,⟨hm,hel,hxl,hyl,hn1⟩,KD⟩:=f_drawRecS nb code hB hl
 cases hb : (gOk m es && diskOk xs ys) with
 | false=>exact recS_bad nb code hl m nE n1 n2 es xs ys hel hxl hyl KD hb
 | true =>
  rw [Bool.and_eq_true] at hb
  obtain ⟨hg,hd⟩:=hb
  have hmC:=gOk_mC hg
  obtain ⟨M,rfl⟩:=Int.eq_ofNat_of_zero_le hmC.1
  have hM : M ≤ 16:=by omega
  obtain ⟨hc,hL⟩:=recL_len hd
  obtain ⟨nv,ng,nm,KI⟩:=recI_plain M nE n1 n2 es xs ys hM hg hd hn1
  obtain ⟨mv,mg,mm,KS⟩:=recSp_plain M nE n1 n2 es xs ys hM hg hd
  have KG:=Zb5 M nE es (by simp only [maxLen]; omega)
  rw [hg] at KG
  have KV:=Zce n1 n2 xs ys oM oM
  rw [hd] at KV
  have KR:=Zcy n1 n2 xs ys hn1 hd
  have KRc:=Zcx n1 true (xs.take (scanF xs).2) [] (Zck hd)
  rw [show (scanF (xs.take (scanF xs).2 ++ [])).1 = recL xs from rfl] at KRc
  obtain ⟨lv,lg,lm,KL⟩:=lastI_plain (decide (recL xs = [])) (recL xs) hc
  have KSt:=f_implStart M hM
  have hst : stOk M (recT M xs).r (recT M xs).vs (recT M xs).gs.length (recT M xs).ms = true:=by
   unfold recT recS
   split
   ·rename_i s hs
    split
    ·rename_i h; exact h
    ·exact start_ok M hM
   ·exact start_ok M hM
  obtain ⟨b1,b2,b3⟩:=stOk_len hst
  have KSV:=Zcz M (recT M xs).r nv ng nm (recT M xs).vs (recT M xs).gs (recT M xs).ms (by simp only [maxLen]; omega) (by simp only [maxLen]; omega) (by simp only [maxLen]; omega)
  rw [hst] at KSV
  cases hk : lastCk (recL xs) with
  | none =>
   have hT : recT M xs = ⟨0,List.replicate M 0,List.replicate M true,[]⟩:=by unfold recT recS; rw [hk]; rfl
   rw [hk] at KL
   have hl0 : (lastT (recL xs)).vs.length ≤ 1048576:=by unfold lastT; rw [hk]; simp
   exact recS_none nb code hl M nE n1 n2 es xs ys hel hM KD (recT M xs) (lastT (recL xs)) nv ng nm mv mg mm lv lg lm _ _ _ _ _ oM oM oM hl0 KI KS KG KV KR KRc KSV KSt KL hT
  | some s =>
   have hF:=Sta.okF (lastCk_ok hk)
   have c1 : s.vs.length ≤ 16:=hF.many
   have hLT : lastT (recL xs) = s:=by unfold lastT; rw [hk]; rfl
   have hok:=lastCk_ok hk
   rw [hk] at KL
   have hl0 : (lastT (recL xs)).vs.length ≤ 1048576:=by rw [hLT]; omega
   have hT : recT M xs = if stOk M s.r s.vs s.gs.length s.ms then s else ⟨0,List.replicate M 0,List.replicate M true,[]⟩:=by unfold recT recS; rw [hk]; dsimp only; split<;>rfl
   by_cases hs : stOk M s.r s.vs s.gs.length s.ms = true
   ·rw [if_pos hs] at hT
    exact recS_yes nb code hl M nE n1 n2 es xs ys hel hM KD (recT M xs) (lastT (recL xs)) nv ng nm mv mg mm lv lg lm _ _ _ _ _ oM oM oM hl0 KI KS KG KV KR KRc KSV KSt KL (by rw [hT,hLT])
   ·rw [if_neg hs] at hT
    refine recS_no nb code hl M nE n1 n2 es xs ys hel hM KD (recT M xs) (lastT (recL xs)) nv ng nm mv mg mm lv lg lm _ _ _ _ _ oM oM oM hl0 KI KS KG KV KR KRc KSV KSt KL hT ?_
    intro he
    rw [b1,hLT] at he
    exact hs (by rw [he]; exact hok)
theorem law_recS (nb : Bool) (code : List Int) (hB : Byte code) : Fn Tryz.prog 3 [.one (row nb 1 (bys code))] (.v (.one (bool true))):=by
 have hlb:=bys_len code
 by_cases hl : code.length ≤ 1048576
 ·exact f_lawRecS nb code hB hl
 ·refine Zy (l:=[.tmp 2]) Tryz.func3 kRf rfl Tryz.ntmps3 rfl rfl ?_; simp only [argEnv,P0.d,Nat.reduceAdd]
  repeat' (first|refine wk ?_|(refine wkB ?_ ?_<;>intro hg_<;>try exact wkX)|fail)
  all_goals first
   | exact Zad rfl (Zt rfl)
   | (exfalso; omega)
end Go.Proofs.YtmkijbfiilpccaaGreat.Abs
