/- RecoverState and LastCheckpoint of the program, their results as plain data. No statement of the seat is proved here. -/
import Derived.Lib.Hide
import Derived.Test.YtmkijbfiilpccaaLaTy
import Derived.Test.YtmkijbfiilpccaaLaAGrH
import Derived.Test.YtmkijbfiilpccaaLaASpCD
import Derived.Test.YtmkijbfiilpccaaLaGCkn
import Derived.Test.YtmkijbfiilpccaaLaASt0
import Derived.Test.YtmkijbfiilpccaaLaADrV
import Derived.Test.YtmkijbfiilpccaaLaADkW
import Derived.Test.YtmkijbfiilpccaaLaALawG
set_option linter.unusedSimpArgs false
set_option linter.unusedVariables false
namespace Go.Proofs.Ytmkijbfiilpccaa.Abs
open Go.RowKit
open R (val row ref)
theorem imp_tups2 {cs cs' : List Cell} {x : Cell} (h : DImp (.agg cs) (.agg cs')) : DImp (.tups [(true, cs), (false, [x])]) (.tups [(true, cs'), (false, [x])]) := fun ι base c v ⟨vs, h1, h2, h3⟩ => ⟨vs, h1, h2, fun j y hy => by
  match j, hy with
  | 0, hy => obtain rfl : (true, cs') = y := by simpa using hy
             obtain ⟨u, hu, hp⟩ := h3 0 _ rfl
             exact ⟨u, hu, h ι base c u hp⟩
  | 1, hy => obtain rfl : (false, [x]) = y := by simpa using hy
             exact h3 1 _ rfl
  | j + 2, hy => simp at hy⟩
abbrev cellsV (rd : Int) (nv : Bool) (VS : List Int) (ng : Bool) (GS : List Bool) (nm : Bool) (MS : List E3) : List Cell:=[.r true (int rd),.r true (row nv 1 (ints VS)),.r true (row ng 1 (bools GS)),.r true (row nm 3 (edges MS))]
abbrev stateT (rd : Int) (nv : Bool) (VS : List Int) (ng : Bool) (GS : List Bool) (nm : Bool) (MS : List E3) (b : Bool) : D:=.tups [(true,cellsV rd nv VS ng GS nm MS),(false,[.r true (bool b)])]
theorem frzTZZ {f : FuncId} {args : List D} {r : Int} {bb : Bool} (K : FnS Try.prog f args [] (.tups [(true,[.r true (int r),Zc,Zc,Zc]),(false,[.r true (bool bb)])]) []) : FnS Try.prog f args [] (stateT r true [] true [] true [] bb) [] :=
 Zbw K (imp_tups2 (imp4 Zbv Zcq Zcq Zcq))
theorem frzTOZ {f : FuncId} {args : List D} {r : Int} {vs : List Int} {gs : List Bool} {bb : Bool} (K : FnS Try.prog f args [] (.tups [(true,[.r true (int r),.own 2000001 0 vs.length 1,.own 2000002 0 gs.length 1,Zc]),(false,[.r true (bool bb)])]) [(2000001,.sl 3 1 true (ints vs)),(2000002,.sl 4 1 true (bools gs))]) : FnS Try.prog f args [] (stateT r false vs false gs true [] bb) []:=by
 have hv : vs.length = (ints vs).length:=(Zu vs).symm
 have hg : gs.length = (bools gs).length:=(Zah gs).symm
 have A0:=Zb5 2000001 K rfl
 have K0 : FnS Try.prog f args [] (.tups [(true,[.r true (int r),.r true (row false 1 (ints vs)),.own 2000002 0 gs.length 1,Zc]),(false,[.r true (bool bb)])]) [(2000002,.sl 4 1 true (bools gs))]:=by
  refine Zbw (d:=(.tups [(true,[.r true (int r),frC 2000001 1 true (ints vs) (.own 2000001 0 vs.length 1),.own 2000002 0 gs.length 1,Zc]),(false,[.r true (bool bb)])])) A0 ?_
  rw [Zbb hv]
  exact Zac rfl
 have A1:=Zb5 2000002 K0 rfl
 have K1 : FnS Try.prog f args [] (.tups [(true,[.r true (int r),.r true (row false 1 (ints vs)),.r true (row false 1 (bools gs)),Zc]),(false,[.r true (bool bb)])]) []:=by
  refine Zbw (d:=(.tups [(true,[.r true (int r),.r true (row false 1 (ints vs)),frC 2000002 1 true (bools gs) (.own 2000002 0 gs.length 1),Zc]),(false,[.r true (bool bb)])])) A1 ?_
  rw [Zbb hg]
  exact Zac rfl
 exact Zbw K1 (imp_tups2 (imp4 Zbv Zbv Zbv Zcq))
theorem frzTOO {f : FuncId} {args : List D} {r : Int} {vs : List Int} {gs : List Bool} {ms : List E3} {bb : Bool} (K : FnS Try.prog f args [] (.tups [(true,[.r true (int r),.own 2000001 0 vs.length 1,.own 2000002 0 gs.length 1,.own 2000003 0 ms.length 3]),(false,[.r true (bool bb)])]) [(2000001,.sl 3 1 true (ints vs)),(2000002,.sl 4 1 true (bools gs)),(2000003,.sl 70 3 true (edges ms))]) : FnS Try.prog f args [] (stateT r false vs false gs false ms bb) []:=by
 have hv : vs.length = (ints vs).length:=(Zu vs).symm
 have hg : gs.length = (bools gs).length:=(Zah gs).symm
 have hm : ms.length = (edges ms).length:=(Zp ms).symm
 have A0:=Zb5 2000001 K rfl
 have K0 : FnS Try.prog f args [] (.tups [(true,[.r true (int r),.r true (row false 1 (ints vs)),.own 2000002 0 gs.length 1,.own 2000003 0 ms.length 3]),(false,[.r true (bool bb)])]) [(2000002,.sl 4 1 true (bools gs)),(2000003,.sl 70 3 true (edges ms))]:=by
  refine Zbw (d:=(.tups [(true,[.r true (int r),frC 2000001 1 true (ints vs) (.own 2000001 0 vs.length 1),.own 2000002 0 gs.length 1,.own 2000003 0 ms.length 3]),(false,[.r true (bool bb)])])) A0 ?_
  rw [Zbb hv]
  exact Zac rfl
 have A1:=Zb5 2000002 K0 rfl
 have K1 : FnS Try.prog f args [] (.tups [(true,[.r true (int r),.r true (row false 1 (ints vs)),.r true (row false 1 (bools gs)),.own 2000003 0 ms.length 3]),(false,[.r true (bool bb)])]) [(2000003,.sl 70 3 true (edges ms))]:=by
  refine Zbw (d:=(.tups [(true,[.r true (int r),.r true (row false 1 (ints vs)),frC 2000002 1 true (bools gs) (.own 2000002 0 gs.length 1),.own 2000003 0 ms.length 3]),(false,[.r true (bool bb)])])) A1 ?_
  rw [Zbb hg]
  exact Zac rfl
 have A2:=Zb5 2000003 K1 rfl
 have K2 : FnS Try.prog f args [] (.tups [(true,[.r true (int r),.r true (row false 1 (ints vs)),.r true (row false 1 (bools gs)),.r true (row false 3 (edges ms))]),(false,[.r true (bool bb)])]) []:=by
  refine Zbw (d:=(.tups [(true,[.r true (int r),.r true (row false 1 (ints vs)),.r true (row false 1 (bools gs)),frC 2000003 3 true (edges ms) (.own 2000003 0 ms.length 3)]),(false,[.r true (bool bb)])])) A2 ?_
  rw [Zbb hm]
  exact Zac rfl
 exact Zbw K2 (imp_tups2 (imp4 Zbv Zbv Zbv Zbv))
noncomputable def lastT (L : List (List Int)) : Sta:=(lastCk L).getD ⟨0,[],[],[]⟩
theorem Zc9 (nil : Bool) (L : List (List Int)) (hl : L.length ≤ 1048576) :
  ∃ nv ng nm : Bool,FnS Try.prog 9 [.one (.r false (row nil 1 (rowsI L)))] [] (stateT (lastT L).r nv (lastT L).vs ng (lastT L).gs nm (lastT L).ms (lastCk L).isSome) []:=by
 have K:=f_implLast nil L hl
 unfold lastT
 cases hk : lastCk L with
 | none =>
  rw [hk] at K
  exact ⟨true,true,true,frzTZZ K⟩
 | some s =>
  have hF:=Sta.okF (lastCk_ok hk)
  rw [hk] at K
  obtain ⟨r,vs,gs,ms⟩:=s
  have b2 : gs.length = vs.length:=hF.gl
  have bm : ∀ m ∈ ms,0 ≤ m.1 ∧ m.1 < (vs.length : Int):=fun m hm=>⟨(hF.min m hm).1,(hF.min m hm).2.1⟩
  cases vs with
  | nil =>
   have hgs : gs = []:=List.eq_nil_of_length_eq_zero (by simpa using b2)
   subst hgs
   cases ms with
   | nil=>exact ⟨true,true,true,frzTZZ K⟩
   | cons x t=>exact absurd (bm x (by simp)) (by simp)
  | cons v vt =>
   cases ms with
   | nil=>exact ⟨false,false,true,frzTOZ K⟩
   | cons x t=>exact ⟨false,false,false,frzTOO K⟩
end Go.Proofs.Ytmkijbfiilpccaa.Abs
