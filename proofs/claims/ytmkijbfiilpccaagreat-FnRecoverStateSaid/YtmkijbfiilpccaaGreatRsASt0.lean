/- Checkpoints by states: the program's reading of one checkpoint. No statement of the seat is proved here. -/
import Derived.Lib.Hide
import Derived.Test.YtmkijbfiilpccaaGreatRsTy
import Derived.Test.YtmkijbfiilpccaaGreatRsGCki
set_option linter.unusedSimpArgs false
set_option linter.unusedVariables false
set_option maxRecDepth 100000
set_option maxHeartbeats 8000000
namespace Go.Proofs.YtmkijbfiilpccaaGreat.Abs
open Go.RowKit
open R (val row ref)
def rowC (e : Bool) (k n sz : Nat) : Cell:=if e then Zc else .own k 0 n sz
def stT : Option Sta → D
 | none=>.tups [(true,[.r true (int 0),Zc,Zc,Zc]),(false,[.r true (bool false)])]
 | some s=>.tups [(true,[.r true (int s.r),rowC s.vs.isEmpty 2000001 s.vs.length 1,rowC s.vs.isEmpty 2000002 s.gs.length 1,rowC s.ms.isEmpty 2000003 s.ms.length 3]),(false,[.r true (bool true)])]
def stH : Option Sta → List (Nat × Ob)
 | none=>[]
 | some s=>(if s.vs.isEmpty then [] else [(2000001,.sl 3 1 true (ints s.vs)),(2000002,.sl 4 1 true (bools s.gs))]) ++ (if s.ms.isEmpty then [] else [(2000003,.sl 87 3 true (edges s.ms))])
theorem nbForm1 (tag : Int) (k : Nat) (b : List Int) : (∃ nn ns,nbRes (nbF tag k b) = .tup [.one (row nn 1 (ints ns)),.one (bool false)] ∧ ∀ ms,nbF tag k b ≠ (some ms,true)) ∨ (∃ ns,nbF tag k b = (some ns,true) ∧ nbRes (nbF tag k b) = .tup [.one (row false 1 (ints ns)),.one (bool true)]):=by
 rcases h : nbF tag k b with ⟨o,q⟩
 cases o with
 | none=>exact .inl ⟨true,[],rfl,fun ms e=>by cases e⟩
 | some ns =>
  cases q
  ·exact .inl ⟨false,ns,rfl,fun ms e=>by cases e⟩
  ·exact .inr ⟨ns,rfl,rfl⟩
theorem Zbv (D : List (List Int)) (a n : Nat) : ((rowsI D).drop a).take n = rowsI ((D.drop a).take n):=by unfold rowsI; rw [List.map_take,List.map_drop]
theorem f_ownValid (r : Int) (nv ng nm : Bool) (vs : List Int) (gs : List Bool) (ms : List E3) (hv : vs.length ≤ maxLen) (hg : gs.length ≤ maxLen) (hl : ms.length ≤ maxLen) : Fn Tryz.prog 67 [stateP r nv vs ng gs nm ms] (.v (.one (bool (stOk vs.length r vs gs.length ms)))):=by
 have hlenV:=Zr vs
 have K:=Zcz ((ints vs).length : Int) r nv ng nm vs gs ms hv hg hl
 have e : stOk ((ints vs).length : Int) r vs gs.length ms = stOk (vs.length : Int) r vs gs.length ms:=by rw [hlenV]
 rw [e] at K
 clear e
 generalize stOk vs.length r vs gs.length ms = b at *
 refine Zy (l:=[.tmp 2]) Tryz.func67 kRf rfl Tryz.ntmps67 rfl rfl ?_; simp only [argEnv,P0.d,Nat.reduceAdd,stateP,List.map_cons,List.map_nil]
 repeat' (first|refine wk ?_|((first|refine' w_q rfl rfl ?xa rfl ?_|refine' v_q rfl rfl ?xa rfl ?_|refine' Zm rfl rfl (Zd rfl) rfl ?xa rfl ?_|refine' Zo rfl rfl (Zd rfl) rfl ?xa rfl ?_);case xa=>exact Zg K rfl ⟨Zj (Za rfl) ⟨Zb,Zb,Zb,Zb,trivial⟩,Zf (Za rfl),trivial⟩)|(refine wkB ?_ ?_<;>intro hg_<;>try exact wkX)|fail)
 all_goals exact Zad rfl (Zt rfl)
theorem f_ckAtHead (nil : Bool) (D : List (List Int)) (b : List Int) (hx : (rowsI D)[(0 : Int).toNat]? = some (rowP b)) (h0 : 0 < D.length) (h : ∀ ns,nbF 1 3 b ≠ (some ns,true)) :
  FnS Tryz.prog 40 [.one (.r false (row nil 1 (rowsI D)))] [] (stT none) (stH none):=by
 have hlen:=Zax D
 have KN:=Zbk false b 1 3 oM
 rcases nbForm1 1 3 b with ⟨nn,ns,e1,_⟩ | ⟨ns,e1,_⟩
 ·rw [e1] at KN
  unfold stT stH
  clear e1 h
  refine Zab (l:=[.cell 2 34,.tmp 3]) Tryz.func40 kRf rfl Tryz.ntmps40 rfl rfl ?_; simp only [dEnv,Nat.reduceAdd]
  repeat' (first|refine wk ?_|((first|refine' w_q rfl rfl ?xa rfl ?_|refine' v_q rfl rfl ?xa rfl ?_|refine' Zm rfl rfl (Zd rfl) rfl ?xa rfl ?_|refine' Zo rfl rfl (Zd rfl) rfl ?xa rfl ?_);case xa=>first|exact Z5 tbOk rfl rfl rfl rfl oM hx|exact Zg KN rfl ⟨Zf (Za rfl),Zf (Za rfl),Zf (Za rfl),trivial⟩)|(refine wkB ?_ ?_<;>intro hg_<;>try exact wkX)|fail)
  all_goals first
   | exact Zx [] rfl sbH (Za3 (x:=(true,_)) (y:=(false,[_])) (Zay rfl rfl tyF0 rfl rfl rfl) rfl (Za2 rfl) rfl (Z9 (tups2 rfl rfl)))
 ·exact absurd e1 (h ns)
theorem f_ckAtSize (nil : Bool) (D : List (List Int)) (b : List Int) (r : Int) (m w : Nat) (hl : D.length ≤ 2000) (hm : m ≤ 1000000) (hw : w ≤ 1000000) (hx : (rowsI D)[(0 : Int).toNat]? = some (rowP b)) (h0 : 0 < D.length) (h : nbF 1 3 b = (some [r,(m : Int),(w : Int)],true)) (hs : D.length < m + w + 2) :
  FnS Tryz.prog 40 [.one (.r false (row nil 1 (rowsI D)))] [] (stT none) (stH none):=by
 have hlen:=Zax D
 have KN:=Zbk false b 1 3 oM
 rw [h] at KN
 unfold nbRes at KN
 dsimp only at KN
 have hx1 : (ints [r,(m : Int),(w : Int)])[(1 : Int).toNat]? = some (iP (m : Int)):=rfl
 have hx2 : (ints [r,(m : Int),(w : Int)])[(2 : Int).toNat]? = some (iP (w : Int)):=rfl
 have hli : (ints [r,(m : Int),(w : Int)]).length = 3:=rfl
 have hw1 : IntKind.i64.wrap (IntKind.i64.wrap ((m : Int) + (w : Int)) + 2) = (m : Int) + w + 2:=by rw [IntWalk.i64_in ((m : Int) + (w : Int)) oM,IntWalk.i64_in _ oM]
 unfold stT stH
 refine Zab (l:=[.cell 2 34,.tmp 3]) Tryz.func40 kRf rfl Tryz.ntmps40 rfl rfl ?_; simp only [dEnv,Nat.reduceAdd]
 repeat' (first|refine wk ?_|((first|refine' w_q rfl rfl ?xa rfl ?_|refine' v_q rfl rfl ?xa rfl ?_|refine' Zm rfl rfl (Zd rfl) rfl ?xa rfl ?_|refine' Zo rfl rfl (Zd rfl) rfl ?xa rfl ?_);case xa=>first|exact Z5 tbOk rfl rfl rfl rfl oM (by first|exact hx|exact hx1|exact hx2)|exact Zg KN rfl ⟨Zf (Za rfl),Zf (Za rfl),Zf (Za rfl),trivial⟩)|(refine wkB ?_ ?_<;>intro hg_<;>try exact wkX)|fail)
 all_goals first
  | exact Zx [] rfl sbH (Za3 (x:=(true,_)) (y:=(false,[_])) (Zay rfl rfl tyF0 rfl rfl rfl) rfl (Za2 rfl) rfl (Z9 (tups2 rfl rfl)))
  | (exfalso; omega)
theorem f_ckAtVals (nil : Bool) (D : List (List Int)) (b c : List Int) (r : Int) (m w : Nat) (hl : D.length ≤ 2000) (hx : (rowsI D)[(0 : Int).toNat]? = some (rowP b)) (h0 : 0 < D.length) (h : nbF 1 3 b = (some [r,(m : Int),(w : Int)],true)) (hs : m + w + 2 ≤ D.length) (hc : (rowsI D)[((1 + m + w : Nat) : Int).toNat]? = some (rowP c)) (hv : rdAll rdV1 ((D.drop 1).take m) = none) :
  FnS Tryz.prog 40 [.one (.r false (row nil 1 (rowsI D)))] [] (stT none) (stH none):=by
 have hlen:=Zax D
 have KN:=Zbk false b 1 3 oM
 rw [h] at KN
 unfold nbRes at KN
 dsimp only at KN
 have hx0 : (ints [r,(m : Int),(w : Int)])[(0 : Int).toNat]? = some (iP r):=rfl
 have hx1 : (ints [r,(m : Int),(w : Int)])[(1 : Int).toNat]? = some (iP (m : Int)):=rfl
 have hx2 : (ints [r,(m : Int),(w : Int)])[(2 : Int).toNat]? = some (iP (w : Int)):=rfl
 have hli : (ints [r,(m : Int),(w : Int)]).length = 3:=rfl
 have hw1 : IntKind.i64.wrap (IntKind.i64.wrap ((m : Int) + (w : Int)) + 2) = (m : Int) + w + 2:=by rw [IntWalk.i64_in ((m : Int) + (w : Int)) oM,IntWalk.i64_in _ oM]
 have hq1 : IntKind.i64.wrap (1 + (m : Int)) = ((1 + m : Nat) : Int):=by rw [IntWalk.i64_in _ oM]; omega
 have hq2 : IntKind.i64.wrap (IntKind.i64.wrap (1 + (m : Int)) + (w : Int)) = ((1 + m + w : Nat) : Int):=by rw [hq1,IntWalk.i64_in _ oM]; omega
 have hd1 : Abs.D.one (Cell.r true (int (IntKind.i64.wrap (1 + (m : Int))))) = Abs.D.one (.r true (int ((1 + m : Nat) : Int))):=by rw [hq1]
 have hd2 : Abs.D.one (Cell.r true (int (IntKind.i64.wrap (IntKind.i64.wrap (1 + (m : Int)) + (w : Int))))) = Abs.D.one (.r true (int ((1 + m + w : Nat) : Int))):=by rw [hq2]
 have hpV : ((rowsI D).drop 1).take (1 + m - 1) = rowsI ((D.drop 1).take m):=by rw [Zbv,show 1 + m - 1 = m by omega]
 have hpM : ((rowsI D).drop (1 + m)).take (1 + m + w - (1 + m)) = rowsI ((D.drop (1 + m)).take w):=by rw [Zbv,show 1 + m + w - (1 + m) = w by omega]
 have hbl : ((D.drop 1).take m).length ≤ 2000:=by simp; omega
 have hbm : ((D.drop (1 + m)).take w).length ≤ 2000:=by simp; omega
 rw [← hq2] at hc
 have hc0 : 0 ≤ IntKind.i64.wrap (IntKind.i64.wrap (1 + (m : Int)) + (w : Int)):=by rw [hq2]; omega
 have KV:=f_readValuesNo nil _ r hbl hv
 rw [← hpV] at KV
 unfold stT stH
 refine Zab (l:=[.cell 2 34,.tmp 3]) Tryz.func40 kRf rfl Tryz.ntmps40 rfl rfl ?_; simp only [dEnv,Nat.reduceAdd]
 repeat' (first|refine wk ?_|((first|refine' w_q rfl rfl ?xa rfl ?_|refine' v_q rfl rfl ?xa rfl ?_|refine' Zm rfl rfl (Zd rfl) rfl ?xa rfl ?_|refine' Zo rfl rfl (Zd rfl) rfl ?xa rfl ?_);case xa=>first|exact Z5 tbOk rfl rfl rfl rfl (by first|omega|exact hc0) (by first|exact hx|exact hx0|exact hx1|exact hx2|exact hc)|exact Zap (a:=1) (b:=1 + m) tbOk rfl rfl rfl ⟨_,Za rfl⟩ ⟨_,(Za rfl).trans hd1⟩ oM oM|exact Zg KN rfl ⟨Zf (Za rfl),Zf (Za rfl),Zf (Za rfl),trivial⟩)|((first|refine' w_e rfl ?xa ?xb ?xc ?xe ?_|refine' v_e rfl ?xa ?xb ?xc ?xe ?_);(case xa=>exact Ze 43 rfl (Zh [(1000000000,8)] KV rfl ⟨Zi (Za rfl),asE,trivial⟩ sbH rfl));(case xb|xc|xe=>rfl);try refine wkD ?_)|((first|refine' w_ey rfl rfl (Zd rfl) ?xa ?xb ?xc ?xe ?_|refine' v_ey rfl rfl (Zd rfl) ?xa ?xb ?xc ?xe ?_);(case xa=>exact Ze 43 rfl (Zh [(1000000000,8)] KV rfl ⟨Zi (Za rfl),asE,trivial⟩ sbH rfl));(case xb|xc|xe=>rfl);try refine wkD ?_)|(refine wkB ?_ ?_<;>intro hg_<;>try exact wkX)|fail)
 all_goals first
  | exact Zx [] rfl sbH (Za3 (x:=(true,_)) (y:=(false,[_])) (Zay rfl rfl tyF0 rfl rfl rfl) rfl (Za2 rfl) rfl (Z9 (tups2 rfl rfl)))
  | (exfalso; omega)
theorem f_ckAtMsgsZ (nil : Bool) (D : List (List Int)) (b c : List Int) (r : Int) (m w : Nat) (hl : D.length ≤ 2000) (hx : (rowsI D)[(0 : Int).toNat]? = some (rowP b)) (h0 : 0 < D.length) (h : nbF 1 3 b = (some [r,(m : Int),(w : Int)],true)) (hs : m + w + 2 ≤ D.length) (hc : (rowsI D)[((1 + m + w : Nat) : Int).toNat]? = some (rowP c)) (hv : rdAll rdV1 ((D.drop 1).take m) = some []) (hm : rdAll rdM1 ((D.drop (1 + m)).take w) = none) :
  FnS Tryz.prog 40 [.one (.r false (row nil 1 (rowsI D)))] [] (stT none) (stH none):=by
 have hlen:=Zax D
 have KN:=Zbk false b 1 3 oM
 rw [h] at KN
 unfold nbRes at KN
 dsimp only at KN
 have hx0 : (ints [r,(m : Int),(w : Int)])[(0 : Int).toNat]? = some (iP r):=rfl
 have hx1 : (ints [r,(m : Int),(w : Int)])[(1 : Int).toNat]? = some (iP (m : Int)):=rfl
 have hx2 : (ints [r,(m : Int),(w : Int)])[(2 : Int).toNat]? = some (iP (w : Int)):=rfl
 have hli : (ints [r,(m : Int),(w : Int)]).length = 3:=rfl
 have hw1 : IntKind.i64.wrap (IntKind.i64.wrap ((m : Int) + (w : Int)) + 2) = (m : Int) + w + 2:=by rw [IntWalk.i64_in ((m : Int) + (w : Int)) oM,IntWalk.i64_in _ oM]
 have hq1 : IntKind.i64.wrap (1 + (m : Int)) = ((1 + m : Nat) : Int):=by rw [IntWalk.i64_in _ oM]; omega
 have hq2 : IntKind.i64.wrap (IntKind.i64.wrap (1 + (m : Int)) + (w : Int)) = ((1 + m + w : Nat) : Int):=by rw [hq1,IntWalk.i64_in _ oM]; omega
 have hd1 : Abs.D.one (Cell.r true (int (IntKind.i64.wrap (1 + (m : Int))))) = Abs.D.one (.r true (int ((1 + m : Nat) : Int))):=by rw [hq1]
 have hd2 : Abs.D.one (Cell.r true (int (IntKind.i64.wrap (IntKind.i64.wrap (1 + (m : Int)) + (w : Int))))) = Abs.D.one (.r true (int ((1 + m + w : Nat) : Int))):=by rw [hq2]
 have hpV : ((rowsI D).drop 1).take (1 + m - 1) = rowsI ((D.drop 1).take m):=by rw [Zbv,show 1 + m - 1 = m by omega]
 have hpM : ((rowsI D).drop (1 + m)).take (1 + m + w - (1 + m)) = rowsI ((D.drop (1 + m)).take w):=by rw [Zbv,show 1 + m + w - (1 + m) = w by omega]
 have hbl : ((D.drop 1).take m).length ≤ 2000:=by simp; omega
 have hbm : ((D.drop (1 + m)).take w).length ≤ 2000:=by simp; omega
 rw [← hq2] at hc
 have hc0 : 0 ≤ IntKind.i64.wrap (IntKind.i64.wrap (1 + (m : Int)) + (w : Int)):=by rw [hq2]; omega
 have hnil : (D.drop 1).take m = []:=List.eq_nil_of_length_eq_zero (by rw [← Zb6 hv]; rfl)
 have KV:=Zdt nil r
 rw [← hnil,← hpV] at KV
 have KM:=f_readMsNoZ nil _ r hbm hm
 rw [← hpM] at KM
 unfold stT stH
 refine Zab (l:=[.cell 2 34,.tmp 3]) Tryz.func40 kRf rfl Tryz.ntmps40 rfl rfl ?_; simp only [dEnv,Nat.reduceAdd]
 repeat' (first|refine wk ?_|((first|refine' w_q rfl rfl ?xa rfl ?_|refine' v_q rfl rfl ?xa rfl ?_|refine' Zm rfl rfl (Zd rfl) rfl ?xa rfl ?_|refine' Zo rfl rfl (Zd rfl) rfl ?xa rfl ?_);case xa=>first|exact Z5 tbOk rfl rfl rfl rfl (by first|omega|exact hc0) (by first|exact hx|exact hx0|exact hx1|exact hx2|exact hc)|exact Zap (a:=1) (b:=1 + m) tbOk rfl rfl rfl ⟨_,Za rfl⟩ ⟨_,(Za rfl).trans hd1⟩ oM oM|exact Zap (a:=1 + m) (b:=1 + m + w) tbOk rfl rfl rfl ⟨_,(Za rfl).trans hd1⟩ ⟨_,(Za rfl).trans hd2⟩ oM oM|exact Zg KN rfl ⟨Zf (Za rfl),Zf (Za rfl),Zf (Za rfl),trivial⟩)|((first|refine' w_e rfl ?xa ?xb ?xc ?xe ?_|refine' v_e rfl ?xa ?xb ?xc ?xe ?_);(case xa=>first|exact Ze 43 rfl (Zh [(1000000000,8)] KV rfl ⟨Zi (Za rfl),asE,trivial⟩ sbH rfl)|exact Ze 54 rfl (Zh [(1000000000,8),(2000001,503)] KM rfl ⟨Zi (Za rfl),asE,trivial⟩ sbH rfl));(case xb|xc|xe=>rfl);try refine wkD ?_)|((first|refine' w_ey rfl rfl (Zd rfl) ?xa ?xb ?xc ?xe ?_|refine' v_ey rfl rfl (Zd rfl) ?xa ?xb ?xc ?xe ?_);(case xa=>first|exact Ze 43 rfl (Zh [(1000000000,8)] KV rfl ⟨Zi (Za rfl),asE,trivial⟩ sbH rfl)|exact Ze 54 rfl (Zh [(1000000000,8),(2000001,503)] KM rfl ⟨Zi (Za rfl),asE,trivial⟩ sbH rfl));(case xb|xc|xe=>rfl);try refine wkD ?_)|(refine wkB ?_ ?_<;>intro hg_<;>try exact wkX)|fail)
 all_goals first
  | exact Zx [] rfl sbH (Za3 (x:=(true,_)) (y:=(false,[_])) (Zay rfl rfl tyF0 rfl rfl rfl) rfl (Za2 rfl) rfl (Z9 (tups2 rfl rfl)))
  | (exfalso; omega)
theorem f_ckAtEndZZ (nil : Bool) (D : List (List Int)) (b c : List Int) (r : Int) (m w : Nat) (hl : D.length ≤ 2000) (hx : (rowsI D)[(0 : Int).toNat]? = some (rowP b)) (h0 : 0 < D.length) (h : nbF 1 3 b = (some [r,(m : Int),(w : Int)],true)) (hs : m + w + 2 ≤ D.length) (hc : (rowsI D)[((1 + m + w : Nat) : Int).toNat]? = some (rowP c)) (hv : rdAll rdV1 ((D.drop 1).take m) = some []) (hm : rdAll rdM1 ((D.drop (1 + m)).take w) = some []) (X : Option Sta) (hX0 : ((∀ ns,nbF 4 0 c ≠ (some ns,true)) ∨ Sta.ok ⟨r,[],[],[]⟩ = false) → X = none) (hX1 : (∃ ns,nbF 4 0 c = (some ns,true)) → Sta.ok ⟨r,[],[],[]⟩ = true → X = some ⟨r,[],[],[]⟩) :
  FnS Tryz.prog 40 [.one (.r false (row nil 1 (rowsI D)))] [] (stT X) (stH X):=by
 have hlen:=Zax D
 have KN:=Zbk false b 1 3 oM
 rw [h] at KN
 unfold nbRes at KN
 dsimp only at KN
 have hx0 : (ints [r,(m : Int),(w : Int)])[(0 : Int).toNat]? = some (iP r):=rfl
 have hx1 : (ints [r,(m : Int),(w : Int)])[(1 : Int).toNat]? = some (iP (m : Int)):=rfl
 have hx2 : (ints [r,(m : Int),(w : Int)])[(2 : Int).toNat]? = some (iP (w : Int)):=rfl
 have hli : (ints [r,(m : Int),(w : Int)]).length = 3:=rfl
 have hw1 : IntKind.i64.wrap (IntKind.i64.wrap ((m : Int) + (w : Int)) + 2) = (m : Int) + w + 2:=by rw [IntWalk.i64_in ((m : Int) + (w : Int)) oM,IntWalk.i64_in _ oM]
 have hq1 : IntKind.i64.wrap (1 + (m : Int)) = ((1 + m : Nat) : Int):=by rw [IntWalk.i64_in _ oM]; omega
 have hq2 : IntKind.i64.wrap (IntKind.i64.wrap (1 + (m : Int)) + (w : Int)) = ((1 + m + w : Nat) : Int):=by rw [hq1,IntWalk.i64_in _ oM]; omega
 have hd1 : Abs.D.one (Cell.r true (int (IntKind.i64.wrap (1 + (m : Int))))) = Abs.D.one (.r true (int ((1 + m : Nat) : Int))):=by rw [hq1]
 have hd2 : Abs.D.one (Cell.r true (int (IntKind.i64.wrap (IntKind.i64.wrap (1 + (m : Int)) + (w : Int))))) = Abs.D.one (.r true (int ((1 + m + w : Nat) : Int))):=by rw [hq2]
 have hpV : ((rowsI D).drop 1).take (1 + m - 1) = rowsI ((D.drop 1).take m):=by rw [Zbv,show 1 + m - 1 = m by omega]
 have hpM : ((rowsI D).drop (1 + m)).take (1 + m + w - (1 + m)) = rowsI ((D.drop (1 + m)).take w):=by rw [Zbv,show 1 + m + w - (1 + m) = w by omega]
 have hbl : ((D.drop 1).take m).length ≤ 2000:=by simp; omega
 have hbm : ((D.drop (1 + m)).take w).length ≤ 2000:=by simp; omega
 rw [← hq2] at hc
 have hc0 : 0 ≤ IntKind.i64.wrap (IntKind.i64.wrap (1 + (m : Int)) + (w : Int)):=by rw [hq2]; omega
 have hnil : (D.drop 1).take m = []:=List.eq_nil_of_length_eq_zero (by rw [← Zb6 hv]; rfl)
 have KV:=Zdt nil r
 rw [← hnil,← hpV] at KV
 have hnilM : (D.drop (1 + m)).take w = []:=List.eq_nil_of_length_eq_zero (by rw [← Zb6 hm]; rfl)
 have KM:=f_readMsNilZ nil r
 rw [← hnilM,← hpM] at KM
 have hMl : ([] : List E3).length ≤ 2000:=by simp
 have KE:=Zbk false c 4 0 oM
 have KO:=f_ownValid r true true true (⟨r,[],[],[]⟩ : Sta).vs (⟨r,[],[],[]⟩ : Sta).gs (⟨r,[],[],[]⟩ : Sta).ms (by simp only [maxLen,List.length_nil]; omega) (by simp only [maxLen,List.length_nil]; omega) (by simp only [maxLen]; omega)
 rw [show stOk (((⟨r,[],[],[]⟩ : Sta).vs.length : Nat) : Int) r (⟨r,[],[],[]⟩ : Sta).vs (⟨r,[],[],[]⟩ : Sta).gs.length (⟨r,[],[],[]⟩ : Sta).ms = Sta.ok ⟨r,[],[],[]⟩ from rfl] at KO
 dsimp only at KO
 generalize hok : Sta.ok ⟨r,[],[],[]⟩ = ok at *
 have hfall : (X = none) ∨ (X = some ⟨r,[],[],[]⟩ ∧ (∃ ns,nbF 4 0 c = (some ns,true) ∧ nbRes (nbF 4 0 c) = .tup [.one (row false 1 (ints ns)),.one (bool true)]) ∧ ok = true):=by
  rcases nbForm1 4 0 c with ⟨nn,ns,e1,e2⟩ | ⟨ns,e1,e2⟩
  ·exact .inl (hX0 (.inl e2))
  ·cases ok
   ·exact .inl (hX0 (.inr rfl))
   ·exact .inr ⟨hX1 ⟨ns,e1⟩ rfl,⟨ns,e1,e2⟩,rfl⟩
 rcases hfall with hX | ⟨hX,⟨ns,e1,e2⟩,rfl⟩
 ·have hno : X = none:=hX
  rw [hno]
  unfold stT stH
  rcases nbForm1 4 0 c with ⟨nn,ns,e1,e2⟩ | ⟨ns,e1,e2⟩
  ·rw [e1] at KE
   refine Zab (l:=[.cell 2 34,.tmp 3]) Tryz.func40 kRf rfl Tryz.ntmps40 rfl rfl ?_; simp only [dEnv,Nat.reduceAdd]
   repeat' (first|refine wk ?_|((first|refine' w_q rfl rfl ?xa rfl ?_|refine' v_q rfl rfl ?xa rfl ?_|refine' Zm rfl rfl (Zd rfl) rfl ?xa rfl ?_|refine' Zo rfl rfl (Zd rfl) rfl ?xa rfl ?_);case xa=>first|exact Z5 tbOk rfl rfl rfl rfl (by first|omega|exact hc0) (by first|exact hx|exact hx0|exact hx1|exact hx2|exact hc)|exact Zap (a:=1) (b:=1 + m) tbOk rfl rfl rfl ⟨_,Za rfl⟩ ⟨_,(Za rfl).trans hd1⟩ oM oM|exact Zap (a:=1 + m) (b:=1 + m + w) tbOk rfl rfl rfl ⟨_,(Za rfl).trans hd1⟩ ⟨_,(Za rfl).trans hd2⟩ oM oM|exact Zg KN rfl ⟨Zf (Za rfl),Zf (Za rfl),Zf (Za rfl),trivial⟩|exact Zg KE rfl ⟨Zf (Za rfl),Zf (Za rfl),Zf (Za rfl),trivial⟩|exact Zg KO rfl ⟨Zj (Za rfl) ⟨Zb,Zar,Zar,Zar,trivial⟩,trivial⟩)|((first|refine' w_e rfl ?xa ?xb ?xc ?xe ?_|refine' v_e rfl ?xa ?xb ?xc ?xe ?_);(case xa=>first|exact Ze 43 rfl (Zh [(1000000000,8)] KV rfl ⟨Zi (Za rfl),asE,trivial⟩ sbH rfl)|exact Ze 54 rfl (Zh [(1000000000,8),(2000001,503)] KM rfl ⟨Zi (Za rfl),asE,trivial⟩ sbH rfl));(case xb|xc|xe=>rfl);try refine wkD ?_)|((first|refine' w_ey rfl rfl (Zd rfl) ?xa ?xb ?xc ?xe ?_|refine' v_ey rfl rfl (Zd rfl) ?xa ?xb ?xc ?xe ?_);(case xa=>first|exact Ze 43 rfl (Zh [(1000000000,8)] KV rfl ⟨Zi (Za rfl),asE,trivial⟩ sbH rfl)|exact Ze 54 rfl (Zh [(1000000000,8),(2000001,503)] KM rfl ⟨Zi (Za rfl),asE,trivial⟩ sbH rfl));(case xb|xc|xe=>rfl);try refine wkD ?_)|(refine wkB ?_ ?_<;>intro hg_<;>try exact wkX)|fail)
   all_goals first
  | exact Zx [] rfl sbH (Za3 (x:=(true,_)) (y:=(false,[_])) (Zay rfl rfl tyF0 rfl rfl rfl) rfl (Za2 rfl) rfl (Z9 (tups2 rfl rfl)))
  | (exfalso; omega)
  ·have hok0 : ok = false:=by
    cases ok
    ·rfl
    ·have:=hX1 ⟨ns,e1⟩ rfl
     rw [hno] at this; cases this
   subst hok0
   rw [e2] at KE
   refine Zab (l:=[.cell 2 34,.tmp 3]) Tryz.func40 kRf rfl Tryz.ntmps40 rfl rfl ?_; simp only [dEnv,Nat.reduceAdd]
   repeat' (first|refine wk ?_|((first|refine' w_q rfl rfl ?xa rfl ?_|refine' v_q rfl rfl ?xa rfl ?_|refine' Zm rfl rfl (Zd rfl) rfl ?xa rfl ?_|refine' Zo rfl rfl (Zd rfl) rfl ?xa rfl ?_);case xa=>first|exact Z5 tbOk rfl rfl rfl rfl (by first|omega|exact hc0) (by first|exact hx|exact hx0|exact hx1|exact hx2|exact hc)|exact Zap (a:=1) (b:=1 + m) tbOk rfl rfl rfl ⟨_,Za rfl⟩ ⟨_,(Za rfl).trans hd1⟩ oM oM|exact Zap (a:=1 + m) (b:=1 + m + w) tbOk rfl rfl rfl ⟨_,(Za rfl).trans hd1⟩ ⟨_,(Za rfl).trans hd2⟩ oM oM|exact Zg KN rfl ⟨Zf (Za rfl),Zf (Za rfl),Zf (Za rfl),trivial⟩|exact Zg KE rfl ⟨Zf (Za rfl),Zf (Za rfl),Zf (Za rfl),trivial⟩|exact Zg KO rfl ⟨Zj (Za rfl) ⟨Zb,Zar,Zar,Zar,trivial⟩,trivial⟩)|((first|refine' w_e rfl ?xa ?xb ?xc ?xe ?_|refine' v_e rfl ?xa ?xb ?xc ?xe ?_);(case xa=>first|exact Ze 43 rfl (Zh [(1000000000,8)] KV rfl ⟨Zi (Za rfl),asE,trivial⟩ sbH rfl)|exact Ze 54 rfl (Zh [(1000000000,8),(2000001,503)] KM rfl ⟨Zi (Za rfl),asE,trivial⟩ sbH rfl));(case xb|xc|xe=>rfl);try refine wkD ?_)|((first|refine' w_ey rfl rfl (Zd rfl) ?xa ?xb ?xc ?xe ?_|refine' v_ey rfl rfl (Zd rfl) ?xa ?xb ?xc ?xe ?_);(case xa=>first|exact Ze 43 rfl (Zh [(1000000000,8)] KV rfl ⟨Zi (Za rfl),asE,trivial⟩ sbH rfl)|exact Ze 54 rfl (Zh [(1000000000,8),(2000001,503)] KM rfl ⟨Zi (Za rfl),asE,trivial⟩ sbH rfl));(case xb|xc|xe=>rfl);try refine wkD ?_)|(refine wkB ?_ ?_<;>intro hg_<;>try exact wkX)|fail)
   all_goals first
  | exact Zx [] rfl sbH (Za3 (x:=(true,_)) (y:=(false,[_])) (Zay rfl rfl tyF0 rfl rfl rfl) rfl (Za2 rfl) rfl (Z9 (tups2 rfl rfl)))
  | (exfalso; omega)
 ·rw [e2] at KE
  have hT : stT X = .tups [(true,[.r true (int r),Zc,Zc,Zc]),(false,[.r true (bool true)])]:=by rw [hX]; rfl
  have hH : stH X = []:=by rw [hX]; rfl
  rw [hT,hH]
  refine Zab (l:=[.cell 2 34,.tmp 3]) Tryz.func40 kRf rfl Tryz.ntmps40 rfl rfl ?_; simp only [dEnv,Nat.reduceAdd]
  repeat' (first|refine wk ?_|((first|refine' w_q rfl rfl ?xa rfl ?_|refine' v_q rfl rfl ?xa rfl ?_|refine' Zm rfl rfl (Zd rfl) rfl ?xa rfl ?_|refine' Zo rfl rfl (Zd rfl) rfl ?xa rfl ?_);case xa=>first|exact Z5 tbOk rfl rfl rfl rfl (by first|omega|exact hc0) (by first|exact hx|exact hx0|exact hx1|exact hx2|exact hc)|exact Zap (a:=1) (b:=1 + m) tbOk rfl rfl rfl ⟨_,Za rfl⟩ ⟨_,(Za rfl).trans hd1⟩ oM oM|exact Zap (a:=1 + m) (b:=1 + m + w) tbOk rfl rfl rfl ⟨_,(Za rfl).trans hd1⟩ ⟨_,(Za rfl).trans hd2⟩ oM oM|exact Zg KN rfl ⟨Zf (Za rfl),Zf (Za rfl),Zf (Za rfl),trivial⟩|exact Zg KE rfl ⟨Zf (Za rfl),Zf (Za rfl),Zf (Za rfl),trivial⟩|exact Zg KO rfl ⟨Zj (Za rfl) ⟨Zb,Zar,Zar,Zar,trivial⟩,trivial⟩)|((first|refine' w_e rfl ?xa ?xb ?xc ?xe ?_|refine' v_e rfl ?xa ?xb ?xc ?xe ?_);(case xa=>first|exact Ze 43 rfl (Zh [(1000000000,8)] KV rfl ⟨Zi (Za rfl),asE,trivial⟩ sbH rfl)|exact Ze 54 rfl (Zh [(1000000000,8),(2000001,503)] KM rfl ⟨Zi (Za rfl),asE,trivial⟩ sbH rfl));(case xb|xc|xe=>rfl);try refine wkD ?_)|((first|refine' w_ey rfl rfl (Zd rfl) ?xa ?xb ?xc ?xe ?_|refine' v_ey rfl rfl (Zd rfl) ?xa ?xb ?xc ?xe ?_);(case xa=>first|exact Ze 43 rfl (Zh [(1000000000,8)] KV rfl ⟨Zi (Za rfl),asE,trivial⟩ sbH rfl)|exact Ze 54 rfl (Zh [(1000000000,8),(2000001,503)] KM rfl ⟨Zi (Za rfl),asE,trivial⟩ sbH rfl));(case xb|xc|xe=>rfl);try refine wkD ?_)|(refine wkB ?_ ?_<;>intro hg_<;>try exact wkX)|fail)
  all_goals first
  | exact Zx [(2000001,501),(2000002,502),(2000003,503)] rfl sbH (Za3 (x:=(true,_)) (y:=(false,[_])) (Zay rfl rfl tyF0 rfl rfl rfl) rfl (Za2 rfl) rfl (Z9 (tups2 rfl rfl)))
  | (exfalso; omega)
theorem f_ckAtEndZO (nil : Bool) (D : List (List Int)) (b c : List Int) (r : Int) (m w : Nat) (hl : D.length ≤ 2000) (hx : (rowsI D)[(0 : Int).toNat]? = some (rowP b)) (h0 : 0 < D.length) (h : nbF 1 3 b = (some [r,(m : Int),(w : Int)],true)) (hs : m + w + 2 ≤ D.length) (hc : (rowsI D)[((1 + m + w : Nat) : Int).toNat]? = some (rowP c)) (hv : rdAll rdV1 ((D.drop 1).take m) = some []) (M : List E3) (hm : rdAll rdM1 ((D.drop (1 + m)).take w) = some M) (hMn : M ≠ []) (X : Option Sta) (hX0 : ((∀ ns,nbF 4 0 c ≠ (some ns,true)) ∨ Sta.ok ⟨r,[],[],M⟩ = false) → X = none) (hX1 : (∃ ns,nbF 4 0 c = (some ns,true)) → Sta.ok ⟨r,[],[],M⟩ = true → X = some ⟨r,[],[],M⟩) :
  FnS Tryz.prog 40 [.one (.r false (row nil 1 (rowsI D)))] [] (stT X) (stH X):=by
 have hlen:=Zax D
 have KN:=Zbk false b 1 3 oM
 rw [h] at KN
 unfold nbRes at KN
 dsimp only at KN
 have hx0 : (ints [r,(m : Int),(w : Int)])[(0 : Int).toNat]? = some (iP r):=rfl
 have hx1 : (ints [r,(m : Int),(w : Int)])[(1 : Int).toNat]? = some (iP (m : Int)):=rfl
 have hx2 : (ints [r,(m : Int),(w : Int)])[(2 : Int).toNat]? = some (iP (w : Int)):=rfl
 have hli : (ints [r,(m : Int),(w : Int)]).length = 3:=rfl
 have hw1 : IntKind.i64.wrap (IntKind.i64.wrap ((m : Int) + (w : Int)) + 2) = (m : Int) + w + 2:=by rw [IntWalk.i64_in ((m : Int) + (w : Int)) oM,IntWalk.i64_in _ oM]
 have hq1 : IntKind.i64.wrap (1 + (m : Int)) = ((1 + m : Nat) : Int):=by rw [IntWalk.i64_in _ oM]; omega
 have hq2 : IntKind.i64.wrap (IntKind.i64.wrap (1 + (m : Int)) + (w : Int)) = ((1 + m + w : Nat) : Int):=by rw [hq1,IntWalk.i64_in _ oM]; omega
 have hd1 : Abs.D.one (Cell.r true (int (IntKind.i64.wrap (1 + (m : Int))))) = Abs.D.one (.r true (int ((1 + m : Nat) : Int))):=by rw [hq1]
 have hd2 : Abs.D.one (Cell.r true (int (IntKind.i64.wrap (IntKind.i64.wrap (1 + (m : Int)) + (w : Int))))) = Abs.D.one (.r true (int ((1 + m + w : Nat) : Int))):=by rw [hq2]
 have hpV : ((rowsI D).drop 1).take (1 + m - 1) = rowsI ((D.drop 1).take m):=by rw [Zbv,show 1 + m - 1 = m by omega]
 have hpM : ((rowsI D).drop (1 + m)).take (1 + m + w - (1 + m)) = rowsI ((D.drop (1 + m)).take w):=by rw [Zbv,show 1 + m + w - (1 + m) = w by omega]
 have hbl : ((D.drop 1).take m).length ≤ 2000:=by simp; omega
 have hbm : ((D.drop (1 + m)).take w).length ≤ 2000:=by simp; omega
 rw [← hq2] at hc
 have hc0 : 0 ≤ IntKind.i64.wrap (IntKind.i64.wrap (1 + (m : Int)) + (w : Int)):=by rw [hq2]; omega
 have hnil : (D.drop 1).take m = []:=List.eq_nil_of_length_eq_zero (by rw [← Zb6 hv]; rfl)
 have KV:=Zdt nil r
 rw [← hnil,← hpV] at KV
 have KM:=f_readMsYesZ nil _ r hbm M hm hMn
 rw [← hpM] at KM
 have hMe : M.isEmpty = false:=by cases M with | nil=>exact absurd rfl hMn | cons x y=>rfl
 have hMl : M.length ≤ 2000:=by rw [Zb6 hm]; exact hbm
 have hmi:=(Zq M).symm
 have KE:=Zbk false c 4 0 oM
 have KO:=f_ownValid r true true false (⟨r,[],[],M⟩ : Sta).vs (⟨r,[],[],M⟩ : Sta).gs (⟨r,[],[],M⟩ : Sta).ms (by simp only [maxLen,List.length_nil]; omega) (by simp only [maxLen,List.length_nil]; omega) (by simp only [maxLen]; omega)
 rw [show stOk (((⟨r,[],[],M⟩ : Sta).vs.length : Nat) : Int) r (⟨r,[],[],M⟩ : Sta).vs (⟨r,[],[],M⟩ : Sta).gs.length (⟨r,[],[],M⟩ : Sta).ms = Sta.ok ⟨r,[],[],M⟩ from rfl] at KO
 dsimp only at KO
 generalize hok : Sta.ok ⟨r,[],[],M⟩ = ok at *
 have hfall : (X = none) ∨ (X = some ⟨r,[],[],M⟩ ∧ (∃ ns,nbF 4 0 c = (some ns,true) ∧ nbRes (nbF 4 0 c) = .tup [.one (row false 1 (ints ns)),.one (bool true)]) ∧ ok = true):=by
  rcases nbForm1 4 0 c with ⟨nn,ns,e1,e2⟩ | ⟨ns,e1,e2⟩
  ·exact .inl (hX0 (.inl e2))
  ·cases ok
   ·exact .inl (hX0 (.inr rfl))
   ·exact .inr ⟨hX1 ⟨ns,e1⟩ rfl,⟨ns,e1,e2⟩,rfl⟩
 rcases hfall with hX | ⟨hX,⟨ns,e1,e2⟩,rfl⟩
 ·have hno : X = none:=hX
  rw [hno]
  unfold stT stH
  rcases nbForm1 4 0 c with ⟨nn,ns,e1,e2⟩ | ⟨ns,e1,e2⟩
  ·rw [e1] at KE
   refine Zab (l:=[.cell 2 34,.tmp 3]) Tryz.func40 kRf rfl Tryz.ntmps40 rfl rfl ?_; simp only [dEnv,Nat.reduceAdd]
   repeat' (first|refine wk ?_|((first|refine' w_q rfl rfl ?xa rfl ?_|refine' v_q rfl rfl ?xa rfl ?_|refine' Zm rfl rfl (Zd rfl) rfl ?xa rfl ?_|refine' Zo rfl rfl (Zd rfl) rfl ?xa rfl ?_);case xa=>first|exact Z5 tbOk rfl rfl rfl rfl (by first|omega|exact hc0) (by first|exact hx|exact hx0|exact hx1|exact hx2|exact hc)|exact Zap (a:=1) (b:=1 + m) tbOk rfl rfl rfl ⟨_,Za rfl⟩ ⟨_,(Za rfl).trans hd1⟩ oM oM|exact Zap (a:=1 + m) (b:=1 + m + w) tbOk rfl rfl rfl ⟨_,(Za rfl).trans hd1⟩ ⟨_,(Za rfl).trans hd2⟩ oM oM|exact Zg KN rfl ⟨Zf (Za rfl),Zf (Za rfl),Zf (Za rfl),trivial⟩|exact Zg KE rfl ⟨Zf (Za rfl),Zf (Za rfl),Zf (Za rfl),trivial⟩|exact Zg KO rfl ⟨Zj (Za rfl) ⟨Zb,Zar,Zar,Zah (Zk rfl) hmi,trivial⟩,trivial⟩)|((first|refine' w_e rfl ?xa ?xb ?xc ?xe ?_|refine' v_e rfl ?xa ?xb ?xc ?xe ?_);(case xa=>first|exact Ze 43 rfl (Zh [(1000000000,8)] KV rfl ⟨Zi (Za rfl),asE,trivial⟩ sbH rfl)|exact Ze 54 rfl (Zh [(1000000000,8),(2000001,503)] KM rfl ⟨Zi (Za rfl),asE,trivial⟩ sbH rfl));(case xb|xc|xe=>rfl);try refine wkD ?_)|((first|refine' w_ey rfl rfl (Zd rfl) ?xa ?xb ?xc ?xe ?_|refine' v_ey rfl rfl (Zd rfl) ?xa ?xb ?xc ?xe ?_);(case xa=>first|exact Ze 43 rfl (Zh [(1000000000,8)] KV rfl ⟨Zi (Za rfl),asE,trivial⟩ sbH rfl)|exact Ze 54 rfl (Zh [(1000000000,8),(2000001,503)] KM rfl ⟨Zi (Za rfl),asE,trivial⟩ sbH rfl));(case xb|xc|xe=>rfl);try refine wkD ?_)|(refine wkB ?_ ?_<;>intro hg_<;>try exact wkX)|fail)
   all_goals first
  | exact Zx [] rfl sbH (Za3 (x:=(true,_)) (y:=(false,[_])) (Zay rfl rfl tyF0 rfl rfl rfl) rfl (Za2 rfl) rfl (Z9 (tups2 rfl rfl)))
  | (exfalso; omega)
  ·have hok0 : ok = false:=by
    cases ok
    ·rfl
    ·have:=hX1 ⟨ns,e1⟩ rfl
     rw [hno] at this; cases this
   subst hok0
   rw [e2] at KE
   refine Zab (l:=[.cell 2 34,.tmp 3]) Tryz.func40 kRf rfl Tryz.ntmps40 rfl rfl ?_; simp only [dEnv,Nat.reduceAdd]
   repeat' (first|refine wk ?_|((first|refine' w_q rfl rfl ?xa rfl ?_|refine' v_q rfl rfl ?xa rfl ?_|refine' Zm rfl rfl (Zd rfl) rfl ?xa rfl ?_|refine' Zo rfl rfl (Zd rfl) rfl ?xa rfl ?_);case xa=>first|exact Z5 tbOk rfl rfl rfl rfl (by first|omega|exact hc0) (by first|exact hx|exact hx0|exact hx1|exact hx2|exact hc)|exact Zap (a:=1) (b:=1 + m) tbOk rfl rfl rfl ⟨_,Za rfl⟩ ⟨_,(Za rfl).trans hd1⟩ oM oM|exact Zap (a:=1 + m) (b:=1 + m + w) tbOk rfl rfl rfl ⟨_,(Za rfl).trans hd1⟩ ⟨_,(Za rfl).trans hd2⟩ oM oM|exact Zg KN rfl ⟨Zf (Za rfl),Zf (Za rfl),Zf (Za rfl),trivial⟩|exact Zg KE rfl ⟨Zf (Za rfl),Zf (Za rfl),Zf (Za rfl),trivial⟩|exact Zg KO rfl ⟨Zj (Za rfl) ⟨Zb,Zar,Zar,Zah (Zk rfl) hmi,trivial⟩,trivial⟩)|((first|refine' w_e rfl ?xa ?xb ?xc ?xe ?_|refine' v_e rfl ?xa ?xb ?xc ?xe ?_);(case xa=>first|exact Ze 43 rfl (Zh [(1000000000,8)] KV rfl ⟨Zi (Za rfl),asE,trivial⟩ sbH rfl)|exact Ze 54 rfl (Zh [(1000000000,8),(2000001,503)] KM rfl ⟨Zi (Za rfl),asE,trivial⟩ sbH rfl));(case xb|xc|xe=>rfl);try refine wkD ?_)|((first|refine' w_ey rfl rfl (Zd rfl) ?xa ?xb ?xc ?xe ?_|refine' v_ey rfl rfl (Zd rfl) ?xa ?xb ?xc ?xe ?_);(case xa=>first|exact Ze 43 rfl (Zh [(1000000000,8)] KV rfl ⟨Zi (Za rfl),asE,trivial⟩ sbH rfl)|exact Ze 54 rfl (Zh [(1000000000,8),(2000001,503)] KM rfl ⟨Zi (Za rfl),asE,trivial⟩ sbH rfl));(case xb|xc|xe=>rfl);try refine wkD ?_)|(refine wkB ?_ ?_<;>intro hg_<;>try exact wkX)|fail)
   all_goals first
  | exact Zx [] rfl sbH (Za3 (x:=(true,_)) (y:=(false,[_])) (Zay rfl rfl tyF0 rfl rfl rfl) rfl (Za2 rfl) rfl (Z9 (tups2 rfl rfl)))
  | (exfalso; omega)
 ·rw [e2] at KE
  have hT : stT X = .tups [(true,[.r true (int r),Zc,Zc,.own 2000003 0 M.length 3]),(false,[.r true (bool true)])]:=by rw [hX]; simp only [stT,rowC,hMe]; rfl
  have hH : stH X = [(2000003,.sl 87 3 true (edges M))]:=by rw [hX]; simp only [stH,hMe]; rfl
  rw [hT,hH]
  refine Zab (l:=[.cell 2 34,.tmp 3]) Tryz.func40 kRf rfl Tryz.ntmps40 rfl rfl ?_; simp only [dEnv,Nat.reduceAdd]
  repeat' (first|refine wk ?_|((first|refine' w_q rfl rfl ?xa rfl ?_|refine' v_q rfl rfl ?xa rfl ?_|refine' Zm rfl rfl (Zd rfl) rfl ?xa rfl ?_|refine' Zo rfl rfl (Zd rfl) rfl ?xa rfl ?_);case xa=>first|exact Z5 tbOk rfl rfl rfl rfl (by first|omega|exact hc0) (by first|exact hx|exact hx0|exact hx1|exact hx2|exact hc)|exact Zap (a:=1) (b:=1 + m) tbOk rfl rfl rfl ⟨_,Za rfl⟩ ⟨_,(Za rfl).trans hd1⟩ oM oM|exact Zap (a:=1 + m) (b:=1 + m + w) tbOk rfl rfl rfl ⟨_,(Za rfl).trans hd1⟩ ⟨_,(Za rfl).trans hd2⟩ oM oM|exact Zg KN rfl ⟨Zf (Za rfl),Zf (Za rfl),Zf (Za rfl),trivial⟩|exact Zg KE rfl ⟨Zf (Za rfl),Zf (Za rfl),Zf (Za rfl),trivial⟩|exact Zg KO rfl ⟨Zj (Za rfl) ⟨Zb,Zar,Zar,Zah (Zk rfl) hmi,trivial⟩,trivial⟩)|((first|refine' w_e rfl ?xa ?xb ?xc ?xe ?_|refine' v_e rfl ?xa ?xb ?xc ?xe ?_);(case xa=>first|exact Ze 43 rfl (Zh [(1000000000,8)] KV rfl ⟨Zi (Za rfl),asE,trivial⟩ sbH rfl)|exact Ze 54 rfl (Zh [(1000000000,8),(2000001,503)] KM rfl ⟨Zi (Za rfl),asE,trivial⟩ sbH rfl));(case xb|xc|xe=>rfl);try refine wkD ?_)|((first|refine' w_ey rfl rfl (Zd rfl) ?xa ?xb ?xc ?xe ?_|refine' v_ey rfl rfl (Zd rfl) ?xa ?xb ?xc ?xe ?_);(case xa=>first|exact Ze 43 rfl (Zh [(1000000000,8)] KV rfl ⟨Zi (Za rfl),asE,trivial⟩ sbH rfl)|exact Ze 54 rfl (Zh [(1000000000,8),(2000001,503)] KM rfl ⟨Zi (Za rfl),asE,trivial⟩ sbH rfl));(case xb|xc|xe=>rfl);try refine wkD ?_)|(refine wkB ?_ ?_<;>intro hg_<;>try exact wkX)|fail)
  all_goals first
  | exact Zx [(2000001,501),(2000002,502),(2000003,503)] rfl sbH (Za3 (x:=(true,_)) (y:=(false,[_])) (Zay rfl rfl tyF0 rfl rfl rfl) rfl (Za2 rfl) rfl (Z9 (tups2 rfl rfl)))
  | (exfalso; omega)
theorem f_ckAtMsgsO (nil : Bool) (D : List (List Int)) (b c : List Int) (r : Int) (m w : Nat) (hl : D.length ≤ 2000) (hx : (rowsI D)[(0 : Int).toNat]? = some (rowP b)) (h0 : 0 < D.length) (h : nbF 1 3 b = (some [r,(m : Int),(w : Int)],true)) (hs : m + w + 2 ≤ D.length) (hc : (rowsI D)[((1 + m + w : Nat) : Int).toNat]? = some (rowP c)) (L : List (Int × Bool)) (hv : rdAll rdV1 ((D.drop 1).take m) = some L) (hLn : L ≠ []) (hm : rdAll rdM1 ((D.drop (1 + m)).take w) = none) :
  FnS Tryz.prog 40 [.one (.r false (row nil 1 (rowsI D)))] [] (stT none) (stH none):=by
 have hlen:=Zax D
 have KN:=Zbk false b 1 3 oM
 rw [h] at KN
 unfold nbRes at KN
 dsimp only at KN
 have hx0 : (ints [r,(m : Int),(w : Int)])[(0 : Int).toNat]? = some (iP r):=rfl
 have hx1 : (ints [r,(m : Int),(w : Int)])[(1 : Int).toNat]? = some (iP (m : Int)):=rfl
 have hx2 : (ints [r,(m : Int),(w : Int)])[(2 : Int).toNat]? = some (iP (w : Int)):=rfl
 have hli : (ints [r,(m : Int),(w : Int)]).length = 3:=rfl
 have hw1 : IntKind.i64.wrap (IntKind.i64.wrap ((m : Int) + (w : Int)) + 2) = (m : Int) + w + 2:=by rw [IntWalk.i64_in ((m : Int) + (w : Int)) oM,IntWalk.i64_in _ oM]
 have hq1 : IntKind.i64.wrap (1 + (m : Int)) = ((1 + m : Nat) : Int):=by rw [IntWalk.i64_in _ oM]; omega
 have hq2 : IntKind.i64.wrap (IntKind.i64.wrap (1 + (m : Int)) + (w : Int)) = ((1 + m + w : Nat) : Int):=by rw [hq1,IntWalk.i64_in _ oM]; omega
 have hd1 : Abs.D.one (Cell.r true (int (IntKind.i64.wrap (1 + (m : Int))))) = Abs.D.one (.r true (int ((1 + m : Nat) : Int))):=by rw [hq1]
 have hd2 : Abs.D.one (Cell.r true (int (IntKind.i64.wrap (IntKind.i64.wrap (1 + (m : Int)) + (w : Int))))) = Abs.D.one (.r true (int ((1 + m + w : Nat) : Int))):=by rw [hq2]
 have hpV : ((rowsI D).drop 1).take (1 + m - 1) = rowsI ((D.drop 1).take m):=by rw [Zbv,show 1 + m - 1 = m by omega]
 have hpM : ((rowsI D).drop (1 + m)).take (1 + m + w - (1 + m)) = rowsI ((D.drop (1 + m)).take w):=by rw [Zbv,show 1 + m + w - (1 + m) = w by omega]
 have hbl : ((D.drop 1).take m).length ≤ 2000:=by simp; omega
 have hbm : ((D.drop (1 + m)).take w).length ≤ 2000:=by simp; omega
 rw [← hq2] at hc
 have hc0 : 0 ≤ IntKind.i64.wrap (IntKind.i64.wrap (1 + (m : Int)) + (w : Int)):=by rw [hq2]; omega
 have KV:=Zdu nil _ r hbl L hv hLn
 rw [← hpV] at KV
 have KM:=f_readMsNoO nil _ r (vsOf L) (gsOf L) hbm hm
 rw [← hpM,Zbw,Zbz] at KM
 unfold stT stH
 refine Zab (l:=[.cell 2 34,.tmp 3]) Tryz.func40 kRf rfl Tryz.ntmps40 rfl rfl ?_; simp only [dEnv,Nat.reduceAdd]
 repeat' (first|refine wk ?_|((first|refine' w_q rfl rfl ?xa rfl ?_|refine' v_q rfl rfl ?xa rfl ?_|refine' Zm rfl rfl (Zd rfl) rfl ?xa rfl ?_|refine' Zo rfl rfl (Zd rfl) rfl ?xa rfl ?_);case xa=>first|exact Z5 tbOk rfl rfl rfl rfl (by first|omega|exact hc0) (by first|exact hx|exact hx0|exact hx1|exact hx2|exact hc)|exact Zap (a:=1) (b:=1 + m) tbOk rfl rfl rfl ⟨_,Za rfl⟩ ⟨_,(Za rfl).trans hd1⟩ oM oM|exact Zap (a:=1 + m) (b:=1 + m + w) tbOk rfl rfl rfl ⟨_,(Za rfl).trans hd1⟩ ⟨_,(Za rfl).trans hd2⟩ oM oM|exact Zg KN rfl ⟨Zf (Za rfl),Zf (Za rfl),Zf (Za rfl),trivial⟩)|((first|refine' w_e rfl ?xa ?xb ?xc ?xe ?_|refine' v_e rfl ?xa ?xb ?xc ?xe ?_);(case xa=>first|exact Ze 43 rfl (Zh [(1000000000,8),(2000001,501),(2000002,502)] KV rfl ⟨Zi (Za rfl),asE,trivial⟩ sbH rfl)|exact Ze 54 rfl (Zh [(1000000000,8),(1000000001,501),(1000000002,502),(2000001,503)] KM rfl ⟨Zi (Za rfl),asE,trivial⟩ sbH rfl));(case xb|xc|xe=>rfl);try refine wkD ?_)|((first|refine' w_ey rfl rfl (Zd rfl) ?xa ?xb ?xc ?xe ?_|refine' v_ey rfl rfl (Zd rfl) ?xa ?xb ?xc ?xe ?_);(case xa=>first|exact Ze 43 rfl (Zh [(1000000000,8),(2000001,501),(2000002,502)] KV rfl ⟨Zi (Za rfl),asE,trivial⟩ sbH rfl)|exact Ze 54 rfl (Zh [(1000000000,8),(1000000001,501),(1000000002,502),(2000001,503)] KM rfl ⟨Zi (Za rfl),asE,trivial⟩ sbH rfl));(case xb|xc|xe=>rfl);try refine wkD ?_)|(refine wkB ?_ ?_<;>intro hg_<;>try exact wkX)|fail)
 all_goals first
  | exact Zx [] rfl sbH (Za3 (x:=(true,_)) (y:=(false,[_])) (Zay rfl rfl tyF0 rfl rfl rfl) rfl (Za2 rfl) rfl (Z9 (tups2 rfl rfl)))
  | (exfalso; omega)
theorem f_ckAtEndOZ (nil : Bool) (D : List (List Int)) (b c : List Int) (r : Int) (m w : Nat) (hl : D.length ≤ 2000) (hx : (rowsI D)[(0 : Int).toNat]? = some (rowP b)) (h0 : 0 < D.length) (h : nbF 1 3 b = (some [r,(m : Int),(w : Int)],true)) (hs : m + w + 2 ≤ D.length) (hc : (rowsI D)[((1 + m + w : Nat) : Int).toNat]? = some (rowP c)) (L : List (Int × Bool)) (hv : rdAll rdV1 ((D.drop 1).take m) = some L) (hLn : L ≠ []) (hm : rdAll rdM1 ((D.drop (1 + m)).take w) = some []) (X : Option Sta) (hX0 : ((∀ ns,nbF 4 0 c ≠ (some ns,true)) ∨ Sta.ok ⟨r,vsOf L,gsOf L,[]⟩ = false) → X = none) (hX1 : (∃ ns,nbF 4 0 c = (some ns,true)) → Sta.ok ⟨r,vsOf L,gsOf L,[]⟩ = true → X = some ⟨r,vsOf L,gsOf L,[]⟩) :
  FnS Tryz.prog 40 [.one (.r false (row nil 1 (rowsI D)))] [] (stT X) (stH X):=by
 have hlen:=Zax D
 have KN:=Zbk false b 1 3 oM
 rw [h] at KN
 unfold nbRes at KN
 dsimp only at KN
 have hx0 : (ints [r,(m : Int),(w : Int)])[(0 : Int).toNat]? = some (iP r):=rfl
 have hx1 : (ints [r,(m : Int),(w : Int)])[(1 : Int).toNat]? = some (iP (m : Int)):=rfl
 have hx2 : (ints [r,(m : Int),(w : Int)])[(2 : Int).toNat]? = some (iP (w : Int)):=rfl
 have hli : (ints [r,(m : Int),(w : Int)]).length = 3:=rfl
 have hw1 : IntKind.i64.wrap (IntKind.i64.wrap ((m : Int) + (w : Int)) + 2) = (m : Int) + w + 2:=by rw [IntWalk.i64_in ((m : Int) + (w : Int)) oM,IntWalk.i64_in _ oM]
 have hq1 : IntKind.i64.wrap (1 + (m : Int)) = ((1 + m : Nat) : Int):=by rw [IntWalk.i64_in _ oM]; omega
 have hq2 : IntKind.i64.wrap (IntKind.i64.wrap (1 + (m : Int)) + (w : Int)) = ((1 + m + w : Nat) : Int):=by rw [hq1,IntWalk.i64_in _ oM]; omega
 have hd1 : Abs.D.one (Cell.r true (int (IntKind.i64.wrap (1 + (m : Int))))) = Abs.D.one (.r true (int ((1 + m : Nat) : Int))):=by rw [hq1]
 have hd2 : Abs.D.one (Cell.r true (int (IntKind.i64.wrap (IntKind.i64.wrap (1 + (m : Int)) + (w : Int))))) = Abs.D.one (.r true (int ((1 + m + w : Nat) : Int))):=by rw [hq2]
 have hpV : ((rowsI D).drop 1).take (1 + m - 1) = rowsI ((D.drop 1).take m):=by rw [Zbv,show 1 + m - 1 = m by omega]
 have hpM : ((rowsI D).drop (1 + m)).take (1 + m + w - (1 + m)) = rowsI ((D.drop (1 + m)).take w):=by rw [Zbv,show 1 + m + w - (1 + m) = w by omega]
 have hbl : ((D.drop 1).take m).length ≤ 2000:=by simp; omega
 have hbm : ((D.drop (1 + m)).take w).length ≤ 2000:=by simp; omega
 rw [← hq2] at hc
 have hc0 : 0 ≤ IntKind.i64.wrap (IntKind.i64.wrap (1 + (m : Int)) + (w : Int)):=by rw [hq2]; omega
 have KV:=Zdu nil _ r hbl L hv hLn
 rw [← hpV] at KV
 have hnilM : (D.drop (1 + m)).take w = []:=List.eq_nil_of_length_eq_zero (by rw [← Zb6 hm]; rfl)
 have KM:=f_readMsNilO nil r (vsOf L) (gsOf L)
 rw [← hnilM,← hpM,Zbw,Zbz] at KM
 have hLe : (vsOf L).isEmpty = false:=by cases L with | nil=>exact absurd rfl hLn | cons x y=>rfl
 have hLl : L.length ≤ 2000:=by rw [Zb6 hv]; exact hbl
 have hvi : L.length = (ints (vsOf L)).length:=by rw [Zr,Zbw]
 have hgi : L.length = (bools (gsOf L)).length:=by rw [Zag,Zbz]
 have hMl : ([] : List E3).length ≤ 2000:=by simp
 have KE:=Zbk false c 4 0 oM
 have KO:=f_ownValid r false false true (⟨r,vsOf L,gsOf L,[]⟩ : Sta).vs (⟨r,vsOf L,gsOf L,[]⟩ : Sta).gs (⟨r,vsOf L,gsOf L,[]⟩ : Sta).ms (by simp only [maxLen,Zbw]; omega) (by simp only [maxLen,Zbz]; omega) (by simp only [maxLen]; omega)
 rw [show stOk (((⟨r,vsOf L,gsOf L,[]⟩ : Sta).vs.length : Nat) : Int) r (⟨r,vsOf L,gsOf L,[]⟩ : Sta).vs (⟨r,vsOf L,gsOf L,[]⟩ : Sta).gs.length (⟨r,vsOf L,gsOf L,[]⟩ : Sta).ms = Sta.ok ⟨r,vsOf L,gsOf L,[]⟩ from rfl] at KO
 dsimp only at KO
 generalize hok : Sta.ok ⟨r,vsOf L,gsOf L,[]⟩ = ok at *
 have hfall : (X = none) ∨ (X = some ⟨r,vsOf L,gsOf L,[]⟩ ∧ (∃ ns,nbF 4 0 c = (some ns,true) ∧ nbRes (nbF 4 0 c) = .tup [.one (row false 1 (ints ns)),.one (bool true)]) ∧ ok = true):=by
  rcases nbForm1 4 0 c with ⟨nn,ns,e1,e2⟩ | ⟨ns,e1,e2⟩
  ·exact .inl (hX0 (.inl e2))
  ·cases ok
   ·exact .inl (hX0 (.inr rfl))
   ·exact .inr ⟨hX1 ⟨ns,e1⟩ rfl,⟨ns,e1,e2⟩,rfl⟩
 rcases hfall with hX | ⟨hX,⟨ns,e1,e2⟩,rfl⟩
 ·have hno : X = none:=hX
  rw [hno]
  unfold stT stH
  rcases nbForm1 4 0 c with ⟨nn,ns,e1,e2⟩ | ⟨ns,e1,e2⟩
  ·rw [e1] at KE
   refine Zab (l:=[.cell 2 34,.tmp 3]) Tryz.func40 kRf rfl Tryz.ntmps40 rfl rfl ?_; simp only [dEnv,Nat.reduceAdd]
   repeat' (first|refine wk ?_|((first|refine' w_q rfl rfl ?xa rfl ?_|refine' v_q rfl rfl ?xa rfl ?_|refine' Zm rfl rfl (Zd rfl) rfl ?xa rfl ?_|refine' Zo rfl rfl (Zd rfl) rfl ?xa rfl ?_);case xa=>first|exact Z5 tbOk rfl rfl rfl rfl (by first|omega|exact hc0) (by first|exact hx|exact hx0|exact hx1|exact hx2|exact hc)|exact Zap (a:=1) (b:=1 + m) tbOk rfl rfl rfl ⟨_,Za rfl⟩ ⟨_,(Za rfl).trans hd1⟩ oM oM|exact Zap (a:=1 + m) (b:=1 + m + w) tbOk rfl rfl rfl ⟨_,(Za rfl).trans hd1⟩ ⟨_,(Za rfl).trans hd2⟩ oM oM|exact Zg KN rfl ⟨Zf (Za rfl),Zf (Za rfl),Zf (Za rfl),trivial⟩|exact Zg KE rfl ⟨Zf (Za rfl),Zf (Za rfl),Zf (Za rfl),trivial⟩|exact Zg KO rfl ⟨Zj (Za rfl) ⟨Zb,Zah (Zk rfl) hvi,Zah (Zk rfl) hgi,Zar,trivial⟩,trivial⟩)|((first|refine' w_e rfl ?xa ?xb ?xc ?xe ?_|refine' v_e rfl ?xa ?xb ?xc ?xe ?_);(case xa=>first|exact Ze 43 rfl (Zh [(1000000000,8),(2000001,501),(2000002,502)] KV rfl ⟨Zi (Za rfl),asE,trivial⟩ sbH rfl)|exact Ze 54 rfl (Zh [(1000000000,8),(1000000001,501),(1000000002,502),(2000001,503)] KM rfl ⟨Zi (Za rfl),asE,trivial⟩ sbH rfl));(case xb|xc|xe=>rfl);try refine wkD ?_)|((first|refine' w_ey rfl rfl (Zd rfl) ?xa ?xb ?xc ?xe ?_|refine' v_ey rfl rfl (Zd rfl) ?xa ?xb ?xc ?xe ?_);(case xa=>first|exact Ze 43 rfl (Zh [(1000000000,8),(2000001,501),(2000002,502)] KV rfl ⟨Zi (Za rfl),asE,trivial⟩ sbH rfl)|exact Ze 54 rfl (Zh [(1000000000,8),(1000000001,501),(1000000002,502),(2000001,503)] KM rfl ⟨Zi (Za rfl),asE,trivial⟩ sbH rfl));(case xb|xc|xe=>rfl);try refine wkD ?_)|(refine wkB ?_ ?_<;>intro hg_<;>try exact wkX)|fail)
   all_goals first
  | exact Zx [] rfl sbH (Za3 (x:=(true,_)) (y:=(false,[_])) (Zay rfl rfl tyF0 rfl rfl rfl) rfl (Za2 rfl) rfl (Z9 (tups2 rfl rfl)))
  | (exfalso; omega)
  ·have hok0 : ok = false:=by
    cases ok
    ·rfl
    ·have:=hX1 ⟨ns,e1⟩ rfl
     rw [hno] at this; cases this
   subst hok0
   rw [e2] at KE
   refine Zab (l:=[.cell 2 34,.tmp 3]) Tryz.func40 kRf rfl Tryz.ntmps40 rfl rfl ?_; simp only [dEnv,Nat.reduceAdd]
   repeat' (first|refine wk ?_|((first|refine' w_q rfl rfl ?xa rfl ?_|refine' v_q rfl rfl ?xa rfl ?_|refine' Zm rfl rfl (Zd rfl) rfl ?xa rfl ?_|refine' Zo rfl rfl (Zd rfl) rfl ?xa rfl ?_);case xa=>first|exact Z5 tbOk rfl rfl rfl rfl (by first|omega|exact hc0) (by first|exact hx|exact hx0|exact hx1|exact hx2|exact hc)|exact Zap (a:=1) (b:=1 + m) tbOk rfl rfl rfl ⟨_,Za rfl⟩ ⟨_,(Za rfl).trans hd1⟩ oM oM|exact Zap (a:=1 + m) (b:=1 + m + w) tbOk rfl rfl rfl ⟨_,(Za rfl).trans hd1⟩ ⟨_,(Za rfl).trans hd2⟩ oM oM|exact Zg KN rfl ⟨Zf (Za rfl),Zf (Za rfl),Zf (Za rfl),trivial⟩|exact Zg KE rfl ⟨Zf (Za rfl),Zf (Za rfl),Zf (Za rfl),trivial⟩|exact Zg KO rfl ⟨Zj (Za rfl) ⟨Zb,Zah (Zk rfl) hvi,Zah (Zk rfl) hgi,Zar,trivial⟩,trivial⟩)|((first|refine' w_e rfl ?xa ?xb ?xc ?xe ?_|refine' v_e rfl ?xa ?xb ?xc ?xe ?_);(case xa=>first|exact Ze 43 rfl (Zh [(1000000000,8),(2000001,501),(2000002,502)] KV rfl ⟨Zi (Za rfl),asE,trivial⟩ sbH rfl)|exact Ze 54 rfl (Zh [(1000000000,8),(1000000001,501),(1000000002,502),(2000001,503)] KM rfl ⟨Zi (Za rfl),asE,trivial⟩ sbH rfl));(case xb|xc|xe=>rfl);try refine wkD ?_)|((first|refine' w_ey rfl rfl (Zd rfl) ?xa ?xb ?xc ?xe ?_|refine' v_ey rfl rfl (Zd rfl) ?xa ?xb ?xc ?xe ?_);(case xa=>first|exact Ze 43 rfl (Zh [(1000000000,8),(2000001,501),(2000002,502)] KV rfl ⟨Zi (Za rfl),asE,trivial⟩ sbH rfl)|exact Ze 54 rfl (Zh [(1000000000,8),(1000000001,501),(1000000002,502),(2000001,503)] KM rfl ⟨Zi (Za rfl),asE,trivial⟩ sbH rfl));(case xb|xc|xe=>rfl);try refine wkD ?_)|(refine wkB ?_ ?_<;>intro hg_<;>try exact wkX)|fail)
   all_goals first
  | exact Zx [] rfl sbH (Za3 (x:=(true,_)) (y:=(false,[_])) (Zay rfl rfl tyF0 rfl rfl rfl) rfl (Za2 rfl) rfl (Z9 (tups2 rfl rfl)))
  | (exfalso; omega)
 ·rw [e2] at KE
  have hT : stT X = .tups [(true,[.r true (int r),.own 2000001 0 L.length 1,.own 2000002 0 L.length 1,Zc]),(false,[.r true (bool true)])]:=by rw [hX]; simp only [stT,rowC,hLe,Zbw,Zbz]; rfl
  have hH : stH X = [(2000001,.sl 3 1 true (ints (vsOf L))),(2000002,.sl 4 1 true (bools (gsOf L)))]:=by rw [hX]; simp only [stH,hLe,Zbw,Zbz]; rfl
  rw [hT,hH]
  refine Zab (l:=[.cell 2 34,.tmp 3]) Tryz.func40 kRf rfl Tryz.ntmps40 rfl rfl ?_; simp only [dEnv,Nat.reduceAdd]
  repeat' (first|refine wk ?_|((first|refine' w_q rfl rfl ?xa rfl ?_|refine' v_q rfl rfl ?xa rfl ?_|refine' Zm rfl rfl (Zd rfl) rfl ?xa rfl ?_|refine' Zo rfl rfl (Zd rfl) rfl ?xa rfl ?_);case xa=>first|exact Z5 tbOk rfl rfl rfl rfl (by first|omega|exact hc0) (by first|exact hx|exact hx0|exact hx1|exact hx2|exact hc)|exact Zap (a:=1) (b:=1 + m) tbOk rfl rfl rfl ⟨_,Za rfl⟩ ⟨_,(Za rfl).trans hd1⟩ oM oM|exact Zap (a:=1 + m) (b:=1 + m + w) tbOk rfl rfl rfl ⟨_,(Za rfl).trans hd1⟩ ⟨_,(Za rfl).trans hd2⟩ oM oM|exact Zg KN rfl ⟨Zf (Za rfl),Zf (Za rfl),Zf (Za rfl),trivial⟩|exact Zg KE rfl ⟨Zf (Za rfl),Zf (Za rfl),Zf (Za rfl),trivial⟩|exact Zg KO rfl ⟨Zj (Za rfl) ⟨Zb,Zah (Zk rfl) hvi,Zah (Zk rfl) hgi,Zar,trivial⟩,trivial⟩)|((first|refine' w_e rfl ?xa ?xb ?xc ?xe ?_|refine' v_e rfl ?xa ?xb ?xc ?xe ?_);(case xa=>first|exact Ze 43 rfl (Zh [(1000000000,8),(2000001,501),(2000002,502)] KV rfl ⟨Zi (Za rfl),asE,trivial⟩ sbH rfl)|exact Ze 54 rfl (Zh [(1000000000,8),(1000000001,501),(1000000002,502),(2000001,503)] KM rfl ⟨Zi (Za rfl),asE,trivial⟩ sbH rfl));(case xb|xc|xe=>rfl);try refine wkD ?_)|((first|refine' w_ey rfl rfl (Zd rfl) ?xa ?xb ?xc ?xe ?_|refine' v_ey rfl rfl (Zd rfl) ?xa ?xb ?xc ?xe ?_);(case xa=>first|exact Ze 43 rfl (Zh [(1000000000,8),(2000001,501),(2000002,502)] KV rfl ⟨Zi (Za rfl),asE,trivial⟩ sbH rfl)|exact Ze 54 rfl (Zh [(1000000000,8),(1000000001,501),(1000000002,502),(2000001,503)] KM rfl ⟨Zi (Za rfl),asE,trivial⟩ sbH rfl));(case xb|xc|xe=>rfl);try refine wkD ?_)|(refine wkB ?_ ?_<;>intro hg_<;>try exact wkX)|fail)
  all_goals first
  | exact Zx [(2000001,501),(2000002,502),(2000003,503)] rfl sbH (Za3 (x:=(true,_)) (y:=(false,[_])) (Zay rfl rfl tyF0 rfl rfl rfl) rfl (Za2 rfl) rfl (Z9 (tups2 rfl rfl)))
  | (exfalso; omega)
theorem f_ckAtEndOO (nil : Bool) (D : List (List Int)) (b c : List Int) (r : Int) (m w : Nat) (hl : D.length ≤ 2000) (hx : (rowsI D)[(0 : Int).toNat]? = some (rowP b)) (h0 : 0 < D.length) (h : nbF 1 3 b = (some [r,(m : Int),(w : Int)],true)) (hs : m + w + 2 ≤ D.length) (hc : (rowsI D)[((1 + m + w : Nat) : Int).toNat]? = some (rowP c)) (L : List (Int × Bool)) (hv : rdAll rdV1 ((D.drop 1).take m) = some L) (hLn : L ≠ []) (M : List E3) (hm : rdAll rdM1 ((D.drop (1 + m)).take w) = some M) (hMn : M ≠ []) (X : Option Sta) (hX0 : ((∀ ns,nbF 4 0 c ≠ (some ns,true)) ∨ Sta.ok ⟨r,vsOf L,gsOf L,M⟩ = false) → X = none) (hX1 : (∃ ns,nbF 4 0 c = (some ns,true)) → Sta.ok ⟨r,vsOf L,gsOf L,M⟩ = true → X = some ⟨r,vsOf L,gsOf L,M⟩) :
  FnS Tryz.prog 40 [.one (.r false (row nil 1 (rowsI D)))] [] (stT X) (stH X):=by
 have hlen:=Zax D
 have KN:=Zbk false b 1 3 oM
 rw [h] at KN
 unfold nbRes at KN
 dsimp only at KN
 have hx0 : (ints [r,(m : Int),(w : Int)])[(0 : Int).toNat]? = some (iP r):=rfl
 have hx1 : (ints [r,(m : Int),(w : Int)])[(1 : Int).toNat]? = some (iP (m : Int)):=rfl
 have hx2 : (ints [r,(m : Int),(w : Int)])[(2 : Int).toNat]? = some (iP (w : Int)):=rfl
 have hli : (ints [r,(m : Int),(w : Int)]).length = 3:=rfl
 have hw1 : IntKind.i64.wrap (IntKind.i64.wrap ((m : Int) + (w : Int)) + 2) = (m : Int) + w + 2:=by rw [IntWalk.i64_in ((m : Int) + (w : Int)) oM,IntWalk.i64_in _ oM]
 have hq1 : IntKind.i64.wrap (1 + (m : Int)) = ((1 + m : Nat) : Int):=by rw [IntWalk.i64_in _ oM]; omega
 have hq2 : IntKind.i64.wrap (IntKind.i64.wrap (1 + (m : Int)) + (w : Int)) = ((1 + m + w : Nat) : Int):=by rw [hq1,IntWalk.i64_in _ oM]; omega
 have hd1 : Abs.D.one (Cell.r true (int (IntKind.i64.wrap (1 + (m : Int))))) = Abs.D.one (.r true (int ((1 + m : Nat) : Int))):=by rw [hq1]
 have hd2 : Abs.D.one (Cell.r true (int (IntKind.i64.wrap (IntKind.i64.wrap (1 + (m : Int)) + (w : Int))))) = Abs.D.one (.r true (int ((1 + m + w : Nat) : Int))):=by rw [hq2]
 have hpV : ((rowsI D).drop 1).take (1 + m - 1) = rowsI ((D.drop 1).take m):=by rw [Zbv,show 1 + m - 1 = m by omega]
 have hpM : ((rowsI D).drop (1 + m)).take (1 + m + w - (1 + m)) = rowsI ((D.drop (1 + m)).take w):=by rw [Zbv,show 1 + m + w - (1 + m) = w by omega]
 have hbl : ((D.drop 1).take m).length ≤ 2000:=by simp; omega
 have hbm : ((D.drop (1 + m)).take w).length ≤ 2000:=by simp; omega
 rw [← hq2] at hc
 have hc0 : 0 ≤ IntKind.i64.wrap (IntKind.i64.wrap (1 + (m : Int)) + (w : Int)):=by rw [hq2]; omega
 have KV:=Zdu nil _ r hbl L hv hLn
 rw [← hpV] at KV
 have KM:=f_readMsYesO nil _ r (vsOf L) (gsOf L) hbm M hm hMn
 rw [← hpM,Zbw,Zbz] at KM
 have hLe : (vsOf L).isEmpty = false:=by cases L with | nil=>exact absurd rfl hLn | cons x y=>rfl
 have hMe : M.isEmpty = false:=by cases M with | nil=>exact absurd rfl hMn | cons x y=>rfl
 have hLl : L.length ≤ 2000:=by rw [Zb6 hv]; exact hbl
 have hvi : L.length = (ints (vsOf L)).length:=by rw [Zr,Zbw]
 have hgi : L.length = (bools (gsOf L)).length:=by rw [Zag,Zbz]
 have hMl : M.length ≤ 2000:=by rw [Zb6 hm]; exact hbm
 have hmi:=(Zq M).symm
 have KE:=Zbk false c 4 0 oM
 have KO:=f_ownValid r false false false (⟨r,vsOf L,gsOf L,M⟩ : Sta).vs (⟨r,vsOf L,gsOf L,M⟩ : Sta).gs (⟨r,vsOf L,gsOf L,M⟩ : Sta).ms (by simp only [maxLen,Zbw]; omega) (by simp only [maxLen,Zbz]; omega) (by simp only [maxLen]; omega)
 rw [show stOk (((⟨r,vsOf L,gsOf L,M⟩ : Sta).vs.length : Nat) : Int) r (⟨r,vsOf L,gsOf L,M⟩ : Sta).vs (⟨r,vsOf L,gsOf L,M⟩ : Sta).gs.length (⟨r,vsOf L,gsOf L,M⟩ : Sta).ms = Sta.ok ⟨r,vsOf L,gsOf L,M⟩ from rfl] at KO
 dsimp only at KO
 generalize hok : Sta.ok ⟨r,vsOf L,gsOf L,M⟩ = ok at *
 have hfall : (X = none) ∨ (X = some ⟨r,vsOf L,gsOf L,M⟩ ∧ (∃ ns,nbF 4 0 c = (some ns,true) ∧ nbRes (nbF 4 0 c) = .tup [.one (row false 1 (ints ns)),.one (bool true)]) ∧ ok = true):=by
  rcases nbForm1 4 0 c with ⟨nn,ns,e1,e2⟩ | ⟨ns,e1,e2⟩
  ·exact .inl (hX0 (.inl e2))
  ·cases ok
   ·exact .inl (hX0 (.inr rfl))
   ·exact .inr ⟨hX1 ⟨ns,e1⟩ rfl,⟨ns,e1,e2⟩,rfl⟩
 rcases hfall with hX | ⟨hX,⟨ns,e1,e2⟩,rfl⟩
 ·have hno : X = none:=hX
  rw [hno]
  unfold stT stH
  rcases nbForm1 4 0 c with ⟨nn,ns,e1,e2⟩ | ⟨ns,e1,e2⟩
  ·rw [e1] at KE
   refine Zab (l:=[.cell 2 34,.tmp 3]) Tryz.func40 kRf rfl Tryz.ntmps40 rfl rfl ?_; simp only [dEnv,Nat.reduceAdd]
   repeat' (first|refine wk ?_|((first|refine' w_q rfl rfl ?xa rfl ?_|refine' v_q rfl rfl ?xa rfl ?_|refine' Zm rfl rfl (Zd rfl) rfl ?xa rfl ?_|refine' Zo rfl rfl (Zd rfl) rfl ?xa rfl ?_);case xa=>first|exact Z5 tbOk rfl rfl rfl rfl (by first|omega|exact hc0) (by first|exact hx|exact hx0|exact hx1|exact hx2|exact hc)|exact Zap (a:=1) (b:=1 + m) tbOk rfl rfl rfl ⟨_,Za rfl⟩ ⟨_,(Za rfl).trans hd1⟩ oM oM|exact Zap (a:=1 + m) (b:=1 + m + w) tbOk rfl rfl rfl ⟨_,(Za rfl).trans hd1⟩ ⟨_,(Za rfl).trans hd2⟩ oM oM|exact Zg KN rfl ⟨Zf (Za rfl),Zf (Za rfl),Zf (Za rfl),trivial⟩|exact Zg KE rfl ⟨Zf (Za rfl),Zf (Za rfl),Zf (Za rfl),trivial⟩|exact Zg KO rfl ⟨Zj (Za rfl) ⟨Zb,Zah (Zk rfl) hvi,Zah (Zk rfl) hgi,Zah (Zk rfl) hmi,trivial⟩,trivial⟩)|((first|refine' w_e rfl ?xa ?xb ?xc ?xe ?_|refine' v_e rfl ?xa ?xb ?xc ?xe ?_);(case xa=>first|exact Ze 43 rfl (Zh [(1000000000,8),(2000001,501),(2000002,502)] KV rfl ⟨Zi (Za rfl),asE,trivial⟩ sbH rfl)|exact Ze 54 rfl (Zh [(1000000000,8),(1000000001,501),(1000000002,502),(2000001,503)] KM rfl ⟨Zi (Za rfl),asE,trivial⟩ sbH rfl));(case xb|xc|xe=>rfl);try refine wkD ?_)|((first|refine' w_ey rfl rfl (Zd rfl) ?xa ?xb ?xc ?xe ?_|refine' v_ey rfl rfl (Zd rfl) ?xa ?xb ?xc ?xe ?_);(case xa=>first|exact Ze 43 rfl (Zh [(1000000000,8),(2000001,501),(2000002,502)] KV rfl ⟨Zi (Za rfl),asE,trivial⟩ sbH rfl)|exact Ze 54 rfl (Zh [(1000000000,8),(1000000001,501),(1000000002,502),(2000001,503)] KM rfl ⟨Zi (Za rfl),asE,trivial⟩ sbH rfl));(case xb|xc|xe=>rfl);try refine wkD ?_)|(refine wkB ?_ ?_<;>intro hg_<;>try exact wkX)|fail)
   all_goals first
  | exact Zx [] rfl sbH (Za3 (x:=(true,_)) (y:=(false,[_])) (Zay rfl rfl tyF0 rfl rfl rfl) rfl (Za2 rfl) rfl (Z9 (tups2 rfl rfl)))
  | (exfalso; omega)
  ·have hok0 : ok = false:=by
    cases ok
    ·rfl
    ·have:=hX1 ⟨ns,e1⟩ rfl
     rw [hno] at this; cases this
   subst hok0
   rw [e2] at KE
   refine Zab (l:=[.cell 2 34,.tmp 3]) Tryz.func40 kRf rfl Tryz.ntmps40 rfl rfl ?_; simp only [dEnv,Nat.reduceAdd]
   repeat' (first|refine wk ?_|((first|refine' w_q rfl rfl ?xa rfl ?_|refine' v_q rfl rfl ?xa rfl ?_|refine' Zm rfl rfl (Zd rfl) rfl ?xa rfl ?_|refine' Zo rfl rfl (Zd rfl) rfl ?xa rfl ?_);case xa=>first|exact Z5 tbOk rfl rfl rfl rfl (by first|omega|exact hc0) (by first|exact hx|exact hx0|exact hx1|exact hx2|exact hc)|exact Zap (a:=1) (b:=1 + m) tbOk rfl rfl rfl ⟨_,Za rfl⟩ ⟨_,(Za rfl).trans hd1⟩ oM oM|exact Zap (a:=1 + m) (b:=1 + m + w) tbOk rfl rfl rfl ⟨_,(Za rfl).trans hd1⟩ ⟨_,(Za rfl).trans hd2⟩ oM oM|exact Zg KN rfl ⟨Zf (Za rfl),Zf (Za rfl),Zf (Za rfl),trivial⟩|exact Zg KE rfl ⟨Zf (Za rfl),Zf (Za rfl),Zf (Za rfl),trivial⟩|exact Zg KO rfl ⟨Zj (Za rfl) ⟨Zb,Zah (Zk rfl) hvi,Zah (Zk rfl) hgi,Zah (Zk rfl) hmi,trivial⟩,trivial⟩)|((first|refine' w_e rfl ?xa ?xb ?xc ?xe ?_|refine' v_e rfl ?xa ?xb ?xc ?xe ?_);(case xa=>first|exact Ze 43 rfl (Zh [(1000000000,8),(2000001,501),(2000002,502)] KV rfl ⟨Zi (Za rfl),asE,trivial⟩ sbH rfl)|exact Ze 54 rfl (Zh [(1000000000,8),(1000000001,501),(1000000002,502),(2000001,503)] KM rfl ⟨Zi (Za rfl),asE,trivial⟩ sbH rfl));(case xb|xc|xe=>rfl);try refine wkD ?_)|((first|refine' w_ey rfl rfl (Zd rfl) ?xa ?xb ?xc ?xe ?_|refine' v_ey rfl rfl (Zd rfl) ?xa ?xb ?xc ?xe ?_);(case xa=>first|exact Ze 43 rfl (Zh [(1000000000,8),(2000001,501),(2000002,502)] KV rfl ⟨Zi (Za rfl),asE,trivial⟩ sbH rfl)|exact Ze 54 rfl (Zh [(1000000000,8),(1000000001,501),(1000000002,502),(2000001,503)] KM rfl ⟨Zi (Za rfl),asE,trivial⟩ sbH rfl));(case xb|xc|xe=>rfl);try refine wkD ?_)|(refine wkB ?_ ?_<;>intro hg_<;>try exact wkX)|fail)
   all_goals first
  | exact Zx [] rfl sbH (Za3 (x:=(true,_)) (y:=(false,[_])) (Zay rfl rfl tyF0 rfl rfl rfl) rfl (Za2 rfl) rfl (Z9 (tups2 rfl rfl)))
  | (exfalso; omega)
 ·rw [e2] at KE
  have hT : stT X = .tups [(true,[.r true (int r),.own 2000001 0 L.length 1,.own 2000002 0 L.length 1,.own 2000003 0 M.length 3]),(false,[.r true (bool true)])]:=by rw [hX]; simp only [stT,rowC,hLe,Zbw,Zbz,hMe]; rfl
  have hH : stH X = [(2000001,.sl 3 1 true (ints (vsOf L))),(2000002,.sl 4 1 true (bools (gsOf L))),(2000003,.sl 87 3 true (edges M))]:=by rw [hX]; simp only [stH,hLe,Zbw,Zbz,hMe]; rfl
  rw [hT,hH]
  refine Zab (l:=[.cell 2 34,.tmp 3]) Tryz.func40 kRf rfl Tryz.ntmps40 rfl rfl ?_; simp only [dEnv,Nat.reduceAdd]
  repeat' (first|refine wk ?_|((first|refine' w_q rfl rfl ?xa rfl ?_|refine' v_q rfl rfl ?xa rfl ?_|refine' Zm rfl rfl (Zd rfl) rfl ?xa rfl ?_|refine' Zo rfl rfl (Zd rfl) rfl ?xa rfl ?_);case xa=>first|exact Z5 tbOk rfl rfl rfl rfl (by first|omega|exact hc0) (by first|exact hx|exact hx0|exact hx1|exact hx2|exact hc)|exact Zap (a:=1) (b:=1 + m) tbOk rfl rfl rfl ⟨_,Za rfl⟩ ⟨_,(Za rfl).trans hd1⟩ oM oM|exact Zap (a:=1 + m) (b:=1 + m + w) tbOk rfl rfl rfl ⟨_,(Za rfl).trans hd1⟩ ⟨_,(Za rfl).trans hd2⟩ oM oM|exact Zg KN rfl ⟨Zf (Za rfl),Zf (Za rfl),Zf (Za rfl),trivial⟩|exact Zg KE rfl ⟨Zf (Za rfl),Zf (Za rfl),Zf (Za rfl),trivial⟩|exact Zg KO rfl ⟨Zj (Za rfl) ⟨Zb,Zah (Zk rfl) hvi,Zah (Zk rfl) hgi,Zah (Zk rfl) hmi,trivial⟩,trivial⟩)|((first|refine' w_e rfl ?xa ?xb ?xc ?xe ?_|refine' v_e rfl ?xa ?xb ?xc ?xe ?_);(case xa=>first|exact Ze 43 rfl (Zh [(1000000000,8),(2000001,501),(2000002,502)] KV rfl ⟨Zi (Za rfl),asE,trivial⟩ sbH rfl)|exact Ze 54 rfl (Zh [(1000000000,8),(1000000001,501),(1000000002,502),(2000001,503)] KM rfl ⟨Zi (Za rfl),asE,trivial⟩ sbH rfl));(case xb|xc|xe=>rfl);try refine wkD ?_)|((first|refine' w_ey rfl rfl (Zd rfl) ?xa ?xb ?xc ?xe ?_|refine' v_ey rfl rfl (Zd rfl) ?xa ?xb ?xc ?xe ?_);(case xa=>first|exact Ze 43 rfl (Zh [(1000000000,8),(2000001,501),(2000002,502)] KV rfl ⟨Zi (Za rfl),asE,trivial⟩ sbH rfl)|exact Ze 54 rfl (Zh [(1000000000,8),(1000000001,501),(1000000002,502),(2000001,503)] KM rfl ⟨Zi (Za rfl),asE,trivial⟩ sbH rfl));(case xb|xc|xe=>rfl);try refine wkD ?_)|(refine wkB ?_ ?_<;>intro hg_<;>try exact wkX)|fail)
  all_goals first
  | exact Zx [(2000001,501),(2000002,502),(2000003,503)] rfl sbH (Za3 (x:=(true,_)) (y:=(false,[_])) (Zay rfl rfl tyF0 rfl rfl rfl) rfl (Za2 rfl) rfl (Z9 (tups2 rfl rfl)))
  | (exfalso; omega)
theorem zip_of {vs : List Int} {gs : List Bool} (h : gs.length = vs.length) : vsOf (vs.zip gs) = vs ∧ gsOf (vs.zip gs) = gs:=by
 unfold vsOf gsOf
 exact ⟨List.map_fst_zip oM,List.map_snd_zip oM⟩
theorem f_ckAtI (nil : Bool) (D : List (List Int)) (hl : D.length ≤ 2000) (h0 : 0 < D.length) :
  FnS Tryz.prog 40 [.one (.r false (row nil 1 (rowsI D)))] [] (stT (ckAt D)) (stH (ckAt D)):=by
 have hx : (rowsI D)[(0 : Int).toNat]? = some (rowP D[0]):=rowsI_get h0
 have hD0 : D[0]? = some D[0]:=List.getElem?_eq_getElem h0
 generalize D[0] = b at *
 by_cases hh : ∃ ns,nbF 1 3 b = (some ns,true)
 ·obtain ⟨ns,hns⟩:=hh
  obtain ⟨hb1,hb2,hb3⟩:=nbF_yes hns
  match ns,hb2 with
  | [r,m',w'],_ =>
   have q1:=hb3 m' (by simp)
   have q2:=hb3 w' (by simp)
   obtain ⟨m,rfl⟩:=Int.eq_ofNat_of_zero_le q1.1
   obtain ⟨w,rfl⟩:=Int.eq_ofNat_of_zero_le q2.1
   have key : ∀ s,Ck D s → s.r = r ∧ s.vs.length = m ∧ s.ms.length = w:=fun s hs=>by
    obtain ⟨b',e1,e2⟩:=hs.ckI.head
    rw [hD0] at e1
    injection e1 with e1
    subst e1
    rw [hns] at e2
    simp only [Prod.mk.injEq,Option.some.injEq,List.cons.injEq,and_true] at e2
    omega
   by_cases hs : m + w + 2 ≤ D.length
   ·have hlt : 1 + m + w < D.length:=by omega
    have hc : (rowsI D)[((1 + m + w : Nat) : Int).toNat]? = some (rowP D[1 + m + w]):=Zb0 hlt
    have hDc : D[1 + m + w]? = some D[1 + m + w]:=List.getElem?_eq_getElem hlt
    generalize D[1 + m + w] = c at *
    cases hv : rdAll rdV1 ((D.drop 1).take m) with
    | none =>
     have hX : ckAt D = none:=Zdb fun s hs'=>by
      obtain ⟨k1,k2,k3⟩:=key s hs'
      have:=hs'.ckI.vals
      rw [k2,hv] at this; cases this
     rw [hX]
     exact f_ckAtVals nil D b c r m w hl hx h0 hns hs hc hv
    | some L =>
     cases hm : rdAll rdM1 ((D.drop (1 + m)).take w) with
     | none =>
      have hX : ckAt D = none:=Zdb fun s hs'=>by
       obtain ⟨k1,k2,k3⟩:=key s hs'
       have:=hs'.ckI.msgs
       rw [k2,k3,hm] at this; cases this
      rw [hX]
      by_cases hLn : L = []
      ·subst hLn
       exact f_ckAtMsgsZ nil D b c r m w hl hx h0 hns hs hc hv hm
      ·exact f_ckAtMsgsO nil D b c r m w hl hx h0 hns hs hc L hv hLn hm
     | some M =>
      have hX1 : (∃ ns,nbF 4 0 c = (some ns,true)) → Sta.ok ⟨r,vsOf L,gsOf L,M⟩ = true → ckAt D = some ⟨r,vsOf L,gsOf L,M⟩:=fun ⟨ns,he⟩ hok=>by
       have hz : ns = []:=List.eq_nil_of_length_eq_zero (nbF_len he)
       rw [hz] at he
       exact ckAt_some (CkI.ck (D:=D) (m:=m) (w:=w) ⟨⟨b,hD0,hns⟩,hs,hv,hm,⟨c,hDc,he⟩⟩ hok)
      have hX0 : ((∀ ns,nbF 4 0 c ≠ (some ns,true)) ∨ Sta.ok ⟨r,vsOf L,gsOf L,M⟩ = false) → ckAt D = none:=fun hf=>Zdb fun s hs'=>by
       obtain ⟨k1,k2,k3⟩:=key s hs'
       have hI:=hs'.ckI
       rcases hf with hf | hf
       ·obtain ⟨c',e1,e2⟩:=hI.fin
        rw [k2,k3,hDc] at e1
        injection e1 with e1
        rw [← e1] at e2
        exact hf _ e2
       ·have e1:=hI.vals
        have e2:=hI.msgs
        rw [k2,hv] at e1
        rw [k2,k3,hm] at e2
        injection e1 with e1
        injection e2 with e2
        obtain ⟨z1,z2⟩:=zip_of (Sta.okF hs'.1).gl
        rw [e1,z1,z2,e2,← k1] at hf
        have:=hs'.1
        rw [show s = ⟨s.r,s.vs,s.gs,s.ms⟩ from rfl,hf] at this
        cases this
      by_cases hLn : L = []
      ·subst hLn
       by_cases hMn : M = []
       ·subst hMn
        exact f_ckAtEndZZ nil D b c r m w hl hx h0 hns hs hc hv hm _ hX0 hX1
       ·exact f_ckAtEndZO nil D b c r m w hl hx h0 hns hs hc hv M hm hMn _ hX0 hX1
      ·by_cases hMn : M = []
       ·subst hMn
        exact f_ckAtEndOZ nil D b c r m w hl hx h0 hns hs hc L hv hLn hm _ hX0 hX1
       ·exact f_ckAtEndOO nil D b c r m w hl hx h0 hns hs hc L hv hLn M hm hMn _ hX0 hX1
   ·have hX : ckAt D = none:=Zdb fun s hs'=>by
     obtain ⟨k1,k2,k3⟩:=key s hs'
     have:=hs'.ckI.len
     omega
    rw [hX]
    exact f_ckAtSize nil D b r m w hl oM oM hx h0 hns oM
 ·have hX : ckAt D = none:=Zdb fun s hs=>by
   obtain ⟨b',e1,e2⟩:=hs.ckI.head
   rw [hD0] at e1
   injection e1 with e1
   rw [← e1] at e2
   exact hh ⟨_,e2⟩
  rw [hX]
  exact f_ckAtHead nil D b hx h0 fun ns e=>hh ⟨ns,e⟩
theorem Zcw (nil : Bool) (L : List (List Int)) (hl : L.length ≤ 1048576) :
    FnS Tryz.prog 11 [.one (.r false (row nil 1 (rowsI L)))] [] (stT (lastCk L)) (stH (lastCk L)) := by
  have hlenL := Zax L
  obtain ⟨X, hX⟩ : ∃ X, X = lastCk L := ⟨_, rfl⟩
  rw [← hX]
  by_cases hbig : L.length ≤ 2000
  · have hX0 : X = lastFrom L L.length := by rw [hX]; unfold lastCk; rw [if_pos hbig]
    clear hX
    refine Zab (l := [.cell 2 34, .tmp 3]) Tryz.func11 kRf rfl Tryz.ntmps11 rfl rfl ?_; simp only [dEnv, Nat.reduceAdd]
    repeat' (first|refine wk ?_|(refine wkB ?_ ?_<;>intro hg_<;>try exact wkX)|fail)
    have hw0 : IntKind.i64.wrap (((rowsI L).length : Int) - 1) = (L.length : Int) - 1 := by rw [hlenL]; exact IntWalk.i64_in _ oM
    obtain ⟨F, hFs⟩ : ∃ F : Nat → St, ∀ k, F k = mkS 28 [(4, .one (.r true (int ((k : Int) - 1)))), (2, .one (.ptr 2 0 0 0)), (0, .one (.r false (row nil 1 (rowsI L))))] [(2, .var 34 [.r true (int 0), Zc, Zc, Zc])] := ⟨_, fun _ => rfl⟩
    refine Zac (fun k : Nat => k ≤ L.length ∧ X = lastFrom L k) F (fun k => k) L.length ⟨Nat.le_refl _, hX0⟩ (by rw [hFs];(refine Zn [] rfl ?_ ?_ <;> repeat' (first|refine wkS ?_ ?_|exact wkE|exact Zu hw0))) ?_
    rintro k ⟨hk, HX⟩
    clear hX0
    cases k with
    | zero =>
      have hXz : X = none := HX
      rw [hXz, hFs]
      unfold stT stH
      clear HX hFs hXz
      repeat' (first|refine wk ?_|(refine wkB ?_ ?_<;>intro hg_<;>try exact wkX)|fail)
      all_goals first
        | exact Zx [] rfl sbH (Za3 (x := (true, _)) (y := (false, [_])) (Zay rfl rfl tyF0 rfl rfl rfl) rfl (Za2 rfl) rfl (Z9 (tups2 rfl rfl)))
        | (exfalso; omega)
    | succ m =>
      have KC := f_ckAtI nil (L.drop m) (by simp; omega) (by simp; omega)
      have hsl : ((rowsI L).drop m).take ((rowsI L).length - m) = rowsI (L.drop m) := by
        rw [Zbv, hlenL, List.take_of_length_le (by simp)]
      have e1 : (((m + 1 : Nat) : Int) - 1) = (m : Int) := by omega
      have hw1 : IntKind.i64.wrap ((m : Int) - 1) = (m : Int) - 1 := IntWalk.i64_in _ oM
      cases hc : ckAt (L.drop m) with
      | none =>
        have HX2 : X = lastFrom L m := by rw [HX, lastFrom, hc]
        have hfin : ∀ s' : St, Weak s' (F m) → ∃ x' : Nat, (x' ≤ L.length ∧ X = lastFrom L x') ∧ Weak s' (F x') ∧ x' < m + 1 := fun s' h => ⟨m, ⟨by omega, HX2⟩, h, by omega⟩
        rw [hFs] at hfin ⊢
        rw [e1]
        rw [hc, ← hsl] at KC
        unfold stT stH at KC
        clear hFs HX HX2 hsl
        repeat' (first|refine wk ?_|((first|refine' w_q rfl rfl ?xa rfl ?_|refine' v_q rfl rfl ?xa rfl ?_|refine' Zm rfl rfl (Zd rfl) rfl ?xa rfl ?_|refine' Zo rfl rfl (Zd rfl) rfl ?xa rfl ?_);case xa => exact Zap (a := m) (b := (rowsI L).length) tbOk rfl rfl rfl ⟨_, Za rfl⟩ rfl oM (Nat.le_refl _))|((first|refine' w_e rfl ?xa ?xb ?xc ?xe ?_|refine' v_e rfl ?xa ?xb ?xc ?xe ?_);(case xa => exact Ze 22 rfl (Zai (ys := [.one (row nil 1 (((rowsI L).drop m).take ((rowsI L).length - m)))]) [] KC rfl rfl ⟨Zf (Za rfl), trivial⟩ rfl rfl));(case xb|xc|xe=>rfl);try refine wkD ?_)|(refine wkB ?_ ?_<;>intro hg_<;>try exact wkX)|fail)
        all_goals first
          | (refine hfin _ ?_
             (refine Zn [] rfl ?_ ?_ <;> repeat' (first|refine wkS ?_ ?_|exact wkE|exact Zu hw1)))
          | (exfalso; omega)
      | some s =>
        have HX2 : X = some s := by rw [HX, lastFrom, hc]
        rw [HX2, hFs, e1]
        rw [hc, ← hsl] at KC
        clear hFs HX HX2 hc hsl
        obtain ⟨r, vs, gs, ms⟩ := s
        by_cases hvs : vs = []
        · subst hvs
          by_cases hms : ms = []
          · subst hms
            have hT : stT (some ⟨r, [], gs, []⟩) = .tups [(true, [.r true (int r), Zc, Zc, Zc]), (false, [.r true (bool true)])] := rfl
            have hH : stH (some ⟨r, [], gs, []⟩) = [] := rfl
            rw [hT, hH] at KC
            rw [hT, hH]
            clear hT hH
            repeat' (first|refine wk ?_|((first|refine' w_q rfl rfl ?xa rfl ?_|refine' v_q rfl rfl ?xa rfl ?_|refine' Zm rfl rfl (Zd rfl) rfl ?xa rfl ?_|refine' Zo rfl rfl (Zd rfl) rfl ?xa rfl ?_);case xa => exact Zap (a := m) (b := (rowsI L).length) tbOk rfl rfl rfl ⟨_, Za rfl⟩ rfl oM (Nat.le_refl _))|((first|refine' w_e rfl ?xa ?xb ?xc ?xe ?_|refine' v_e rfl ?xa ?xb ?xc ?xe ?_);(case xa => exact Ze 22 rfl (Zai (ys := [.one (row nil 1 (((rowsI L).drop m).take ((rowsI L).length - m)))]) [(2000001, 501), (2000002, 502), (2000003, 503)] KC rfl rfl ⟨Zf (Za rfl), trivial⟩ rfl rfl));(case xb|xc|xe=>rfl);try refine wkD ?_)|(refine wkB ?_ ?_<;>intro hg_<;>try exact wkX)|fail)
            all_goals first
              | exact Zx [(2000001, 501), (2000002, 502), (2000003, 503)] rfl sbH (Za3 (x := (true, _)) (y := (false, [_])) (Zay rfl rfl tyF0 rfl rfl rfl) rfl (Za2 rfl) rfl (Z9 (tups2 rfl rfl)))
              | (exfalso; omega)
          · have hme : ms.isEmpty = false := by cases ms with
              | nil => exact absurd rfl hms
              | cons x y => rfl
            have hT : stT (some ⟨r, [], gs, ms⟩) = .tups [(true, [.r true (int r), Zc, Zc, .own 2000003 0 ms.length 3]), (false, [.r true (bool true)])] := by simp only [stT, rowC, hme]; rfl
            have hH : stH (some ⟨r, [], gs, ms⟩) = [(2000003, .sl 87 3 true (edges ms))] := by simp only [stH, hme]; rfl
            rw [hT, hH] at KC
            rw [hT, hH]
            clear hT hH
            repeat' (first|refine wk ?_|((first|refine' w_q rfl rfl ?xa rfl ?_|refine' v_q rfl rfl ?xa rfl ?_|refine' Zm rfl rfl (Zd rfl) rfl ?xa rfl ?_|refine' Zo rfl rfl (Zd rfl) rfl ?xa rfl ?_);case xa => exact Zap (a := m) (b := (rowsI L).length) tbOk rfl rfl rfl ⟨_, Za rfl⟩ rfl oM (Nat.le_refl _))|((first|refine' w_e rfl ?xa ?xb ?xc ?xe ?_|refine' v_e rfl ?xa ?xb ?xc ?xe ?_);(case xa => exact Ze 22 rfl (Zai (ys := [.one (row nil 1 (((rowsI L).drop m).take ((rowsI L).length - m)))]) [(2000001, 501), (2000002, 502), (2000003, 503)] KC rfl rfl ⟨Zf (Za rfl), trivial⟩ rfl rfl));(case xb|xc|xe=>rfl);try refine wkD ?_)|(refine wkB ?_ ?_<;>intro hg_<;>try exact wkX)|fail)
            all_goals first
              | exact Zx [(2000001, 501), (2000002, 502), (2000003, 503)] rfl sbH (Za3 (x := (true, _)) (y := (false, [_])) (Zay rfl rfl tyF0 rfl rfl rfl) rfl (Za2 rfl) rfl (Z9 (tups2 rfl rfl)))
              | (exfalso; omega)
        · have hve : vs.isEmpty = false := by cases vs with
            | nil => exact absurd rfl hvs
            | cons x y => rfl
          by_cases hms : ms = []
          · subst hms
            have hT : stT (some ⟨r, vs, gs, []⟩) = .tups [(true, [.r true (int r), .own 2000001 0 vs.length 1, .own 2000002 0 gs.length 1, Zc]), (false, [.r true (bool true)])] := by simp only [stT, rowC, hve]; rfl
            have hH : stH (some ⟨r, vs, gs, []⟩) = [(2000001, .sl 3 1 true (ints vs)), (2000002, .sl 4 1 true (bools gs))] := by simp only [stH, hve]; rfl
            rw [hT, hH] at KC
            rw [hT, hH]
            clear hT hH
            repeat' (first|refine wk ?_|((first|refine' w_q rfl rfl ?xa rfl ?_|refine' v_q rfl rfl ?xa rfl ?_|refine' Zm rfl rfl (Zd rfl) rfl ?xa rfl ?_|refine' Zo rfl rfl (Zd rfl) rfl ?xa rfl ?_);case xa => exact Zap (a := m) (b := (rowsI L).length) tbOk rfl rfl rfl ⟨_, Za rfl⟩ rfl oM (Nat.le_refl _))|((first|refine' w_e rfl ?xa ?xb ?xc ?xe ?_|refine' v_e rfl ?xa ?xb ?xc ?xe ?_);(case xa => exact Ze 22 rfl (Zai (ys := [.one (row nil 1 (((rowsI L).drop m).take ((rowsI L).length - m)))]) [(2000001, 501), (2000002, 502), (2000003, 503)] KC rfl rfl ⟨Zf (Za rfl), trivial⟩ rfl rfl));(case xb|xc|xe=>rfl);try refine wkD ?_)|(refine wkB ?_ ?_<;>intro hg_<;>try exact wkX)|fail)
            all_goals first
              | exact Zx [(2000001, 501), (2000002, 502), (2000003, 503)] rfl sbH (Za3 (x := (true, _)) (y := (false, [_])) (Zay rfl rfl tyF0 rfl rfl rfl) rfl (Za2 rfl) rfl (Z9 (tups2 rfl rfl)))
              | (exfalso; omega)
          · have hme : ms.isEmpty = false := by cases ms with
              | nil => exact absurd rfl hms
              | cons x y => rfl
            have hT : stT (some ⟨r, vs, gs, ms⟩) = .tups [(true, [.r true (int r), .own 2000001 0 vs.length 1, .own 2000002 0 gs.length 1, .own 2000003 0 ms.length 3]), (false, [.r true (bool true)])] := by simp only [stT, rowC, hve, hme]; rfl
            have hH : stH (some ⟨r, vs, gs, ms⟩) = [(2000001, .sl 3 1 true (ints vs)), (2000002, .sl 4 1 true (bools gs)), (2000003, .sl 87 3 true (edges ms))] := by simp only [stH, hve, hme]; rfl
            rw [hT, hH] at KC
            rw [hT, hH]
            clear hT hH
            repeat' (first|refine wk ?_|((first|refine' w_q rfl rfl ?xa rfl ?_|refine' v_q rfl rfl ?xa rfl ?_|refine' Zm rfl rfl (Zd rfl) rfl ?xa rfl ?_|refine' Zo rfl rfl (Zd rfl) rfl ?xa rfl ?_);case xa => exact Zap (a := m) (b := (rowsI L).length) tbOk rfl rfl rfl ⟨_, Za rfl⟩ rfl oM (Nat.le_refl _))|((first|refine' w_e rfl ?xa ?xb ?xc ?xe ?_|refine' v_e rfl ?xa ?xb ?xc ?xe ?_);(case xa => exact Ze 22 rfl (Zai (ys := [.one (row nil 1 (((rowsI L).drop m).take ((rowsI L).length - m)))]) [(2000001, 501), (2000002, 502), (2000003, 503)] KC rfl rfl ⟨Zf (Za rfl), trivial⟩ rfl rfl));(case xb|xc|xe=>rfl);try refine wkD ?_)|(refine wkB ?_ ?_<;>intro hg_<;>try exact wkX)|fail)
            all_goals first
              | exact Zx [(2000001, 501), (2000002, 502), (2000003, 503)] rfl sbH (Za3 (x := (true, _)) (y := (false, [_])) (Zay rfl rfl tyF0 rfl rfl rfl) rfl (Za2 rfl) rfl (Z9 (tups2 rfl rfl)))
              | (exfalso; omega)
  · have hXz : X = none := by rw [hX]; unfold lastCk; rw [if_neg hbig]
    rw [hXz]
    unfold stT stH
    clear hX hXz
    refine Zab (l := [.cell 2 34, .tmp 3]) Tryz.func11 kRf rfl Tryz.ntmps11 rfl rfl ?_; simp only [dEnv, Nat.reduceAdd]
    repeat' (first|refine wk ?_|(refine wkB ?_ ?_<;>intro hg_<;>try exact wkX)|fail)
    all_goals first
      | exact Zx [] rfl sbH (Za3 (x := (true, _)) (y := (false, [_])) (Zay rfl rfl tyF0 rfl rfl rfl) rfl (Za2 rfl) rfl (Z9 (tups2 rfl rfl)))
      | (exfalso; omega)
end Go.Proofs.YtmkijbfiilpccaaGreat.Abs
set_option linter.unusedSimpArgs false
set_option linter.unusedVariables false
namespace Go.Proofs.YtmkijbfiilpccaaGreat.Abs
open Go.RowKit
open R (val row ref)
theorem f_specStart (n : Nat) (hn : n ≤ 16) : Fn Tryz.prog 35 [iP (n : Int)] (.v (stateP 0 false (List.replicate n 0) (List.replicate n true).isEmpty (List.replicate n true) true [])) := by
  have K := f_l1In (n : Int) 0 16
  rw [show inR 0 16 (n : Int) = true by unfold inR; simp; omega] at K
  refine Zy (l := [.cell 2 34]) Tryz.func35 kRf rfl Tryz.ntmps35 rfl rfl ?_; simp only [argEnv, P0.d, Nat.reduceAdd]
  repeat' (first|refine wk ?_|((first|refine' w_q rfl rfl ?xa rfl ?_|refine' v_q rfl rfl ?xa rfl ?_|refine' Zm rfl rfl (Zd rfl) rfl ?xa rfl ?_|refine' Zo rfl rfl (Zd rfl) rfl ?xa rfl ?_);case xa => exact Zg K rfl ⟨Zf (Za rfl), Zf (Za rfl), Zf (Za rfl), trivial⟩)|((first|refine' w_e rfl ?xa ?xb ?xc ?xe ?_|refine' v_e rfl ?xa ?xb ?xc ?xe ?_);(case xa => exact e_make tlOk rfl rfl rfl rfl rfl rfl (c := n) rfl rfl oM (by simp only [maxLen];omega));(case xb|xc|xe=>rfl);try refine wkD ?_)|(refine wkB ?_ ?_<;>intro hg_<;>try exact wkX)|fail)
  obtain ⟨F, hF0, hF1⟩ : ∃ F : Nat → St, F 0 = mkS 23 [(4, .one (.r true (int 0))), (3, .one (.ptr 3 0 0 0)), (2, .one (.ptr 2 0 0 0)), (0, .one (.r false (int (n : Int))))] [(3, .var 34 [.r true (int 0), .own 100 0 n 1, Zc, Zc]), (100, .sl 3 1 true (ints (List.replicate n 0))), (2, .var 34 [.r true (int 0), Zc, Zc, Zc])] ∧
      ∀ k, 0 < k → F k = mkS 23 [(4, .one (.r true (int (k : Int)))), (3, .one (.ptr 3 0 0 0)), (2, .one (.ptr 2 0 0 0)), (0, .one (.r false (int (n : Int))))] [(3, .var 34 [.r true (int 0), .own 100 0 n 1, .own 102 0 k 1, Zc]), (100, .sl 3 1 true (ints (List.replicate n 0))), (102, .sl 4 1 true (bools (List.replicate k true))), (2, .var 34 [.r true (int 0), Zc, Zc, Zc])] := by
    refine ⟨fun k => if k = 0 then mkS 23 [(4, .one (.r true (int 0))), (3, .one (.ptr 3 0 0 0)), (2, .one (.ptr 2 0 0 0)), (0, .one (.r false (int (n : Int))))] [(3, .var 34 [.r true (int 0), .own 100 0 n 1, Zc, Zc]), (100, .sl 3 1 true (ints (List.replicate n 0))), (2, .var 34 [.r true (int 0), Zc, Zc, Zc])] else mkS 23 [(4, .one (.r true (int (k : Int)))), (3, .one (.ptr 3 0 0 0)), (2, .one (.ptr 2 0 0 0)), (0, .one (.r false (int (n : Int))))] [(3, .var 34 [.r true (int 0), .own 100 0 n 1, .own 102 0 k 1, Zc]), (100, .sl 3 1 true (ints (List.replicate n 0))), (102, .sl 4 1 true (bools (List.replicate k true))), (2, .var 34 [.r true (int 0), Zc, Zc, Zc])], rfl, fun k hk => if_neg oM⟩
  refine Zac (fun k : Nat => k ≤ n) F (fun k => n - k) 0 (Nat.zero_le _) (by
    rw [hF0]
    (refine Zn [(100, 10)] rfl ?_ ?_ <;> repeat' (first|refine wkS ?_ ?_|exact wkE|exact Zv rfl (by unfold ints;simp)))) ?_
  intro k hk
  have hli : n = (ints (List.replicate n 0)).length := by rw [Zr]; simp
  have hw : IntKind.i64.wrap ((k : Int) + 1) = ((k + 1 : Nat) : Int) := by rw [IntWalk.i64_in _ oM]; omega
  by_cases hlt : k < n
  · have hfin : ∀ s' : St, Weak s' (F (k + 1)) → ∃ x' : Nat, x' ≤ n ∧ Weak s' (F x') ∧ n - x' < n - k := fun s' h => ⟨k + 1, by omega, h, by omega⟩
    have happ : bools (List.replicate (k + 1) true) = bools (List.replicate k true) ++ [.one (bool true)] := by rw [List.replicate_succ']; unfold bools; simp
    rw [hF1 _ oM, happ] at hfin
    have hgi : k = (bools (List.replicate k true)).length := by rw [Zag]; simp
    by_cases hk0 : k = 0
    · subst hk0
      rw [hF0]
      clear hF0 hF1 happ
      repeat' (first|refine wk ?_|((first|refine' w_e rfl ?xa ?xb ?xc ?xe ?_|refine' v_e rfl ?xa ?xb ?xc ?xe ?_);(case xa => first|exact Ze 19 rfl (Zp [.const (.bool true)] tlOk rfl rfl rfl rfl rfl rfl (Z7 rfl) (by simp))|exact Ze 20 rfl (Za0 tlOk rfl rfl rfl rfl rfl (Z4 (Z6 (Zk rfl) rfl) (by simp [plain1])) (by simp) (by simp [maxLen]) (by simp)));(case xb|xc|xe=>rfl);try refine wkD ?_)|(refine wkB ?_ ?_<;>intro hg_<;>try exact wkX)|fail)
      all_goals first
        | (refine hfin _ ?_
           (refine Zn [(102, 20)] rfl ?_ ?_ <;> repeat' (first|refine wkS ?_ ?_|exact wkE|exact Zv rfl rfl)))
        | (exfalso; omega)
    · rw [hF1 _ oM]
      clear hF0 hF1 happ
      generalize bools (List.replicate k true) = RR at *
      repeat' (first|refine wk ?_|((first|refine' w_e rfl ?xa ?xb ?xc ?xe ?_|refine' v_e rfl ?xa ?xb ?xc ?xe ?_);(case xa => first|exact Ze 19 rfl (Zp [.const (.bool true)] tlOk rfl rfl rfl rfl rfl rfl (Z7 rfl) (by simp))|exact Ze 20 rfl (Zw tlOk rfl rfl rfl rfl rfl rfl (Z4 (Z6 (Zk rfl) rfl) (by simp [plain1])) hgi (by simp only [maxLen, List.length_cons, List.length_nil];omega) (by simp only [List.length_cons, List.length_nil];omega)));(case xb|xc|xe=>rfl);try refine wkD ?_)|(refine wkB ?_ ?_<;>intro hg_<;>try exact wkX)|fail)
      all_goals first
        | (refine hfin _ ?_
           (refine Zn [(102, 20)] rfl ?_ ?_ <;> repeat' (first|refine wkS ?_ ?_|exact wkE|exact Zu hw|exact Zv rfl rfl|exact var4 rfl rfl (cown (by simp only [List.length_cons, List.length_nil];omega)) rfl)))
        | (exfalso; omega)
  · obtain rfl : k = n := by omega
    have hgi : k = (bools (List.replicate k true)).length := by rw [Zag]; simp
    by_cases hk0 : k = 0
    · subst hk0
      rw [hF0]
      clear hF0 hF1
      repeat' (first|refine wk ?_|(refine wkB ?_ ?_<;>intro hg_<;>try exact wkX)|fail)
      all_goals first
        | exact ret_v (Zam rfl rfl tyF0 rfl rfl rfl (Zal (by exact ⟨Za8, Z0 (Zk rfl) rfl, Zaq, Zaq, trivial⟩)))
        | (exfalso; omega)
    · have he : (List.replicate k true).isEmpty = false := by cases k with
        | zero => exact absurd rfl hk0
        | succ k => rfl
      rw [hF1 _ oM, he]
      clear hF0 hF1
      repeat' (first|refine wk ?_|(refine wkB ?_ ?_<;>intro hg_<;>try exact wkX)|fail)
      all_goals first
        | exact ret_v (Zam rfl rfl tyF0 rfl rfl rfl (Zal (by exact ⟨Za8, Z0 (Zk rfl) hli, Z0 (Zk rfl) hgi, Zaq, trivial⟩)))
        | (exfalso; omega)
theorem zpB : zpOf Tryz.prog 4 = some (.one (R.val (.bool false))):=by kernel_rfl
theorem e_makeB {l : List (Nat × D)} {H : Nat → Option Ob} {o : Oper} {t c : Nat} {m1 m2 : Bool} {i j : Int} {T : TypeId} {x y : Operand} (ho : o.op = .makeSlice T x y) (hd : o.dst = some t) (he : elL tl.els T = some (4,1,1)) (hx : evO l x = some (.one (.r m1 (int i)))) (hy : evO l y = some (.one (.r m2 (int j)))) (hi : i = c) (hj : j = c) (hb : 1 * c ≤ 281474976710656) (h63 : c ≤ maxLen) :
  Eff Tryz.prog H (evD (look l)) o (.one (.own t 0 c 1)) [] [t] [(t,some (.sl 4 1 true (List.replicate c (.one (R.val (.bool false))))))] :=
 eff_make T x y ho (elL_ok tlOk.el he) zpB (Za hx) (Za hy) hi hj hb h63
theorem mark_next {k n : Nat} (h : k < n) : (bools (List.replicate k true ++ List.replicate (n - k) false)).set k (.one (bool true)) = bools (List.replicate (k + 1) true ++ List.replicate (n - (k + 1)) false):=by
 rw [show n - k = (n - (k + 1)) + 1 by omega,List.replicate_succ,List.replicate_succ' (n:=k)]
 unfold bools
 simp [List.set_append]
theorem Zc1 (n : Nat) (hn : n ≤ 16) : FnS Tryz.prog 15 [.one (.r false (int (n : Int)))] [] (.agg [.r true (int 0), .own 2000001 0 n 1, .own 2000002 0 n 1, Zc]) [(2000001, .sl 3 1 true (ints (List.replicate n 0))), (2000002, .sl 4 1 true (bools (List.replicate n true)))] := by
  refine Zab (l := [.cell 2 34]) Tryz.func15 kRf rfl Tryz.ntmps15 rfl rfl ?_; simp only [dEnv, Nat.reduceAdd]
  repeat' (first|refine wk ?_|((first|refine' w_e rfl ?xa ?xb ?xc ?xe ?_|refine' v_e rfl ?xa ?xb ?xc ?xe ?_);(case xa => first|exact Ze 13 rfl (e_make tlOk rfl rfl rfl rfl rfl rfl (c := n) rfl rfl oM (by simp only [maxLen];omega))|exact Ze 15 rfl (e_makeB (c := n) rfl rfl rfl rfl rfl rfl rfl oM (by simp only [maxLen];omega)));(case xb|xc|xe=>rfl);try refine wkD ?_)|(refine wkB ?_ ?_<;>intro hg_<;>try exact wkX)|fail)
  obtain ⟨F, hFs⟩ : ∃ F : Nat → St, ∀ k, F k = mkS 29 [(20, .one (.r true (int (k : Int)))), (19, .one (.r true (int (n : Int)))), (3, .one (.ptr 3 0 0 0)), (2, .one (.ptr 2 0 0 0))] [(3, .var 34 [.r true (int 0), .own 101 0 n 1, .own 102 0 n 1, Zc]), (101, .sl 3 1 true (ints (List.replicate n 0))), (102, .sl 4 1 true (bools (List.replicate k true ++ List.replicate (n - k) false))), (2, .var 34 [.r true (int 0), Zc, Zc, Zc])] := ⟨_, fun _ => rfl⟩
  refine Zac (fun k : Nat => k ≤ n) F (fun k => n - k) 0 (Nat.zero_le _) (by
    rw [hFs]
    (refine Zn [(101, 13), (102, 15)] rfl ?_ ?_ <;> repeat' (first|refine wkS ?_ ?_|exact wkE|exact Zv rfl (by unfold ints;simp)|exact Zv rfl (by unfold bools;simp)))) ?_
  intro k hk
  have hli : n = (ints (List.replicate n 0)).length := by rw [Zr]; simp
  have hw : IntKind.i64.wrap ((k : Int) + 1) = ((k + 1 : Nat) : Int) := by rw [IntWalk.i64_in _ oM]; omega
  by_cases hlt : k < n
  · have hfin : ∀ s' : St, Weak s' (F (k + 1)) → ∃ x' : Nat, x' ≤ n ∧ Weak s' (F x') ∧ n - x' < n - k := fun s' h => ⟨k + 1, by omega, h, by omega⟩
    have hel : (bools (List.replicate k true ++ List.replicate (n - k) false)).length = n := by rw [Zag]; simp; omega
    rw [hFs, ← mark_next hlt] at hfin
    rw [hFs]
    clear hFs
    generalize bools (List.replicate k true ++ List.replicate (n - k) false) = els at *
    repeat' (first|refine wk ?_|((first|refine' w_q rfl rfl ?xa rfl ?_|refine' v_q rfl rfl ?xa rfl ?_|refine' Zm rfl rfl (Zd rfl) rfl ?xa rfl ?_|refine' Zo rfl rfl (Zd rfl) rfl ?xa rfl ?_);case xa => exact Zau tbOk rfl rfl rfl rfl oM oM)|((first|refine' w_e rfl ?xa ?xb ?xc ?xe ?_|refine' v_e rfl ?xa ?xb ?xc ?xe ?_);(case xa => exact e_storeS tbOk rfl rfl rfl rfl rfl rfl rfl rfl oM);(case xb|xc|xe=>rfl);try refine wkD ?_)|(refine wkB ?_ ?_<;>intro hg_<;>try exact wkX)|fail)
    all_goals first
      | (refine hfin _ ?_
         (refine Zn [] rfl ?_ ?_ <;> repeat' (first|refine wkS ?_ ?_|exact wkE|exact Zu hw|exact Zv rfl (by rw [Nat.zero_add, Int.toNat_natCast]))))
      | (exfalso; omega)
  · obtain rfl : k = n := by omega
    rw [hFs, Nat.sub_self, List.replicate_zero, List.append_nil]
    have hgi : k = (bools (List.replicate k true)).length := by rw [Zag]; simp
    clear hFs
    repeat' (first|refine wk ?_|(refine wkB ?_ ?_<;>intro hg_<;>try exact wkX)|fail)
    all_goals first
      | exact Zx [(2000001, 101), (2000002, 102)] rfl sbH (Zat rfl rfl tyF0 rfl rfl rfl (Z9 rfl))
      | (exfalso; omega)
theorem f_implStart (n : Nat) (hn : n ≤ 16) : Fn Tryz.prog 15 [iP (n : Int)] (.v (stateP 0 false (List.replicate n 0) false (List.replicate n true) true [])) := by
  refine Zy (l := [.cell 2 34]) Tryz.func15 kRf rfl Tryz.ntmps15 rfl rfl ?_; simp only [argEnv, P0.d, Nat.reduceAdd]
  repeat' (first|refine wk ?_|((first|refine' w_e rfl ?xa ?xb ?xc ?xe ?_|refine' v_e rfl ?xa ?xb ?xc ?xe ?_);(case xa => first|exact Ze 13 rfl (e_make tlOk rfl rfl rfl rfl rfl rfl (c := n) rfl rfl oM (by simp only [maxLen];omega))|exact Ze 15 rfl (e_makeB (c := n) rfl rfl rfl rfl rfl rfl rfl oM (by simp only [maxLen];omega)));(case xb|xc|xe=>rfl);try refine wkD ?_)|(refine wkB ?_ ?_<;>intro hg_<;>try exact wkX)|fail)
  obtain ⟨F, hFs⟩ : ∃ F : Nat → St, ∀ k, F k = mkS 29 [(20, .one (.r true (int (k : Int)))), (19, .one (.r true (int (n : Int)))), (3, .one (.ptr 3 0 0 0)), (2, .one (.ptr 2 0 0 0))] [(3, .var 34 [.r true (int 0), .own 101 0 n 1, .own 102 0 n 1, Zc]), (101, .sl 3 1 true (ints (List.replicate n 0))), (102, .sl 4 1 true (bools (List.replicate k true ++ List.replicate (n - k) false))), (2, .var 34 [.r true (int 0), Zc, Zc, Zc])] := ⟨_, fun _ => rfl⟩
  refine Zac (fun k : Nat => k ≤ n) F (fun k => n - k) 0 (Nat.zero_le _) (by
    rw [hFs]
    (refine Zn [(101, 13), (102, 15)] rfl ?_ ?_ <;> repeat' (first|refine wkS ?_ ?_|exact wkE|exact Zv rfl (by unfold ints;simp)|exact Zv rfl (by unfold bools;simp)))) ?_
  intro k hk
  have hli : n = (ints (List.replicate n 0)).length := by rw [Zr]; simp
  have hw : IntKind.i64.wrap ((k : Int) + 1) = ((k + 1 : Nat) : Int) := by rw [IntWalk.i64_in _ oM]; omega
  by_cases hlt : k < n
  · have hfin : ∀ s' : St, Weak s' (F (k + 1)) → ∃ x' : Nat, x' ≤ n ∧ Weak s' (F x') ∧ n - x' < n - k := fun s' h => ⟨k + 1, by omega, h, by omega⟩
    have hel : (bools (List.replicate k true ++ List.replicate (n - k) false)).length = n := by rw [Zag]; simp; omega
    rw [hFs, ← mark_next hlt] at hfin
    rw [hFs]
    clear hFs
    generalize bools (List.replicate k true ++ List.replicate (n - k) false) = els at *
    repeat' (first|refine wk ?_|((first|refine' w_q rfl rfl ?xa rfl ?_|refine' v_q rfl rfl ?xa rfl ?_|refine' Zm rfl rfl (Zd rfl) rfl ?xa rfl ?_|refine' Zo rfl rfl (Zd rfl) rfl ?xa rfl ?_);case xa => exact Zau tbOk rfl rfl rfl rfl oM oM)|((first|refine' w_e rfl ?xa ?xb ?xc ?xe ?_|refine' v_e rfl ?xa ?xb ?xc ?xe ?_);(case xa => exact e_storeS tbOk rfl rfl rfl rfl rfl rfl rfl rfl oM);(case xb|xc|xe=>rfl);try refine wkD ?_)|(refine wkB ?_ ?_<;>intro hg_<;>try exact wkX)|fail)
    all_goals first
      | (refine hfin _ ?_
         (refine Zn [] rfl ?_ ?_ <;> repeat' (first|refine wkS ?_ ?_|exact wkE|exact Zu hw|exact Zv rfl (by rw [Nat.zero_add, Int.toNat_natCast]))))
      | (exfalso; omega)
  · obtain rfl : k = n := by omega
    rw [hFs, Nat.sub_self, List.replicate_zero, List.append_nil]
    have hgi : k = (bools (List.replicate k true)).length := by rw [Zag]; simp
    clear hFs
    repeat' (first|refine wk ?_|(refine wkB ?_ ?_<;>intro hg_<;>try exact wkX)|fail)
    all_goals first
      | exact ret_v (Zam rfl rfl tyF0 rfl rfl rfl (Zal (by exact ⟨Za8, Z0 (Zk rfl) hli, Z0 (Zk rfl) hgi, Zaq, trivial⟩)))
      | (exfalso; omega)
end Go.Proofs.YtmkijbfiilpccaaGreat.Abs
