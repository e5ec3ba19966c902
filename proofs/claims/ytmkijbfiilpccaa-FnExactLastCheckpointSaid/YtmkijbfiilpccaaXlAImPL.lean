/- Checkpoints by states: the program's reading of one checkpoint. No statement of the seat is proved here. -/
import Derived.Lib.Hide
import Derived.Test.YtmkijbfiilpccaaXlTy
import Derived.Test.YtmkijbfiilpccaaXlAImVM
import Derived.Test.YtmkijbfiilpccaaXlGCki
set_option linter.unusedSimpArgs false
set_option linter.unusedVariables false
set_option maxRecDepth 100000
set_option maxHeartbeats 8000000
namespace Go.Proofs.Ytmkijbfiilpccaa.Abs
open Go.RowKit
open R (val row ref)
def rowC (e : Bool) (k n sz : Nat) : Cell:=if e then Zc else .own k 0 n sz
def stT : Option Sta → D
 | none=>.tups [(true,[.r true (int 0),Zc,Zc,Zc]),(false,[.r true (bool false)])]
 | some s=>.tups [(true,[.r true (int s.r),rowC s.vs.isEmpty 2000001 s.vs.length 1,rowC s.vs.isEmpty 2000002 s.gs.length 1,rowC s.ms.isEmpty 2000003 s.ms.length 3]),(false,[.r true (bool true)])]
def stH : Option Sta → List (Nat × Ob)
 | none=>[]
 | some s=>(if s.vs.isEmpty then [] else [(2000001,.sl 3 1 true (ints s.vs)),(2000002,.sl 4 1 true (bools s.gs))]) ++ (if s.ms.isEmpty then [] else [(2000003,.sl 70 3 true (edges s.ms))])
theorem nbForm1 (tag : Int) (k : Nat) (b : List Int) : (∃ nn ns,nbRes (nbF tag k b) = .tup [.one (row nn 1 (ints ns)),.one (bool false)] ∧ ∀ ms,nbF tag k b ≠ (some ms,true)) ∨ (∃ ns,nbF tag k b = (some ns,true) ∧ nbRes (nbF tag k b) = .tup [.one (row false 1 (ints ns)),.one (bool true)]):=by
 rcases h : nbF tag k b with ⟨o,q⟩
 cases o with
 | none=>exact .inl ⟨true,[],rfl,fun ms e=>by cases e⟩
 | some ns =>
  cases q
  ·exact .inl ⟨false,ns,rfl,fun ms e=>by cases e⟩
  ·exact .inr ⟨ns,rfl,rfl⟩
theorem Zaz (D : List (List Int)) (a n : Nat) : ((rowsI D).drop a).take n = rowsI ((D.drop a).take n):=by unfold rowsI; rw [List.map_take,List.map_drop]
theorem f_ownValid (r : Int) (nv ng nm : Bool) (vs : List Int) (gs : List Bool) (ms : List E3) (hv : vs.length ≤ maxLen) (hg : gs.length ≤ maxLen) (hl : ms.length ≤ maxLen) : Fn Try.prog 42 [stateP r nv vs ng gs nm ms] (.v (.one (bool (stOk vs.length r vs gs.length ms)))):=by
 have hlenV:=Zp vs
 have K:=f_implStateValid ((ints vs).length : Int) r nv ng nm vs gs ms hv hg hl
 have e : stOk ((ints vs).length : Int) r vs gs.length ms = stOk (vs.length : Int) r vs gs.length ms:=by rw [hlenV]
 rw [e] at K
 clear e
 generalize stOk vs.length r vs gs.length ms = b at *
 refine Zy (l:=[.tmp 2]) Try.func42 kRf rfl Try.ntmps42 rfl rfl ?_; simp only [argEnv,P0.d,Nat.reduceAdd,stateP,List.map_cons,List.map_nil]
 repeat' (first|refine wk ?_|((first|refine' w_q rfl rfl ?xa rfl ?_|refine' v_q rfl rfl ?xa rfl ?_|refine' Zh rfl rfl (Zb rfl) rfl ?xa rfl ?_|refine' Zi rfl rfl (Zb rfl) rfl ?xa rfl ?_);case xa=>exact Ze K rfl ⟨Zw (Za rfl) ⟨Zk,Zk,Zk,Zk,trivial⟩,Zd (Za rfl),trivial⟩)|(refine wkB ?_ ?_<;>intro hg_<;>try exact wkX)|fail)
 all_goals exact Zt rfl (Zo rfl)
theorem f_ckAtHead (nil : Bool) (D : List (List Int)) (b : List Int) (hx : (rowsI D)[(0 : Int).toNat]? = some (rowP b)) (h0 : 0 < D.length) (h : ∀ ns,nbF 1 3 b ≠ (some ns,true)) :
  FnS Try.prog 29 [.one (.r false (row nil 1 (rowsI D)))] [] (stT none) (stH none):=by
 have hlen:=Zag D
 have KN:=Zav false b 1 3 oM
 rcases nbForm1 1 3 b with ⟨nn,ns,e1,_⟩ | ⟨ns,e1,_⟩
 ·rw [e1] at KN
  unfold stT stH
  clear e1 h
  refine Zac (l:=[.cell 2 28,.tmp 3]) Try.func29 kRf rfl Try.ntmps29 rfl rfl ?_; simp only [dEnv,Nat.reduceAdd]
  repeat' (first|refine wk ?_|((first|refine' w_q rfl rfl ?xa rfl ?_|refine' v_q rfl rfl ?xa rfl ?_|refine' Zh rfl rfl (Zb rfl) rfl ?xa rfl ?_|refine' Zi rfl rfl (Zb rfl) rfl ?xa rfl ?_);case xa=>first|exact Zn tbOk rfl rfl rfl rfl oM hx|exact Ze KN rfl ⟨Zd (Za rfl),Zd (Za rfl),Zd (Za rfl),trivial⟩)|(refine wkB ?_ ?_<;>intro hg_<;>try exact wkX)|fail)
  all_goals first
   | exact Zu [] rfl sbH (Zap (x:=(true,_)) (y:=(false,[_])) (Zan rfl rfl tyF0 rfl rfl rfl) rfl (Zao rfl) rfl (Zak (tups2 rfl rfl)))
 ·exact absurd e1 (h ns)
theorem f_ckAtSize (nil : Bool) (D : List (List Int)) (b : List Int) (r : Int) (m w : Nat) (hl : D.length ≤ 2000) (hm : m ≤ 1000000) (hw : w ≤ 1000000) (hx : (rowsI D)[(0 : Int).toNat]? = some (rowP b)) (h0 : 0 < D.length) (h : nbF 1 3 b = (some [r,(m : Int),(w : Int)],true)) (hs : D.length < m + w + 2) :
  FnS Try.prog 29 [.one (.r false (row nil 1 (rowsI D)))] [] (stT none) (stH none):=by
 have hlen:=Zag D
 have KN:=Zav false b 1 3 oM
 rw [h] at KN
 unfold nbRes at KN
 dsimp only at KN
 have hx1 : (ints [r,(m : Int),(w : Int)])[(1 : Int).toNat]? = some (iP (m : Int)):=rfl
 have hx2 : (ints [r,(m : Int),(w : Int)])[(2 : Int).toNat]? = some (iP (w : Int)):=rfl
 have hli : (ints [r,(m : Int),(w : Int)]).length = 3:=rfl
 have hw1 : IntKind.i64.wrap (IntKind.i64.wrap ((m : Int) + (w : Int)) + 2) = (m : Int) + w + 2:=by rw [IntWalk.i64_in ((m : Int) + (w : Int)) oM,IntWalk.i64_in _ oM]
 unfold stT stH
 refine Zac (l:=[.cell 2 28,.tmp 3]) Try.func29 kRf rfl Try.ntmps29 rfl rfl ?_; simp only [dEnv,Nat.reduceAdd]
 repeat' (first|refine wk ?_|((first|refine' w_q rfl rfl ?xa rfl ?_|refine' v_q rfl rfl ?xa rfl ?_|refine' Zh rfl rfl (Zb rfl) rfl ?xa rfl ?_|refine' Zi rfl rfl (Zb rfl) rfl ?xa rfl ?_);case xa=>first|exact Zn tbOk rfl rfl rfl rfl oM (by first|exact hx|exact hx1|exact hx2)|exact Ze KN rfl ⟨Zd (Za rfl),Zd (Za rfl),Zd (Za rfl),trivial⟩)|(refine wkB ?_ ?_<;>intro hg_<;>try exact wkX)|fail)
 all_goals first
  | exact Zu [] rfl sbH (Zap (x:=(true,_)) (y:=(false,[_])) (Zan rfl rfl tyF0 rfl rfl rfl) rfl (Zao rfl) rfl (Zak (tups2 rfl rfl)))
  | (exfalso; omega)
theorem f_ckAtVals (nil : Bool) (D : List (List Int)) (b c : List Int) (r : Int) (m w : Nat) (hl : D.length ≤ 2000) (hx : (rowsI D)[(0 : Int).toNat]? = some (rowP b)) (h0 : 0 < D.length) (h : nbF 1 3 b = (some [r,(m : Int),(w : Int)],true)) (hs : m + w + 2 ≤ D.length) (hc : (rowsI D)[((1 + m + w : Nat) : Int).toNat]? = some (rowP c)) (hv : rdAll rdV1 ((D.drop 1).take m) = none) :
  FnS Try.prog 29 [.one (.r false (row nil 1 (rowsI D)))] [] (stT none) (stH none):=by
 have hlen:=Zag D
 have KN:=Zav false b 1 3 oM
 rw [h] at KN
 unfold nbRes at KN
 dsimp only at KN
 have hx0 : (ints [r,(m : Int),(w : Int)])[(0 : Int).toNat]? = some (iP r):=rfl
 have hx1 : (ints [r,(m : Int),(w : Int)])[(1 : Int).toNat]? = some (iP (m : Int)):=rfl
 have hx2 : (ints [r,(m : Int),(w : Int)])[(2 : Int).toNat]? = some (iP (w : Int)):=rfl
 have hli : (ints [r,(m : Int),(w : Int)]).length = 3:=rfl
 have hw1 : IntKind.i64.wrap (IntKind.i64.wrap ((m : Int) + (w : Int)) + 2) = (m : Int) + w + 2:=by rw [IntWalk.i64_in ((m : Int) + (w : Int)) oM,IntWalk.i64_in _ oM]
 have hq1 : IntKind.i64.wrap (1 + (m : Int)) = ((1 + m : Nat) : Int):=by rw [IntWalk.i64_in _ oM]; omega
 have hq2 : IntKind.i64.wrap (IntKind.i64.wrap (1 + (m : Int)) + (w : Int)) = ((1 + m + w : Nat) : Int):=by rw [hq1,IntWalk.i64_in _ oM]; omega
 have hd1 : Abs.D.one (Cell.r true (int (IntKind.i64.wrap (1 + (m : Int))))) = Abs.D.one (.r true (int ((1 + m : Nat) : Int))):=by rw [hq1]
 have hd2 : Abs.D.one (Cell.r true (int (IntKind.i64.wrap (IntKind.i64.wrap (1 + (m : Int)) + (w : Int))))) = Abs.D.one (.r true (int ((1 + m + w : Nat) : Int))):=by rw [hq2]
 have hpV : ((rowsI D).drop 1).take (1 + m - 1) = rowsI ((D.drop 1).take m):=by rw [Zaz,show 1 + m - 1 = m by omega]
 have hpM : ((rowsI D).drop (1 + m)).take (1 + m + w - (1 + m)) = rowsI ((D.drop (1 + m)).take w):=by rw [Zaz,show 1 + m + w - (1 + m) = w by omega]
 have hbl : ((D.drop 1).take m).length ≤ 2000:=by simp; omega
 have hbm : ((D.drop (1 + m)).take w).length ≤ 2000:=by simp; omega
 rw [← hq2] at hc
 have hc0 : 0 ≤ IntKind.i64.wrap (IntKind.i64.wrap (1 + (m : Int)) + (w : Int)):=by rw [hq2]; omega
 have KV:=f_readValuesNo nil _ r hbl hv
 rw [← hpV] at KV
 unfold stT stH
 refine Zac (l:=[.cell 2 28,.tmp 3]) Try.func29 kRf rfl Try.ntmps29 rfl rfl ?_; simp only [dEnv,Nat.reduceAdd]
 repeat' (first|refine wk ?_|((first|refine' w_q rfl rfl ?xa rfl ?_|refine' v_q rfl rfl ?xa rfl ?_|refine' Zh rfl rfl (Zb rfl) rfl ?xa rfl ?_|refine' Zi rfl rfl (Zb rfl) rfl ?xa rfl ?_);case xa=>first|exact Zn tbOk rfl rfl rfl rfl (by first|omega|exact hc0) (by first|exact hx|exact hx0|exact hx1|exact hx2|exact hc)|exact Z9 (a:=1) (b:=1 + m) tbOk rfl rfl rfl ⟨_,Za rfl⟩ ⟨_,(Za rfl).trans hd1⟩ oM oM|exact Ze KN rfl ⟨Zd (Za rfl),Zd (Za rfl),Zd (Za rfl),trivial⟩)|((first|refine' w_e rfl ?xa ?xb ?xc ?xe ?_|refine' v_e rfl ?xa ?xb ?xc ?xe ?_);(case xa=>exact Zj 43 rfl (Zm [(1000000000,8)] KV rfl ⟨Zl (Za rfl),asE,trivial⟩ sbH rfl));(case xb|xc|xe=>rfl);try refine wkD ?_)|((first|refine' w_ey rfl rfl (Zb rfl) ?xa ?xb ?xc ?xe ?_|refine' v_ey rfl rfl (Zb rfl) ?xa ?xb ?xc ?xe ?_);(case xa=>exact Zj 43 rfl (Zm [(1000000000,8)] KV rfl ⟨Zl (Za rfl),asE,trivial⟩ sbH rfl));(case xb|xc|xe=>rfl);try refine wkD ?_)|(refine wkB ?_ ?_<;>intro hg_<;>try exact wkX)|fail)
 all_goals first
  | exact Zu [] rfl sbH (Zap (x:=(true,_)) (y:=(false,[_])) (Zan rfl rfl tyF0 rfl rfl rfl) rfl (Zao rfl) rfl (Zak (tups2 rfl rfl)))
  | (exfalso; omega)
theorem f_ckAtMsgsZ (nil : Bool) (D : List (List Int)) (b c : List Int) (r : Int) (m w : Nat) (hl : D.length ≤ 2000) (hx : (rowsI D)[(0 : Int).toNat]? = some (rowP b)) (h0 : 0 < D.length) (h : nbF 1 3 b = (some [r,(m : Int),(w : Int)],true)) (hs : m + w + 2 ≤ D.length) (hc : (rowsI D)[((1 + m + w : Nat) : Int).toNat]? = some (rowP c)) (hv : rdAll rdV1 ((D.drop 1).take m) = some []) (hm : rdAll rdM1 ((D.drop (1 + m)).take w) = none) :
  FnS Try.prog 29 [.one (.r false (row nil 1 (rowsI D)))] [] (stT none) (stH none):=by
 have hlen:=Zag D
 have KN:=Zav false b 1 3 oM
 rw [h] at KN
 unfold nbRes at KN
 dsimp only at KN
 have hx0 : (ints [r,(m : Int),(w : Int)])[(0 : Int).toNat]? = some (iP r):=rfl
 have hx1 : (ints [r,(m : Int),(w : Int)])[(1 : Int).toNat]? = some (iP (m : Int)):=rfl
 have hx2 : (ints [r,(m : Int),(w : Int)])[(2 : Int).toNat]? = some (iP (w : Int)):=rfl
 have hli : (ints [r,(m : Int),(w : Int)]).length = 3:=rfl
 have hw1 : IntKind.i64.wrap (IntKind.i64.wrap ((m : Int) + (w : Int)) + 2) = (m : Int) + w + 2:=by rw [IntWalk.i64_in ((m : Int) + (w : Int)) oM,IntWalk.i64_in _ oM]
 have hq1 : IntKind.i64.wrap (1 + (m : Int)) = ((1 + m : Nat) : Int):=by rw [IntWalk.i64_in _ oM]; omega
 have hq2 : IntKind.i64.wrap (IntKind.i64.wrap (1 + (m : Int)) + (w : Int)) = ((1 + m + w : Nat) : Int):=by rw [hq1,IntWalk.i64_in _ oM]; omega
 have hd1 : Abs.D.one (Cell.r true (int (IntKind.i64.wrap (1 + (m : Int))))) = Abs.D.one (.r true (int ((1 + m : Nat) : Int))):=by rw [hq1]
 have hd2 : Abs.D.one (Cell.r true (int (IntKind.i64.wrap (IntKind.i64.wrap (1 + (m : Int)) + (w : Int))))) = Abs.D.one (.r true (int ((1 + m + w : Nat) : Int))):=by rw [hq2]
 have hpV : ((rowsI D).drop 1).take (1 + m - 1) = rowsI ((D.drop 1).take m):=by rw [Zaz,show 1 + m - 1 = m by omega]
 have hpM : ((rowsI D).drop (1 + m)).take (1 + m + w - (1 + m)) = rowsI ((D.drop (1 + m)).take w):=by rw [Zaz,show 1 + m + w - (1 + m) = w by omega]
 have hbl : ((D.drop 1).take m).length ≤ 2000:=by simp; omega
 have hbm : ((D.drop (1 + m)).take w).length ≤ 2000:=by simp; omega
 rw [← hq2] at hc
 have hc0 : 0 ≤ IntKind.i64.wrap (IntKind.i64.wrap (1 + (m : Int)) + (w : Int)):=by rw [hq2]; omega
 have hnil : (D.drop 1).take m = []:=List.eq_nil_of_length_eq_zero (by rw [← Za5 hv]; rfl)
 have KV:=Zb1 nil r
 rw [← hnil,← hpV] at KV
 have KM:=f_readMsNoZ nil _ r hbm hm
 rw [← hpM] at KM
 unfold stT stH
 refine Zac (l:=[.cell 2 28,.tmp 3]) Try.func29 kRf rfl Try.ntmps29 rfl rfl ?_; simp only [dEnv,Nat.reduceAdd]
 repeat' (first|refine wk ?_|((first|refine' w_q rfl rfl ?xa rfl ?_|refine' v_q rfl rfl ?xa rfl ?_|refine' Zh rfl rfl (Zb rfl) rfl ?xa rfl ?_|refine' Zi rfl rfl (Zb rfl) rfl ?xa rfl ?_);case xa=>first|exact Zn tbOk rfl rfl rfl rfl (by first|omega|exact hc0) (by first|exact hx|exact hx0|exact hx1|exact hx2|exact hc)|exact Z9 (a:=1) (b:=1 + m) tbOk rfl rfl rfl ⟨_,Za rfl⟩ ⟨_,(Za rfl).trans hd1⟩ oM oM|exact Z9 (a:=1 + m) (b:=1 + m + w) tbOk rfl rfl rfl ⟨_,(Za rfl).trans hd1⟩ ⟨_,(Za rfl).trans hd2⟩ oM oM|exact Ze KN rfl ⟨Zd (Za rfl),Zd (Za rfl),Zd (Za rfl),trivial⟩)|((first|refine' w_e rfl ?xa ?xb ?xc ?xe ?_|refine' v_e rfl ?xa ?xb ?xc ?xe ?_);(case xa=>first|exact Zj 43 rfl (Zm [(1000000000,8)] KV rfl ⟨Zl (Za rfl),asE,trivial⟩ sbH rfl)|exact Zj 54 rfl (Zm [(1000000000,8),(2000001,503)] KM rfl ⟨Zl (Za rfl),asE,trivial⟩ sbH rfl));(case xb|xc|xe=>rfl);try refine wkD ?_)|((first|refine' w_ey rfl rfl (Zb rfl) ?xa ?xb ?xc ?xe ?_|refine' v_ey rfl rfl (Zb rfl) ?xa ?xb ?xc ?xe ?_);(case xa=>first|exact Zj 43 rfl (Zm [(1000000000,8)] KV rfl ⟨Zl (Za rfl),asE,trivial⟩ sbH rfl)|exact Zj 54 rfl (Zm [(1000000000,8),(2000001,503)] KM rfl ⟨Zl (Za rfl),asE,trivial⟩ sbH rfl));(case xb|xc|xe=>rfl);try refine wkD ?_)|(refine wkB ?_ ?_<;>intro hg_<;>try exact wkX)|fail)
 all_goals first
  | exact Zu [] rfl sbH (Zap (x:=(true,_)) (y:=(false,[_])) (Zan rfl rfl tyF0 rfl rfl rfl) rfl (Zao rfl) rfl (Zak (tups2 rfl rfl)))
  | (exfalso; omega)
theorem f_ckAtEndZZ (nil : Bool) (D : List (List Int)) (b c : List Int) (r : Int) (m w : Nat) (hl : D.length ≤ 2000) (hx : (rowsI D)[(0 : Int).toNat]? = some (rowP b)) (h0 : 0 < D.length) (h : nbF 1 3 b = (some [r,(m : Int),(w : Int)],true)) (hs : m + w + 2 ≤ D.length) (hc : (rowsI D)[((1 + m + w : Nat) : Int).toNat]? = some (rowP c)) (hv : rdAll rdV1 ((D.drop 1).take m) = some []) (hm : rdAll rdM1 ((D.drop (1 + m)).take w) = some []) (X : Option Sta) (hX0 : ((∀ ns,nbF 4 0 c ≠ (some ns,true)) ∨ Sta.ok ⟨r,[],[],[]⟩ = false) → X = none) (hX1 : (∃ ns,nbF 4 0 c = (some ns,true)) → Sta.ok ⟨r,[],[],[]⟩ = true → X = some ⟨r,[],[],[]⟩) :
  FnS Try.prog 29 [.one (.r false (row nil 1 (rowsI D)))] [] (stT X) (stH X):=by
 have hlen:=Zag D
 have KN:=Zav false b 1 3 oM
 rw [h] at KN
 unfold nbRes at KN
 dsimp only at KN
 have hx0 : (ints [r,(m : Int),(w : Int)])[(0 : Int).toNat]? = some (iP r):=rfl
 have hx1 : (ints [r,(m : Int),(w : Int)])[(1 : Int).toNat]? = some (iP (m : Int)):=rfl
 have hx2 : (ints [r,(m : Int),(w : Int)])[(2 : Int).toNat]? = some (iP (w : Int)):=rfl
 have hli : (ints [r,(m : Int),(w : Int)]).length = 3:=rfl
 have hw1 : IntKind.i64.wrap (IntKind.i64.wrap ((m : Int) + (w : Int)) + 2) = (m : Int) + w + 2:=by rw [IntWalk.i64_in ((m : Int) + (w : Int)) oM,IntWalk.i64_in _ oM]
 have hq1 : IntKind.i64.wrap (1 + (m : Int)) = ((1 + m : Nat) : Int):=by rw [IntWalk.i64_in _ oM]; omega
 have hq2 : IntKind.i64.wrap (IntKind.i64.wrap (1 + (m : Int)) + (w : Int)) = ((1 + m + w : Nat) : Int):=by rw [hq1,IntWalk.i64_in _ oM]; omega
 have hd1 : Abs.D.one (Cell.r true (int (IntKind.i64.wrap (1 + (m : Int))))) = Abs.D.one (.r true (int ((1 + m : Nat) : Int))):=by rw [hq1]
 have hd2 : Abs.D.one (Cell.r true (int (IntKind.i64.wrap (IntKind.i64.wrap (1 + (m : Int)) + (w : Int))))) = Abs.D.one (.r true (int ((1 + m + w : Nat) : Int))):=by rw [hq2]
 have hpV : ((rowsI D).drop 1).take (1 + m - 1) = rowsI ((D.drop 1).take m):=by rw [Zaz,show 1 + m - 1 = m by omega]
 have hpM : ((rowsI D).drop (1 + m)).take (1 + m + w - (1 + m)) = rowsI ((D.drop (1 + m)).take w):=by rw [Zaz,show 1 + m + w - (1 + m) = w by omega]
 have hbl : ((D.drop 1).take m).length ≤ 2000:=by simp; omega
 have hbm : ((D.drop (1 + m)).take w).length ≤ 2000:=by simp; omega
 rw [← hq2] at hc
 have hc0 : 0 ≤ IntKind.i64.wrap (IntKind.i64.wrap (1 + (m : Int)) + (w : Int)):=by rw [hq2]; omega
 have hnil : (D.drop 1).take m = []:=List.eq_nil_of_length_eq_zero (by rw [← Za5 hv]; rfl)
 have KV:=Zb1 nil r
 rw [← hnil,← hpV] at KV
 have hnilM : (D.drop (1 + m)).take w = []:=List.eq_nil_of_length_eq_zero (by rw [← Za5 hm]; rfl)
 have KM:=f_readMsNilZ nil r
 rw [← hnilM,← hpM] at KM
 have hMl : ([] : List E3).length ≤ 2000:=by simp
 have KE:=Zav false c 4 0 oM
 have KO:=f_ownValid r true true true (⟨r,[],[],[]⟩ : Sta).vs (⟨r,[],[],[]⟩ : Sta).gs (⟨r,[],[],[]⟩ : Sta).ms (by simp only [maxLen,List.length_nil]; omega) (by simp only [maxLen,List.length_nil]; omega) (by simp only [maxLen]; omega)
 rw [show stOk (((⟨r,[],[],[]⟩ : Sta).vs.length : Nat) : Int) r (⟨r,[],[],[]⟩ : Sta).vs (⟨r,[],[],[]⟩ : Sta).gs.length (⟨r,[],[],[]⟩ : Sta).ms = Sta.ok ⟨r,[],[],[]⟩ from rfl] at KO
 dsimp only at KO
 generalize hok : Sta.ok ⟨r,[],[],[]⟩ = ok at *
 have hfall : (X = none) ∨ (X = some ⟨r,[],[],[]⟩ ∧ (∃ ns,nbF 4 0 c = (some ns,true) ∧ nbRes (nbF 4 0 c) = .tup [.one (row false 1 (ints ns)),.one (bool true)]) ∧ ok = true):=by
  rcases nbForm1 4 0 c with ⟨nn,ns,e1,e2⟩ | ⟨ns,e1,e2⟩
  ·exact .inl (hX0 (.inl e2))
  ·cases ok
   ·exact .inl (hX0 (.inr rfl))
   ·exact .inr ⟨hX1 ⟨ns,e1⟩ rfl,⟨ns,e1,e2⟩,rfl⟩
 rcases hfall with hX | ⟨hX,⟨ns,e1,e2⟩,rfl⟩
 ·have hno : X = none:=hX
  rw [hno]
  unfold stT stH
  rcases nbForm1 4 0 c with ⟨nn,ns,e1,e2⟩ | ⟨ns,e1,e2⟩
  ·rw [e1] at KE
   refine Zac (l:=[.cell 2 28,.tmp 3]) Try.func29 kRf rfl Try.ntmps29 rfl rfl ?_; simp only [dEnv,Nat.reduceAdd]
   repeat' (first|refine wk ?_|((first|refine' w_q rfl rfl ?xa rfl ?_|refine' v_q rfl rfl ?xa rfl ?_|refine' Zh rfl rfl (Zb rfl) rfl ?xa rfl ?_|refine' Zi rfl rfl (Zb rfl) rfl ?xa rfl ?_);case xa=>first|exact Zn tbOk rfl rfl rfl rfl (by first|omega|exact hc0) (by first|exact hx|exact hx0|exact hx1|exact hx2|exact hc)|exact Z9 (a:=1) (b:=1 + m) tbOk rfl rfl rfl ⟨_,Za rfl⟩ ⟨_,(Za rfl).trans hd1⟩ oM oM|exact Z9 (a:=1 + m) (b:=1 + m + w) tbOk rfl rfl rfl ⟨_,(Za rfl).trans hd1⟩ ⟨_,(Za rfl).trans hd2⟩ oM oM|exact Ze KN rfl ⟨Zd (Za rfl),Zd (Za rfl),Zd (Za rfl),trivial⟩|exact Ze KE rfl ⟨Zd (Za rfl),Zd (Za rfl),Zd (Za rfl),trivial⟩|exact Ze KO rfl ⟨Zw (Za rfl) ⟨Zk,Z5,Z5,Z5,trivial⟩,trivial⟩)|((first|refine' w_e rfl ?xa ?xb ?xc ?xe ?_|refine' v_e rfl ?xa ?xb ?xc ?xe ?_);(case xa=>first|exact Zj 43 rfl (Zm [(1000000000,8)] KV rfl ⟨Zl (Za rfl),asE,trivial⟩ sbH rfl)|exact Zj 54 rfl (Zm [(1000000000,8),(2000001,503)] KM rfl ⟨Zl (Za rfl),asE,trivial⟩ sbH rfl));(case xb|xc|xe=>rfl);try refine wkD ?_)|((first|refine' w_ey rfl rfl (Zb rfl) ?xa ?xb ?xc ?xe ?_|refine' v_ey rfl rfl (Zb rfl) ?xa ?xb ?xc ?xe ?_);(case xa=>first|exact Zj 43 rfl (Zm [(1000000000,8)] KV rfl ⟨Zl (Za rfl),asE,trivial⟩ sbH rfl)|exact Zj 54 rfl (Zm [(1000000000,8),(2000001,503)] KM rfl ⟨Zl (Za rfl),asE,trivial⟩ sbH rfl));(case xb|xc|xe=>rfl);try refine wkD ?_)|(refine wkB ?_ ?_<;>intro hg_<;>try exact wkX)|fail)
   all_goals first
  | exact Zu [] rfl sbH (Zap (x:=(true,_)) (y:=(false,[_])) (Zan rfl rfl tyF0 rfl rfl rfl) rfl (Zao rfl) rfl (Zak (tups2 rfl rfl)))
  | (exfalso; omega)
  ·have hok0 : ok = false:=by
    cases ok
    ·rfl
    ·have:=hX1 ⟨ns,e1⟩ rfl
     rw [hno] at this; cases this
   subst hok0
   rw [e2] at KE
   refine Zac (l:=[.cell 2 28,.tmp 3]) Try.func29 kRf rfl Try.ntmps29 rfl rfl ?_; simp only [dEnv,Nat.reduceAdd]
   repeat' (first|refine wk ?_|((first|refine' w_q rfl rfl ?xa rfl ?_|refine' v_q rfl rfl ?xa rfl ?_|refine' Zh rfl rfl (Zb rfl) rfl ?xa rfl ?_|refine' Zi rfl rfl (Zb rfl) rfl ?xa rfl ?_);case xa=>first|exact Zn tbOk rfl rfl rfl rfl (by first|omega|exact hc0) (by first|exact hx|exact hx0|exact hx1|exact hx2|exact hc)|exact Z9 (a:=1) (b:=1 + m) tbOk rfl rfl rfl ⟨_,Za rfl⟩ ⟨_,(Za rfl).trans hd1⟩ oM oM|exact Z9 (a:=1 + m) (b:=1 + m + w) tbOk rfl rfl rfl ⟨_,(Za rfl).trans hd1⟩ ⟨_,(Za rfl).trans hd2⟩ oM oM|exact Ze KN rfl ⟨Zd (Za rfl),Zd (Za rfl),Zd (Za rfl),trivial⟩|exact Ze KE rfl ⟨Zd (Za rfl),Zd (Za rfl),Zd (Za rfl),trivial⟩|exact Ze KO rfl ⟨Zw (Za rfl) ⟨Zk,Z5,Z5,Z5,trivial⟩,trivial⟩)|((first|refine' w_e rfl ?xa ?xb ?xc ?xe ?_|refine' v_e rfl ?xa ?xb ?xc ?xe ?_);(case xa=>first|exact Zj 43 rfl (Zm [(1000000000,8)] KV rfl ⟨Zl (Za rfl),asE,trivial⟩ sbH rfl)|exact Zj 54 rfl (Zm [(1000000000,8),(2000001,503)] KM rfl ⟨Zl (Za rfl),asE,trivial⟩ sbH rfl));(case xb|xc|xe=>rfl);try refine wkD ?_)|((first|refine' w_ey rfl rfl (Zb rfl) ?xa ?xb ?xc ?xe ?_|refine' v_ey rfl rfl (Zb rfl) ?xa ?xb ?xc ?xe ?_);(case xa=>first|exact Zj 43 rfl (Zm [(1000000000,8)] KV rfl ⟨Zl (Za rfl),asE,trivial⟩ sbH rfl)|exact Zj 54 rfl (Zm [(1000000000,8),(2000001,503)] KM rfl ⟨Zl (Za rfl),asE,trivial⟩ sbH rfl));(case xb|xc|xe=>rfl);try refine wkD ?_)|(refine wkB ?_ ?_<;>intro hg_<;>try exact wkX)|fail)
   all_goals first
  | exact Zu [] rfl sbH (Zap (x:=(true,_)) (y:=(false,[_])) (Zan rfl rfl tyF0 rfl rfl rfl) rfl (Zao rfl) rfl (Zak (tups2 rfl rfl)))
  | (exfalso; omega)
 ·rw [e2] at KE
  have hT : stT X = .tups [(true,[.r true (int r),Zc,Zc,Zc]),(false,[.r true (bool true)])]:=by rw [hX]; rfl
  have hH : stH X = []:=by rw [hX]; rfl
  rw [hT,hH]
  refine Zac (l:=[.cell 2 28,.tmp 3]) Try.func29 kRf rfl Try.ntmps29 rfl rfl ?_; simp only [dEnv,Nat.reduceAdd]
  repeat' (first|refine wk ?_|((first|refine' w_q rfl rfl ?xa rfl ?_|refine' v_q rfl rfl ?xa rfl ?_|refine' Zh rfl rfl (Zb rfl) rfl ?xa rfl ?_|refine' Zi rfl rfl (Zb rfl) rfl ?xa rfl ?_);case xa=>first|exact Zn tbOk rfl rfl rfl rfl (by first|omega|exact hc0) (by first|exact hx|exact hx0|exact hx1|exact hx2|exact hc)|exact Z9 (a:=1) (b:=1 + m) tbOk rfl rfl rfl ⟨_,Za rfl⟩ ⟨_,(Za rfl).trans hd1⟩ oM oM|exact Z9 (a:=1 + m) (b:=1 + m + w) tbOk rfl rfl rfl ⟨_,(Za rfl).trans hd1⟩ ⟨_,(Za rfl).trans hd2⟩ oM oM|exact Ze KN rfl ⟨Zd (Za rfl),Zd (Za rfl),Zd (Za rfl),trivial⟩|exact Ze KE rfl ⟨Zd (Za rfl),Zd (Za rfl),Zd (Za rfl),trivial⟩|exact Ze KO rfl ⟨Zw (Za rfl) ⟨Zk,Z5,Z5,Z5,trivial⟩,trivial⟩)|((first|refine' w_e rfl ?xa ?xb ?xc ?xe ?_|refine' v_e rfl ?xa ?xb ?xc ?xe ?_);(case xa=>first|exact Zj 43 rfl (Zm [(1000000000,8)] KV rfl ⟨Zl (Za rfl),asE,trivial⟩ sbH rfl)|exact Zj 54 rfl (Zm [(1000000000,8),(2000001,503)] KM rfl ⟨Zl (Za rfl),asE,trivial⟩ sbH rfl));(case xb|xc|xe=>rfl);try refine wkD ?_)|((first|refine' w_ey rfl rfl (Zb rfl) ?xa ?xb ?xc ?xe ?_|refine' v_ey rfl rfl (Zb rfl) ?xa ?xb ?xc ?xe ?_);(case xa=>first|exact Zj 43 rfl (Zm [(1000000000,8)] KV rfl ⟨Zl (Za rfl),asE,trivial⟩ sbH rfl)|exact Zj 54 rfl (Zm [(1000000000,8),(2000001,503)] KM rfl ⟨Zl (Za rfl),asE,trivial⟩ sbH rfl));(case xb|xc|xe=>rfl);try refine wkD ?_)|(refine wkB ?_ ?_<;>intro hg_<;>try exact wkX)|fail)
  all_goals first
  | exact Zu [(2000001,501),(2000002,502),(2000003,503)] rfl sbH (Zap (x:=(true,_)) (y:=(false,[_])) (Zan rfl rfl tyF0 rfl rfl rfl) rfl (Zao rfl) rfl (Zak (tups2 rfl rfl)))
  | (exfalso; omega)
theorem f_ckAtEndZO (nil : Bool) (D : List (List Int)) (b c : List Int) (r : Int) (m w : Nat) (hl : D.length ≤ 2000) (hx : (rowsI D)[(0 : Int).toNat]? = some (rowP b)) (h0 : 0 < D.length) (h : nbF 1 3 b = (some [r,(m : Int),(w : Int)],true)) (hs : m + w + 2 ≤ D.length) (hc : (rowsI D)[((1 + m + w : Nat) : Int).toNat]? = some (rowP c)) (hv : rdAll rdV1 ((D.drop 1).take m) = some []) (M : List E3) (hm : rdAll rdM1 ((D.drop (1 + m)).take w) = some M) (hMn : M ≠ []) (X : Option Sta) (hX0 : ((∀ ns,nbF 4 0 c ≠ (some ns,true)) ∨ Sta.ok ⟨r,[],[],M⟩ = false) → X = none) (hX1 : (∃ ns,nbF 4 0 c = (some ns,true)) → Sta.ok ⟨r,[],[],M⟩ = true → X = some ⟨r,[],[],M⟩) :
  FnS Try.prog 29 [.one (.r false (row nil 1 (rowsI D)))] [] (stT X) (stH X):=by
 have hlen:=Zag D
 have KN:=Zav false b 1 3 oM
 rw [h] at KN
 unfold nbRes at KN
 dsimp only at KN
 have hx0 : (ints [r,(m : Int),(w : Int)])[(0 : Int).toNat]? = some (iP r):=rfl
 have hx1 : (ints [r,(m : Int),(w : Int)])[(1 : Int).toNat]? = some (iP (m : Int)):=rfl
 have hx2 : (ints [r,(m : Int),(w : Int)])[(2 : Int).toNat]? = some (iP (w : Int)):=rfl
 have hli : (ints [r,(m : Int),(w : Int)]).length = 3:=rfl
 have hw1 : IntKind.i64.wrap (IntKind.i64.wrap ((m : Int) + (w : Int)) + 2) = (m : Int) + w + 2:=by rw [IntWalk.i64_in ((m : Int) + (w : Int)) oM,IntWalk.i64_in _ oM]
 have hq1 : IntKind.i64.wrap (1 + (m : Int)) = ((1 + m : Nat) : Int):=by rw [IntWalk.i64_in _ oM]; omega
 have hq2 : IntKind.i64.wrap (IntKind.i64.wrap (1 + (m : Int)) + (w : Int)) = ((1 + m + w : Nat) : Int):=by rw [hq1,IntWalk.i64_in _ oM]; omega
 have hd1 : Abs.D.one (Cell.r true (int (IntKind.i64.wrap (1 + (m : Int))))) = Abs.D.one (.r true (int ((1 + m : Nat) : Int))):=by rw [hq1]
 have hd2 : Abs.D.one (Cell.r true (int (IntKind.i64.wrap (IntKind.i64.wrap (1 + (m : Int)) + (w : Int))))) = Abs.D.one (.r true (int ((1 + m + w : Nat) : Int))):=by rw [hq2]
 have hpV : ((rowsI D).drop 1).take (1 + m - 1) = rowsI ((D.drop 1).take m):=by rw [Zaz,show 1 + m - 1 = m by omega]
 have hpM : ((rowsI D).drop (1 + m)).take (1 + m + w - (1 + m)) = rowsI ((D.drop (1 + m)).take w):=by rw [Zaz,show 1 + m + w - (1 + m) = w by omega]
 have hbl : ((D.drop 1).take m).length ≤ 2000:=by simp; omega
 have hbm : ((D.drop (1 + m)).take w).length ≤ 2000:=by simp; omega
 rw [← hq2] at hc
 have hc0 : 0 ≤ IntKind.i64.wrap (IntKind.i64.wrap (1 + (m : Int)) + (w : Int)):=by rw [hq2]; omega
 have hnil : (D.drop 1).take m = []:=List.eq_nil_of_length_eq_zero (by rw [← Za5 hv]; rfl)
 have KV:=Zb1 nil r
 rw [← hnil,← hpV] at KV
 have KM:=f_readMsYesZ nil _ r hbm M hm hMn
 rw [← hpM] at KM
 have hMe : M.isEmpty = false:=by cases M with | nil=>exact absurd rfl hMn | cons x y=>rfl
 have hMl : M.length ≤ 2000:=by rw [Za5 hm]; exact hbm
 have hmi:=(Zv M).symm
 have KE:=Zav false c 4 0 oM
 have KO:=f_ownValid r true true false (⟨r,[],[],M⟩ : Sta).vs (⟨r,[],[],M⟩ : Sta).gs (⟨r,[],[],M⟩ : Sta).ms (by simp only [maxLen,List.length_nil]; omega) (by simp only [maxLen,List.length_nil]; omega) (by simp only [maxLen]; omega)
 rw [show stOk (((⟨r,[],[],M⟩ : Sta).vs.length : Nat) : Int) r (⟨r,[],[],M⟩ : Sta).vs (⟨r,[],[],M⟩ : Sta).gs.length (⟨r,[],[],M⟩ : Sta).ms = Sta.ok ⟨r,[],[],M⟩ from rfl] at KO
 dsimp only at KO
 generalize hok : Sta.ok ⟨r,[],[],M⟩ = ok at *
 have hfall : (X = none) ∨ (X = some ⟨r,[],[],M⟩ ∧ (∃ ns,nbF 4 0 c = (some ns,true) ∧ nbRes (nbF 4 0 c) = .tup [.one (row false 1 (ints ns)),.one (bool true)]) ∧ ok = true):=by
  rcases nbForm1 4 0 c with ⟨nn,ns,e1,e2⟩ | ⟨ns,e1,e2⟩
  ·exact .inl (hX0 (.inl e2))
  ·cases ok
   ·exact .inl (hX0 (.inr rfl))
   ·exact .inr ⟨hX1 ⟨ns,e1⟩ rfl,⟨ns,e1,e2⟩,rfl⟩
 rcases hfall with hX | ⟨hX,⟨ns,e1,e2⟩,rfl⟩
 ·have hno : X = none:=hX
  rw [hno]
  unfold stT stH
  rcases nbForm1 4 0 c with ⟨nn,ns,e1,e2⟩ | ⟨ns,e1,e2⟩
  ·rw [e1] at KE
   refine Zac (l:=[.cell 2 28,.tmp 3]) Try.func29 kRf rfl Try.ntmps29 rfl rfl ?_; simp only [dEnv,Nat.reduceAdd]
   repeat' (first|refine wk ?_|((first|refine' w_q rfl rfl ?xa rfl ?_|refine' v_q rfl rfl ?xa rfl ?_|refine' Zh rfl rfl (Zb rfl) rfl ?xa rfl ?_|refine' Zi rfl rfl (Zb rfl) rfl ?xa rfl ?_);case xa=>first|exact Zn tbOk rfl rfl rfl rfl (by first|omega|exact hc0) (by first|exact hx|exact hx0|exact hx1|exact hx2|exact hc)|exact Z9 (a:=1) (b:=1 + m) tbOk rfl rfl rfl ⟨_,Za rfl⟩ ⟨_,(Za rfl).trans hd1⟩ oM oM|exact Z9 (a:=1 + m) (b:=1 + m + w) tbOk rfl rfl rfl ⟨_,(Za rfl).trans hd1⟩ ⟨_,(Za rfl).trans hd2⟩ oM oM|exact Ze KN rfl ⟨Zd (Za rfl),Zd (Za rfl),Zd (Za rfl),trivial⟩|exact Ze KE rfl ⟨Zd (Za rfl),Zd (Za rfl),Zd (Za rfl),trivial⟩|exact Ze KO rfl ⟨Zw (Za rfl) ⟨Zk,Z5,Z5,Z6 (Zf rfl) hmi,trivial⟩,trivial⟩)|((first|refine' w_e rfl ?xa ?xb ?xc ?xe ?_|refine' v_e rfl ?xa ?xb ?xc ?xe ?_);(case xa=>first|exact Zj 43 rfl (Zm [(1000000000,8)] KV rfl ⟨Zl (Za rfl),asE,trivial⟩ sbH rfl)|exact Zj 54 rfl (Zm [(1000000000,8),(2000001,503)] KM rfl ⟨Zl (Za rfl),asE,trivial⟩ sbH rfl));(case xb|xc|xe=>rfl);try refine wkD ?_)|((first|refine' w_ey rfl rfl (Zb rfl) ?xa ?xb ?xc ?xe ?_|refine' v_ey rfl rfl (Zb rfl) ?xa ?xb ?xc ?xe ?_);(case xa=>first|exact Zj 43 rfl (Zm [(1000000000,8)] KV rfl ⟨Zl (Za rfl),asE,trivial⟩ sbH rfl)|exact Zj 54 rfl (Zm [(1000000000,8),(2000001,503)] KM rfl ⟨Zl (Za rfl),asE,trivial⟩ sbH rfl));(case xb|xc|xe=>rfl);try refine wkD ?_)|(refine wkB ?_ ?_<;>intro hg_<;>try exact wkX)|fail)
   all_goals first
  | exact Zu [] rfl sbH (Zap (x:=(true,_)) (y:=(false,[_])) (Zan rfl rfl tyF0 rfl rfl rfl) rfl (Zao rfl) rfl (Zak (tups2 rfl rfl)))
  | (exfalso; omega)
  ·have hok0 : ok = false:=by
    cases ok
    ·rfl
    ·have:=hX1 ⟨ns,e1⟩ rfl
     rw [hno] at this; cases this
   subst hok0
   rw [e2] at KE
   refine Zac (l:=[.cell 2 28,.tmp 3]) Try.func29 kRf rfl Try.ntmps29 rfl rfl ?_; simp only [dEnv,Nat.reduceAdd]
   repeat' (first|refine wk ?_|((first|refine' w_q rfl rfl ?xa rfl ?_|refine' v_q rfl rfl ?xa rfl ?_|refine' Zh rfl rfl (Zb rfl) rfl ?xa rfl ?_|refine' Zi rfl rfl (Zb rfl) rfl ?xa rfl ?_);case xa=>first|exact Zn tbOk rfl rfl rfl rfl (by first|omega|exact hc0) (by first|exact hx|exact hx0|exact hx1|exact hx2|exact hc)|exact Z9 (a:=1) (b:=1 + m) tbOk rfl rfl rfl ⟨_,Za rfl⟩ ⟨_,(Za rfl).trans hd1⟩ oM oM|exact Z9 (a:=1 + m) (b:=1 + m + w) tbOk rfl rfl rfl ⟨_,(Za rfl).trans hd1⟩ ⟨_,(Za rfl).trans hd2⟩ oM oM|exact Ze KN rfl ⟨Zd (Za rfl),Zd (Za rfl),Zd (Za rfl),trivial⟩|exact Ze KE rfl ⟨Zd (Za rfl),Zd (Za rfl),Zd (Za rfl),trivial⟩|exact Ze KO rfl ⟨Zw (Za rfl) ⟨Zk,Z5,Z5,Z6 (Zf rfl) hmi,trivial⟩,trivial⟩)|((first|refine' w_e rfl ?xa ?xb ?xc ?xe ?_|refine' v_e rfl ?xa ?xb ?xc ?xe ?_);(case xa=>first|exact Zj 43 rfl (Zm [(1000000000,8)] KV rfl ⟨Zl (Za rfl),asE,trivial⟩ sbH rfl)|exact Zj 54 rfl (Zm [(1000000000,8),(2000001,503)] KM rfl ⟨Zl (Za rfl),asE,trivial⟩ sbH rfl));(case xb|xc|xe=>rfl);try refine wkD ?_)|((first|refine' w_ey rfl rfl (Zb rfl) ?xa ?xb ?xc ?xe ?_|refine' v_ey rfl rfl (Zb rfl) ?xa ?xb ?xc ?xe ?_);(case xa=>first|exact Zj 43 rfl (Zm [(1000000000,8)] KV rfl ⟨Zl (Za rfl),asE,trivial⟩ sbH rfl)|exact Zj 54 rfl (Zm [(1000000000,8),(2000001,503)] KM rfl ⟨Zl (Za rfl),asE,trivial⟩ sbH rfl));(case xb|xc|xe=>rfl);try refine wkD ?_)|(refine wkB ?_ ?_<;>intro hg_<;>try exact wkX)|fail)
   all_goals first
  | exact Zu [] rfl sbH (Zap (x:=(true,_)) (y:=(false,[_])) (Zan rfl rfl tyF0 rfl rfl rfl) rfl (Zao rfl) rfl (Zak (tups2 rfl rfl)))
  | (exfalso; omega)
 ·rw [e2] at KE
  have hT : stT X = .tups [(true,[.r true (int r),Zc,Zc,.own 2000003 0 M.length 3]),(false,[.r true (bool true)])]:=by rw [hX]; simp only [stT,rowC,hMe]; rfl
  have hH : stH X = [(2000003,.sl 70 3 true (edges M))]:=by rw [hX]; simp only [stH,hMe]; rfl
  rw [hT,hH]
  refine Zac (l:=[.cell 2 28,.tmp 3]) Try.func29 kRf rfl Try.ntmps29 rfl rfl ?_; simp only [dEnv,Nat.reduceAdd]
  repeat' (first|refine wk ?_|((first|refine' w_q rfl rfl ?xa rfl ?_|refine' v_q rfl rfl ?xa rfl ?_|refine' Zh rfl rfl (Zb rfl) rfl ?xa rfl ?_|refine' Zi rfl rfl (Zb rfl) rfl ?xa rfl ?_);case xa=>first|exact Zn tbOk rfl rfl rfl rfl (by first|omega|exact hc0) (by first|exact hx|exact hx0|exact hx1|exact hx2|exact hc)|exact Z9 (a:=1) (b:=1 + m) tbOk rfl rfl rfl ⟨_,Za rfl⟩ ⟨_,(Za rfl).trans hd1⟩ oM oM|exact Z9 (a:=1 + m) (b:=1 + m + w) tbOk rfl rfl rfl ⟨_,(Za rfl).trans hd1⟩ ⟨_,(Za rfl).trans hd2⟩ oM oM|exact Ze KN rfl ⟨Zd (Za rfl),Zd (Za rfl),Zd (Za rfl),trivial⟩|exact Ze KE rfl ⟨Zd (Za rfl),Zd (Za rfl),Zd (Za rfl),trivial⟩|exact Ze KO rfl ⟨Zw (Za rfl) ⟨Zk,Z5,Z5,Z6 (Zf rfl) hmi,trivial⟩,trivial⟩)|((first|refine' w_e rfl ?xa ?xb ?xc ?xe ?_|refine' v_e rfl ?xa ?xb ?xc ?xe ?_);(case xa=>first|exact Zj 43 rfl (Zm [(1000000000,8)] KV rfl ⟨Zl (Za rfl),asE,trivial⟩ sbH rfl)|exact Zj 54 rfl (Zm [(1000000000,8),(2000001,503)] KM rfl ⟨Zl (Za rfl),asE,trivial⟩ sbH rfl));(case xb|xc|xe=>rfl);try refine wkD ?_)|((first|refine' w_ey rfl rfl (Zb rfl) ?xa ?xb ?xc ?xe ?_|refine' v_ey rfl rfl (Zb rfl) ?xa ?xb ?xc ?xe ?_);(case xa=>first|exact Zj 43 rfl (Zm [(1000000000,8)] KV rfl ⟨Zl (Za rfl),asE,trivial⟩ sbH rfl)|exact Zj 54 rfl (Zm [(1000000000,8),(2000001,503)] KM rfl ⟨Zl (Za rfl),asE,trivial⟩ sbH rfl));(case xb|xc|xe=>rfl);try refine wkD ?_)|(refine wkB ?_ ?_<;>intro hg_<;>try exact wkX)|fail)
  all_goals first
  | exact Zu [(2000001,501),(2000002,502),(2000003,503)] rfl sbH (Zap (x:=(true,_)) (y:=(false,[_])) (Zan rfl rfl tyF0 rfl rfl rfl) rfl (Zao rfl) rfl (Zak (tups2 rfl rfl)))
  | (exfalso; omega)
theorem f_ckAtMsgsO (nil : Bool) (D : List (List Int)) (b c : List Int) (r : Int) (m w : Nat) (hl : D.length ≤ 2000) (hx : (rowsI D)[(0 : Int).toNat]? = some (rowP b)) (h0 : 0 < D.length) (h : nbF 1 3 b = (some [r,(m : Int),(w : Int)],true)) (hs : m + w + 2 ≤ D.length) (hc : (rowsI D)[((1 + m + w : Nat) : Int).toNat]? = some (rowP c)) (L : List (Int × Bool)) (hv : rdAll rdV1 ((D.drop 1).take m) = some L) (hLn : L ≠ []) (hm : rdAll rdM1 ((D.drop (1 + m)).take w) = none) :
  FnS Try.prog 29 [.one (.r false (row nil 1 (rowsI D)))] [] (stT none) (stH none):=by
 have hlen:=Zag D
 have KN:=Zav false b 1 3 oM
 rw [h] at KN
 unfold nbRes at KN
 dsimp only at KN
 have hx0 : (ints [r,(m : Int),(w : Int)])[(0 : Int).toNat]? = some (iP r):=rfl
 have hx1 : (ints [r,(m : Int),(w : Int)])[(1 : Int).toNat]? = some (iP (m : Int)):=rfl
 have hx2 : (ints [r,(m : Int),(w : Int)])[(2 : Int).toNat]? = some (iP (w : Int)):=rfl
 have hli : (ints [r,(m : Int),(w : Int)]).length = 3:=rfl
 have hw1 : IntKind.i64.wrap (IntKind.i64.wrap ((m : Int) + (w : Int)) + 2) = (m : Int) + w + 2:=by rw [IntWalk.i64_in ((m : Int) + (w : Int)) oM,IntWalk.i64_in _ oM]
 have hq1 : IntKind.i64.wrap (1 + (m : Int)) = ((1 + m : Nat) : Int):=by rw [IntWalk.i64_in _ oM]; omega
 have hq2 : IntKind.i64.wrap (IntKind.i64.wrap (1 + (m : Int)) + (w : Int)) = ((1 + m + w : Nat) : Int):=by rw [hq1,IntWalk.i64_in _ oM]; omega
 have hd1 : Abs.D.one (Cell.r true (int (IntKind.i64.wrap (1 + (m : Int))))) = Abs.D.one (.r true (int ((1 + m : Nat) : Int))):=by rw [hq1]
 have hd2 : Abs.D.one (Cell.r true (int (IntKind.i64.wrap (IntKind.i64.wrap (1 + (m : Int)) + (w : Int))))) = Abs.D.one (.r true (int ((1 + m + w : Nat) : Int))):=by rw [hq2]
 have hpV : ((rowsI D).drop 1).take (1 + m - 1) = rowsI ((D.drop 1).take m):=by rw [Zaz,show 1 + m - 1 = m by omega]
 have hpM : ((rowsI D).drop (1 + m)).take (1 + m + w - (1 + m)) = rowsI ((D.drop (1 + m)).take w):=by rw [Zaz,show 1 + m + w - (1 + m) = w by omega]
 have hbl : ((D.drop 1).take m).length ≤ 2000:=by simp; omega
 have hbm : ((D.drop (1 + m)).take w).length ≤ 2000:=by simp; omega
 rw [← hq2] at hc
 have hc0 : 0 ≤ IntKind.i64.wrap (IntKind.i64.wrap (1 + (m : Int)) + (w : Int)):=by rw [hq2]; omega
 have KV:=Zb2 nil _ r hbl L hv hLn
 rw [← hpV] at KV
 have KM:=f_readMsNoO nil _ r (vsOf L) (gsOf L) hbm hm
 rw [← hpM,Za0,Za2] at KM
 unfold stT stH
 refine Zac (l:=[.cell 2 28,.tmp 3]) Try.func29 kRf rfl Try.ntmps29 rfl rfl ?_; simp only [dEnv,Nat.reduceAdd]
 repeat' (first|refine wk ?_|((first|refine' w_q rfl rfl ?xa rfl ?_|refine' v_q rfl rfl ?xa rfl ?_|refine' Zh rfl rfl (Zb rfl) rfl ?xa rfl ?_|refine' Zi rfl rfl (Zb rfl) rfl ?xa rfl ?_);case xa=>first|exact Zn tbOk rfl rfl rfl rfl (by first|omega|exact hc0) (by first|exact hx|exact hx0|exact hx1|exact hx2|exact hc)|exact Z9 (a:=1) (b:=1 + m) tbOk rfl rfl rfl ⟨_,Za rfl⟩ ⟨_,(Za rfl).trans hd1⟩ oM oM|exact Z9 (a:=1 + m) (b:=1 + m + w) tbOk rfl rfl rfl ⟨_,(Za rfl).trans hd1⟩ ⟨_,(Za rfl).trans hd2⟩ oM oM|exact Ze KN rfl ⟨Zd (Za rfl),Zd (Za rfl),Zd (Za rfl),trivial⟩)|((first|refine' w_e rfl ?xa ?xb ?xc ?xe ?_|refine' v_e rfl ?xa ?xb ?xc ?xe ?_);(case xa=>first|exact Zj 43 rfl (Zm [(1000000000,8),(2000001,501),(2000002,502)] KV rfl ⟨Zl (Za rfl),asE,trivial⟩ sbH rfl)|exact Zj 54 rfl (Zm [(1000000000,8),(1000000001,501),(1000000002,502),(2000001,503)] KM rfl ⟨Zl (Za rfl),asE,trivial⟩ sbH rfl));(case xb|xc|xe=>rfl);try refine wkD ?_)|((first|refine' w_ey rfl rfl (Zb rfl) ?xa ?xb ?xc ?xe ?_|refine' v_ey rfl rfl (Zb rfl) ?xa ?xb ?xc ?xe ?_);(case xa=>first|exact Zj 43 rfl (Zm [(1000000000,8),(2000001,501),(2000002,502)] KV rfl ⟨Zl (Za rfl),asE,trivial⟩ sbH rfl)|exact Zj 54 rfl (Zm [(1000000000,8),(1000000001,501),(1000000002,502),(2000001,503)] KM rfl ⟨Zl (Za rfl),asE,trivial⟩ sbH rfl));(case xb|xc|xe=>rfl);try refine wkD ?_)|(refine wkB ?_ ?_<;>intro hg_<;>try exact wkX)|fail)
 all_goals first
  | exact Zu [] rfl sbH (Zap (x:=(true,_)) (y:=(false,[_])) (Zan rfl rfl tyF0 rfl rfl rfl) rfl (Zao rfl) rfl (Zak (tups2 rfl rfl)))
  | (exfalso; omega)
theorem f_ckAtEndOZ (nil : Bool) (D : List (List Int)) (b c : List Int) (r : Int) (m w : Nat) (hl : D.length ≤ 2000) (hx : (rowsI D)[(0 : Int).toNat]? = some (rowP b)) (h0 : 0 < D.length) (h : nbF 1 3 b = (some [r,(m : Int),(w : Int)],true)) (hs : m + w + 2 ≤ D.length) (hc : (rowsI D)[((1 + m + w : Nat) : Int).toNat]? = some (rowP c)) (L : List (Int × Bool)) (hv : rdAll rdV1 ((D.drop 1).take m) = some L) (hLn : L ≠ []) (hm : rdAll rdM1 ((D.drop (1 + m)).take w) = some []) (X : Option Sta) (hX0 : ((∀ ns,nbF 4 0 c ≠ (some ns,true)) ∨ Sta.ok ⟨r,vsOf L,gsOf L,[]⟩ = false) → X = none) (hX1 : (∃ ns,nbF 4 0 c = (some ns,true)) → Sta.ok ⟨r,vsOf L,gsOf L,[]⟩ = true → X = some ⟨r,vsOf L,gsOf L,[]⟩) :
  FnS Try.prog 29 [.one (.r false (row nil 1 (rowsI D)))] [] (stT X) (stH X):=by
 have hlen:=Zag D
 have KN:=Zav false b 1 3 oM
 rw [h] at KN
 unfold nbRes at KN
 dsimp only at KN
 have hx0 : (ints [r,(m : Int),(w : Int)])[(0 : Int).toNat]? = some (iP r):=rfl
 have hx1 : (ints [r,(m : Int),(w : Int)])[(1 : Int).toNat]? = some (iP (m : Int)):=rfl
 have hx2 : (ints [r,(m : Int),(w : Int)])[(2 : Int).toNat]? = some (iP (w : Int)):=rfl
 have hli : (ints [r,(m : Int),(w : Int)]).length = 3:=rfl
 have hw1 : IntKind.i64.wrap (IntKind.i64.wrap ((m : Int) + (w : Int)) + 2) = (m : Int) + w + 2:=by rw [IntWalk.i64_in ((m : Int) + (w : Int)) oM,IntWalk.i64_in _ oM]
 have hq1 : IntKind.i64.wrap (1 + (m : Int)) = ((1 + m : Nat) : Int):=by rw [IntWalk.i64_in _ oM]; omega
 have hq2 : IntKind.i64.wrap (IntKind.i64.wrap (1 + (m : Int)) + (w : Int)) = ((1 + m + w : Nat) : Int):=by rw [hq1,IntWalk.i64_in _ oM]; omega
 have hd1 : Abs.D.one (Cell.r true (int (IntKind.i64.wrap (1 + (m : Int))))) = Abs.D.one (.r true (int ((1 + m : Nat) : Int))):=by rw [hq1]
 have hd2 : Abs.D.one (Cell.r true (int (IntKind.i64.wrap (IntKind.i64.wrap (1 + (m : Int)) + (w : Int))))) = Abs.D.one (.r true (int ((1 + m + w : Nat) : Int))):=by rw [hq2]
 have hpV : ((rowsI D).drop 1).take (1 + m - 1) = rowsI ((D.drop 1).take m):=by rw [Zaz,show 1 + m - 1 = m by omega]
 have hpM : ((rowsI D).drop (1 + m)).take (1 + m + w - (1 + m)) = rowsI ((D.drop (1 + m)).take w):=by rw [Zaz,show 1 + m + w - (1 + m) = w by omega]
 have hbl : ((D.drop 1).take m).length ≤ 2000:=by simp; omega
 have hbm : ((D.drop (1 + m)).take w).length ≤ 2000:=by simp; omega
 rw [← hq2] at hc
 have hc0 : 0 ≤ IntKind.i64.wrap (IntKind.i64.wrap (1 + (m : Int)) + (w : Int)):=by rw [hq2]; omega
 have KV:=Zb2 nil _ r hbl L hv hLn
 rw [← hpV] at KV
 have hnilM : (D.drop (1 + m)).take w = []:=List.eq_nil_of_length_eq_zero (by rw [← Za5 hm]; rfl)
 have KM:=f_readMsNilO nil r (vsOf L) (gsOf L)
 rw [← hnilM,← hpM,Za0,Za2] at KM
 have hLe : (vsOf L).isEmpty = false:=by cases L with | nil=>exact absurd rfl hLn | cons x y=>rfl
 have hLl : L.length ≤ 2000:=by rw [Za5 hv]; exact hbl
 have hvi : L.length = (ints (vsOf L)).length:=by rw [Zp,Za0]
 have hgi : L.length = (bools (gsOf L)).length:=by rw [Zab,Za2]
 have hMl : ([] : List E3).length ≤ 2000:=by simp
 have KE:=Zav false c 4 0 oM
 have KO:=f_ownValid r false false true (⟨r,vsOf L,gsOf L,[]⟩ : Sta).vs (⟨r,vsOf L,gsOf L,[]⟩ : Sta).gs (⟨r,vsOf L,gsOf L,[]⟩ : Sta).ms (by simp only [maxLen,Za0]; omega) (by simp only [maxLen,Za2]; omega) (by simp only [maxLen]; omega)
 rw [show stOk (((⟨r,vsOf L,gsOf L,[]⟩ : Sta).vs.length : Nat) : Int) r (⟨r,vsOf L,gsOf L,[]⟩ : Sta).vs (⟨r,vsOf L,gsOf L,[]⟩ : Sta).gs.length (⟨r,vsOf L,gsOf L,[]⟩ : Sta).ms = Sta.ok ⟨r,vsOf L,gsOf L,[]⟩ from rfl] at KO
 dsimp only at KO
 generalize hok : Sta.ok ⟨r,vsOf L,gsOf L,[]⟩ = ok at *
 have hfall : (X = none) ∨ (X = some ⟨r,vsOf L,gsOf L,[]⟩ ∧ (∃ ns,nbF 4 0 c = (some ns,true) ∧ nbRes (nbF 4 0 c) = .tup [.one (row false 1 (ints ns)),.one (bool true)]) ∧ ok = true):=by
  rcases nbForm1 4 0 c with ⟨nn,ns,e1,e2⟩ | ⟨ns,e1,e2⟩
  ·exact .inl (hX0 (.inl e2))
  ·cases ok
   ·exact .inl (hX0 (.inr rfl))
   ·exact .inr ⟨hX1 ⟨ns,e1⟩ rfl,⟨ns,e1,e2⟩,rfl⟩
 rcases hfall with hX | ⟨hX,⟨ns,e1,e2⟩,rfl⟩
 ·have hno : X = none:=hX
  rw [hno]
  unfold stT stH
  rcases nbForm1 4 0 c with ⟨nn,ns,e1,e2⟩ | ⟨ns,e1,e2⟩
  ·rw [e1] at KE
   refine Zac (l:=[.cell 2 28,.tmp 3]) Try.func29 kRf rfl Try.ntmps29 rfl rfl ?_; simp only [dEnv,Nat.reduceAdd]
   repeat' (first|refine wk ?_|((first|refine' w_q rfl rfl ?xa rfl ?_|refine' v_q rfl rfl ?xa rfl ?_|refine' Zh rfl rfl (Zb rfl) rfl ?xa rfl ?_|refine' Zi rfl rfl (Zb rfl) rfl ?xa rfl ?_);case xa=>first|exact Zn tbOk rfl rfl rfl rfl (by first|omega|exact hc0) (by first|exact hx|exact hx0|exact hx1|exact hx2|exact hc)|exact Z9 (a:=1) (b:=1 + m) tbOk rfl rfl rfl ⟨_,Za rfl⟩ ⟨_,(Za rfl).trans hd1⟩ oM oM|exact Z9 (a:=1 + m) (b:=1 + m + w) tbOk rfl rfl rfl ⟨_,(Za rfl).trans hd1⟩ ⟨_,(Za rfl).trans hd2⟩ oM oM|exact Ze KN rfl ⟨Zd (Za rfl),Zd (Za rfl),Zd (Za rfl),trivial⟩|exact Ze KE rfl ⟨Zd (Za rfl),Zd (Za rfl),Zd (Za rfl),trivial⟩|exact Ze KO rfl ⟨Zw (Za rfl) ⟨Zk,Z6 (Zf rfl) hvi,Z6 (Zf rfl) hgi,Z5,trivial⟩,trivial⟩)|((first|refine' w_e rfl ?xa ?xb ?xc ?xe ?_|refine' v_e rfl ?xa ?xb ?xc ?xe ?_);(case xa=>first|exact Zj 43 rfl (Zm [(1000000000,8),(2000001,501),(2000002,502)] KV rfl ⟨Zl (Za rfl),asE,trivial⟩ sbH rfl)|exact Zj 54 rfl (Zm [(1000000000,8),(1000000001,501),(1000000002,502),(2000001,503)] KM rfl ⟨Zl (Za rfl),asE,trivial⟩ sbH rfl));(case xb|xc|xe=>rfl);try refine wkD ?_)|((first|refine' w_ey rfl rfl (Zb rfl) ?xa ?xb ?xc ?xe ?_|refine' v_ey rfl rfl (Zb rfl) ?xa ?xb ?xc ?xe ?_);(case xa=>first|exact Zj 43 rfl (Zm [(1000000000,8),(2000001,501),(2000002,502)] KV rfl ⟨Zl (Za rfl),asE,trivial⟩ sbH rfl)|exact Zj 54 rfl (Zm [(1000000000,8),(1000000001,501),(1000000002,502),(2000001,503)] KM rfl ⟨Zl (Za rfl),asE,trivial⟩ sbH rfl));(case xb|xc|xe=>rfl);try refine wkD ?_)|(refine wkB ?_ ?_<;>intro hg_<;>try exact wkX)|fail)
   all_goals first
  | exact Zu [] rfl sbH (Zap (x:=(true,_)) (y:=(false,[_])) (Zan rfl rfl tyF0 rfl rfl rfl) rfl (Zao rfl) rfl (Zak (tups2 rfl rfl)))
  | (exfalso; omega)
  ·have hok0 : ok = false:=by
    cases ok
    ·rfl
    ·have:=hX1 ⟨ns,e1⟩ rfl
     rw [hno] at this; cases this
   subst hok0
   rw [e2] at KE
   refine Zac (l:=[.cell 2 28,.tmp 3]) Try.func29 kRf rfl Try.ntmps29 rfl rfl ?_; simp only [dEnv,Nat.reduceAdd]
   repeat' (first|refine wk ?_|((first|refine' w_q rfl rfl ?xa rfl ?_|refine' v_q rfl rfl ?xa rfl ?_|refine' Zh rfl rfl (Zb rfl) rfl ?xa rfl ?_|refine' Zi rfl rfl (Zb rfl) rfl ?xa rfl ?_);case xa=>first|exact Zn tbOk rfl rfl rfl rfl (by first|omega|exact hc0) (by first|exact hx|exact hx0|exact hx1|exact hx2|exact hc)|exact Z9 (a:=1) (b:=1 + m) tbOk rfl rfl rfl ⟨_,Za rfl⟩ ⟨_,(Za rfl).trans hd1⟩ oM oM|exact Z9 (a:=1 + m) (b:=1 + m + w) tbOk rfl rfl rfl ⟨_,(Za rfl).trans hd1⟩ ⟨_,(Za rfl).trans hd2⟩ oM oM|exact Ze KN rfl ⟨Zd (Za rfl),Zd (Za rfl),Zd (Za rfl),trivial⟩|exact Ze KE rfl ⟨Zd (Za rfl),Zd (Za rfl),Zd (Za rfl),trivial⟩|exact Ze KO rfl ⟨Zw (Za rfl) ⟨Zk,Z6 (Zf rfl) hvi,Z6 (Zf rfl) hgi,Z5,trivial⟩,trivial⟩)|((first|refine' w_e rfl ?xa ?xb ?xc ?xe ?_|refine' v_e rfl ?xa ?xb ?xc ?xe ?_);(case xa=>first|exact Zj 43 rfl (Zm [(1000000000,8),(2000001,501),(2000002,502)] KV rfl ⟨Zl (Za rfl),asE,trivial⟩ sbH rfl)|exact Zj 54 rfl (Zm [(1000000000,8),(1000000001,501),(1000000002,502),(2000001,503)] KM rfl ⟨Zl (Za rfl),asE,trivial⟩ sbH rfl));(case xb|xc|xe=>rfl);try refine wkD ?_)|((first|refine' w_ey rfl rfl (Zb rfl) ?xa ?xb ?xc ?xe ?_|refine' v_ey rfl rfl (Zb rfl) ?xa ?xb ?xc ?xe ?_);(case xa=>first|exact Zj 43 rfl (Zm [(1000000000,8),(2000001,501),(2000002,502)] KV rfl ⟨Zl (Za rfl),asE,trivial⟩ sbH rfl)|exact Zj 54 rfl (Zm [(1000000000,8),(1000000001,501),(1000000002,502),(2000001,503)] KM rfl ⟨Zl (Za rfl),asE,trivial⟩ sbH rfl));(case xb|xc|xe=>rfl);try refine wkD ?_)|(refine wkB ?_ ?_<;>intro hg_<;>try exact wkX)|fail)
   all_goals first
  | exact Zu [] rfl sbH (Zap (x:=(true,_)) (y:=(false,[_])) (Zan rfl rfl tyF0 rfl rfl rfl) rfl (Zao rfl) rfl (Zak (tups2 rfl rfl)))
  | (exfalso; omega)
 ·rw [e2] at KE
  have hT : stT X = .tups [(true,[.r true (int r),.own 2000001 0 L.length 1,.own 2000002 0 L.length 1,Zc]),(false,[.r true (bool true)])]:=by rw [hX]; simp only [stT,rowC,hLe,Za0,Za2]; rfl
  have hH : stH X = [(2000001,.sl 3 1 true (ints (vsOf L))),(2000002,.sl 4 1 true (bools (gsOf L)))]:=by rw [hX]; simp only [stH,hLe,Za0,Za2]; rfl
  rw [hT,hH]
  refine Zac (l:=[.cell 2 28,.tmp 3]) Try.func29 kRf rfl Try.ntmps29 rfl rfl ?_; simp only [dEnv,Nat.reduceAdd]
  repeat' (first|refine wk ?_|((first|refine' w_q rfl rfl ?xa rfl ?_|refine' v_q rfl rfl ?xa rfl ?_|refine' Zh rfl rfl (Zb rfl) rfl ?xa rfl ?_|refine' Zi rfl rfl (Zb rfl) rfl ?xa rfl ?_);case xa=>first|exact Zn tbOk rfl rfl rfl rfl (by first|omega|exact hc0) (by first|exact hx|exact hx0|exact hx1|exact hx2|exact hc)|exact Z9 (a:=1) (b:=1 + m) tbOk rfl rfl rfl ⟨_,Za rfl⟩ ⟨_,(Za rfl).trans hd1⟩ oM oM|exact Z9 (a:=1 + m) (b:=1 + m + w) tbOk rfl rfl rfl ⟨_,(Za rfl).trans hd1⟩ ⟨_,(Za rfl).trans hd2⟩ oM oM|exact Ze KN rfl ⟨Zd (Za rfl),Zd (Za rfl),Zd (Za rfl),trivial⟩|exact Ze KE rfl ⟨Zd (Za rfl),Zd (Za rfl),Zd (Za rfl),trivial⟩|exact Ze KO rfl ⟨Zw (Za rfl) ⟨Zk,Z6 (Zf rfl) hvi,Z6 (Zf rfl) hgi,Z5,trivial⟩,trivial⟩)|((first|refine' w_e rfl ?xa ?xb ?xc ?xe ?_|refine' v_e rfl ?xa ?xb ?xc ?xe ?_);(case xa=>first|exact Zj 43 rfl (Zm [(1000000000,8),(2000001,501),(2000002,502)] KV rfl ⟨Zl (Za rfl),asE,trivial⟩ sbH rfl)|exact Zj 54 rfl (Zm [(1000000000,8),(1000000001,501),(1000000002,502),(2000001,503)] KM rfl ⟨Zl (Za rfl),asE,trivial⟩ sbH rfl));(case xb|xc|xe=>rfl);try refine wkD ?_)|((first|refine' w_ey rfl rfl (Zb rfl) ?xa ?xb ?xc ?xe ?_|refine' v_ey rfl rfl (Zb rfl) ?xa ?xb ?xc ?xe ?_);(case xa=>first|exact Zj 43 rfl (Zm [(1000000000,8),(2000001,501),(2000002,502)] KV rfl ⟨Zl (Za rfl),asE,trivial⟩ sbH rfl)|exact Zj 54 rfl (Zm [(1000000000,8),(1000000001,501),(1000000002,502),(2000001,503)] KM rfl ⟨Zl (Za rfl),asE,trivial⟩ sbH rfl));(case xb|xc|xe=>rfl);try refine wkD ?_)|(refine wkB ?_ ?_<;>intro hg_<;>try exact wkX)|fail)
  all_goals first
  | exact Zu [(2000001,501),(2000002,502),(2000003,503)] rfl sbH (Zap (x:=(true,_)) (y:=(false,[_])) (Zan rfl rfl tyF0 rfl rfl rfl) rfl (Zao rfl) rfl (Zak (tups2 rfl rfl)))
  | (exfalso; omega)
theorem f_ckAtEndOO (nil : Bool) (D : List (List Int)) (b c : List Int) (r : Int) (m w : Nat) (hl : D.length ≤ 2000) (hx : (rowsI D)[(0 : Int).toNat]? = some (rowP b)) (h0 : 0 < D.length) (h : nbF 1 3 b = (some [r,(m : Int),(w : Int)],true)) (hs : m + w + 2 ≤ D.length) (hc : (rowsI D)[((1 + m + w : Nat) : Int).toNat]? = some (rowP c)) (L : List (Int × Bool)) (hv : rdAll rdV1 ((D.drop 1).take m) = some L) (hLn : L ≠ []) (M : List E3) (hm : rdAll rdM1 ((D.drop (1 + m)).take w) = some M) (hMn : M ≠ []) (X : Option Sta) (hX0 : ((∀ ns,nbF 4 0 c ≠ (some ns,true)) ∨ Sta.ok ⟨r,vsOf L,gsOf L,M⟩ = false) → X = none) (hX1 : (∃ ns,nbF 4 0 c = (some ns,true)) → Sta.ok ⟨r,vsOf L,gsOf L,M⟩ = true → X = some ⟨r,vsOf L,gsOf L,M⟩) :
  FnS Try.prog 29 [.one (.r false (row nil 1 (rowsI D)))] [] (stT X) (stH X):=by
 have hlen:=Zag D
 have KN:=Zav false b 1 3 oM
 rw [h] at KN
 unfold nbRes at KN
 dsimp only at KN
 have hx0 : (ints [r,(m : Int),(w : Int)])[(0 : Int).toNat]? = some (iP r):=rfl
 have hx1 : (ints [r,(m : Int),(w : Int)])[(1 : Int).toNat]? = some (iP (m : Int)):=rfl
 have hx2 : (ints [r,(m : Int),(w : Int)])[(2 : Int).toNat]? = some (iP (w : Int)):=rfl
 have hli : (ints [r,(m : Int),(w : Int)]).length = 3:=rfl
 have hw1 : IntKind.i64.wrap (IntKind.i64.wrap ((m : Int) + (w : Int)) + 2) = (m : Int) + w + 2:=by rw [IntWalk.i64_in ((m : Int) + (w : Int)) oM,IntWalk.i64_in _ oM]
 have hq1 : IntKind.i64.wrap (1 + (m : Int)) = ((1 + m : Nat) : Int):=by rw [IntWalk.i64_in _ oM]; omega
 have hq2 : IntKind.i64.wrap (IntKind.i64.wrap (1 + (m : Int)) + (w : Int)) = ((1 + m + w : Nat) : Int):=by rw [hq1,IntWalk.i64_in _ oM]; omega
 have hd1 : Abs.D.one (Cell.r true (int (IntKind.i64.wrap (1 + (m : Int))))) = Abs.D.one (.r true (int ((1 + m : Nat) : Int))):=by rw [hq1]
 have hd2 : Abs.D.one (Cell.r true (int (IntKind.i64.wrap (IntKind.i64.wrap (1 + (m : Int)) + (w : Int))))) = Abs.D.one (.r true (int ((1 + m + w : Nat) : Int))):=by rw [hq2]
 have hpV : ((rowsI D).drop 1).take (1 + m - 1) = rowsI ((D.drop 1).take m):=by rw [Zaz,show 1 + m - 1 = m by omega]
 have hpM : ((rowsI D).drop (1 + m)).take (1 + m + w - (1 + m)) = rowsI ((D.drop (1 + m)).take w):=by rw [Zaz,show 1 + m + w - (1 + m) = w by omega]
 have hbl : ((D.drop 1).take m).length ≤ 2000:=by simp; omega
 have hbm : ((D.drop (1 + m)).take w).length ≤ 2000:=by simp; omega
 rw [← hq2] at hc
 have hc0 : 0 ≤ IntKind.i64.wrap (IntKind.i64.wrap (1 + (m : Int)) + (w : Int)):=by rw [hq2]; omega
 have KV:=Zb2 nil _ r hbl L hv hLn
 rw [← hpV] at KV
 have KM:=f_readMsYesO nil _ r (vsOf L) (gsOf L) hbm M hm hMn
 rw [← hpM,Za0,Za2] at KM
 have hLe : (vsOf L).isEmpty = false:=by cases L with | nil=>exact absurd rfl hLn | cons x y=>rfl
 have hMe : M.isEmpty = false:=by cases M with | nil=>exact absurd rfl hMn | cons x y=>rfl
 have hLl : L.length ≤ 2000:=by rw [Za5 hv]; exact hbl
 have hvi : L.length = (ints (vsOf L)).length:=by rw [Zp,Za0]
 have hgi : L.length = (bools (gsOf L)).length:=by rw [Zab,Za2]
 have hMl : M.length ≤ 2000:=by rw [Za5 hm]; exact hbm
 have hmi:=(Zv M).symm
 have KE:=Zav false c 4 0 oM
 have KO:=f_ownValid r false false false (⟨r,vsOf L,gsOf L,M⟩ : Sta).vs (⟨r,vsOf L,gsOf L,M⟩ : Sta).gs (⟨r,vsOf L,gsOf L,M⟩ : Sta).ms (by simp only [maxLen,Za0]; omega) (by simp only [maxLen,Za2]; omega) (by simp only [maxLen]; omega)
 rw [show stOk (((⟨r,vsOf L,gsOf L,M⟩ : Sta).vs.length : Nat) : Int) r (⟨r,vsOf L,gsOf L,M⟩ : Sta).vs (⟨r,vsOf L,gsOf L,M⟩ : Sta).gs.length (⟨r,vsOf L,gsOf L,M⟩ : Sta).ms = Sta.ok ⟨r,vsOf L,gsOf L,M⟩ from rfl] at KO
 dsimp only at KO
 generalize hok : Sta.ok ⟨r,vsOf L,gsOf L,M⟩ = ok at *
 have hfall : (X = none) ∨ (X = some ⟨r,vsOf L,gsOf L,M⟩ ∧ (∃ ns,nbF 4 0 c = (some ns,true) ∧ nbRes (nbF 4 0 c) = .tup [.one (row false 1 (ints ns)),.one (bool true)]) ∧ ok = true):=by
  rcases nbForm1 4 0 c with ⟨nn,ns,e1,e2⟩ | ⟨ns,e1,e2⟩
  ·exact .inl (hX0 (.inl e2))
  ·cases ok
   ·exact .inl (hX0 (.inr rfl))
   ·exact .inr ⟨hX1 ⟨ns,e1⟩ rfl,⟨ns,e1,e2⟩,rfl⟩
 rcases hfall with hX | ⟨hX,⟨ns,e1,e2⟩,rfl⟩
 ·have hno : X = none:=hX
  rw [hno]
  unfold stT stH
  rcases nbForm1 4 0 c with ⟨nn,ns,e1,e2⟩ | ⟨ns,e1,e2⟩
  ·rw [e1] at KE
   refine Zac (l:=[.cell 2 28,.tmp 3]) Try.func29 kRf rfl Try.ntmps29 rfl rfl ?_; simp only [dEnv,Nat.reduceAdd]
   repeat' (first|refine wk ?_|((first|refine' w_q rfl rfl ?xa rfl ?_|refine' v_q rfl rfl ?xa rfl ?_|refine' Zh rfl rfl (Zb rfl) rfl ?xa rfl ?_|refine' Zi rfl rfl (Zb rfl) rfl ?xa rfl ?_);case xa=>first|exact Zn tbOk rfl rfl rfl rfl (by first|omega|exact hc0) (by first|exact hx|exact hx0|exact hx1|exact hx2|exact hc)|exact Z9 (a:=1) (b:=1 + m) tbOk rfl rfl rfl ⟨_,Za rfl⟩ ⟨_,(Za rfl).trans hd1⟩ oM oM|exact Z9 (a:=1 + m) (b:=1 + m + w) tbOk rfl rfl rfl ⟨_,(Za rfl).trans hd1⟩ ⟨_,(Za rfl).trans hd2⟩ oM oM|exact Ze KN rfl ⟨Zd (Za rfl),Zd (Za rfl),Zd (Za rfl),trivial⟩|exact Ze KE rfl ⟨Zd (Za rfl),Zd (Za rfl),Zd (Za rfl),trivial⟩|exact Ze KO rfl ⟨Zw (Za rfl) ⟨Zk,Z6 (Zf rfl) hvi,Z6 (Zf rfl) hgi,Z6 (Zf rfl) hmi,trivial⟩,trivial⟩)|((first|refine' w_e rfl ?xa ?xb ?xc ?xe ?_|refine' v_e rfl ?xa ?xb ?xc ?xe ?_);(case xa=>first|exact Zj 43 rfl (Zm [(1000000000,8),(2000001,501),(2000002,502)] KV rfl ⟨Zl (Za rfl),asE,trivial⟩ sbH rfl)|exact Zj 54 rfl (Zm [(1000000000,8),(1000000001,501),(1000000002,502),(2000001,503)] KM rfl ⟨Zl (Za rfl),asE,trivial⟩ sbH rfl));(case xb|xc|xe=>rfl);try refine wkD ?_)|((first|refine' w_ey rfl rfl (Zb rfl) ?xa ?xb ?xc ?xe ?_|refine' v_ey rfl rfl (Zb rfl) ?xa ?xb ?xc ?xe ?_);(case xa=>first|exact Zj 43 rfl (Zm [(1000000000,8),(2000001,501),(2000002,502)] KV rfl ⟨Zl (Za rfl),asE,trivial⟩ sbH rfl)|exact Zj 54 rfl (Zm [(1000000000,8),(1000000001,501),(1000000002,502),(2000001,503)] KM rfl ⟨Zl (Za rfl),asE,trivial⟩ sbH rfl));(case xb|xc|xe=>rfl);try refine wkD ?_)|(refine wkB ?_ ?_<;>intro hg_<;>try exact wkX)|fail)
   all_goals first
  | exact Zu [] rfl sbH (Zap (x:=(true,_)) (y:=(false,[_])) (Zan rfl rfl tyF0 rfl rfl rfl) rfl (Zao rfl) rfl (Zak (tups2 rfl rfl)))
  | (exfalso; omega)
  ·have hok0 : ok = false:=by
    cases ok
    ·rfl
    ·have:=hX1 ⟨ns,e1⟩ rfl
     rw [hno] at this; cases this
   subst hok0
   rw [e2] at KE
   refine Zac (l:=[.cell 2 28,.tmp 3]) Try.func29 kRf rfl Try.ntmps29 rfl rfl ?_; simp only [dEnv,Nat.reduceAdd]
   repeat' (first|refine wk ?_|((first|refine' w_q rfl rfl ?xa rfl ?_|refine' v_q rfl rfl ?xa rfl ?_|refine' Zh rfl rfl (Zb rfl) rfl ?xa rfl ?_|refine' Zi rfl rfl (Zb rfl) rfl ?xa rfl ?_);case xa=>first|exact Zn tbOk rfl rfl rfl rfl (by first|omega|exact hc0) (by first|exact hx|exact hx0|exact hx1|exact hx2|exact hc)|exact Z9 (a:=1) (b:=1 + m) tbOk rfl rfl rfl ⟨_,Za rfl⟩ ⟨_,(Za rfl).trans hd1⟩ oM oM|exact Z9 (a:=1 + m) (b:=1 + m + w) tbOk rfl rfl rfl ⟨_,(Za rfl).trans hd1⟩ ⟨_,(Za rfl).trans hd2⟩ oM oM|exact Ze KN rfl ⟨Zd (Za rfl),Zd (Za rfl),Zd (Za rfl),trivial⟩|exact Ze KE rfl ⟨Zd (Za rfl),Zd (Za rfl),Zd (Za rfl),trivial⟩|exact Ze KO rfl ⟨Zw (Za rfl) ⟨Zk,Z6 (Zf rfl) hvi,Z6 (Zf rfl) hgi,Z6 (Zf rfl) hmi,trivial⟩,trivial⟩)|((first|refine' w_e rfl ?xa ?xb ?xc ?xe ?_|refine' v_e rfl ?xa ?xb ?xc ?xe ?_);(case xa=>first|exact Zj 43 rfl (Zm [(1000000000,8),(2000001,501),(2000002,502)] KV rfl ⟨Zl (Za rfl),asE,trivial⟩ sbH rfl)|exact Zj 54 rfl (Zm [(1000000000,8),(1000000001,501),(1000000002,502),(2000001,503)] KM rfl ⟨Zl (Za rfl),asE,trivial⟩ sbH rfl));(case xb|xc|xe=>rfl);try refine wkD ?_)|((first|refine' w_ey rfl rfl (Zb rfl) ?xa ?xb ?xc ?xe ?_|refine' v_ey rfl rfl (Zb rfl) ?xa ?xb ?xc ?xe ?_);(case xa=>first|exact Zj 43 rfl (Zm [(1000000000,8),(2000001,501),(2000002,502)] KV rfl ⟨Zl (Za rfl),asE,trivial⟩ sbH rfl)|exact Zj 54 rfl (Zm [(1000000000,8),(1000000001,501),(1000000002,502),(2000001,503)] KM rfl ⟨Zl (Za rfl),asE,trivial⟩ sbH rfl));(case xb|xc|xe=>rfl);try refine wkD ?_)|(refine wkB ?_ ?_<;>intro hg_<;>try exact wkX)|fail)
   all_goals first
  | exact Zu [] rfl sbH (Zap (x:=(true,_)) (y:=(false,[_])) (Zan rfl rfl tyF0 rfl rfl rfl) rfl (Zao rfl) rfl (Zak (tups2 rfl rfl)))
  | (exfalso; omega)
 ·rw [e2] at KE
  have hT : stT X = .tups [(true,[.r true (int r),.own 2000001 0 L.length 1,.own 2000002 0 L.length 1,.own 2000003 0 M.length 3]),(false,[.r true (bool true)])]:=by rw [hX]; simp only [stT,rowC,hLe,Za0,Za2,hMe]; rfl
  have hH : stH X = [(2000001,.sl 3 1 true (ints (vsOf L))),(2000002,.sl 4 1 true (bools (gsOf L))),(2000003,.sl 70 3 true (edges M))]:=by rw [hX]; simp only [stH,hLe,Za0,Za2,hMe]; rfl
  rw [hT,hH]
  refine Zac (l:=[.cell 2 28,.tmp 3]) Try.func29 kRf rfl Try.ntmps29 rfl rfl ?_; simp only [dEnv,Nat.reduceAdd]
  repeat' (first|refine wk ?_|((first|refine' w_q rfl rfl ?xa rfl ?_|refine' v_q rfl rfl ?xa rfl ?_|refine' Zh rfl rfl (Zb rfl) rfl ?xa rfl ?_|refine' Zi rfl rfl (Zb rfl) rfl ?xa rfl ?_);case xa=>first|exact Zn tbOk rfl rfl rfl rfl (by first|omega|exact hc0) (by first|exact hx|exact hx0|exact hx1|exact hx2|exact hc)|exact Z9 (a:=1) (b:=1 + m) tbOk rfl rfl rfl ⟨_,Za rfl⟩ ⟨_,(Za rfl).trans hd1⟩ oM oM|exact Z9 (a:=1 + m) (b:=1 + m + w) tbOk rfl rfl rfl ⟨_,(Za rfl).trans hd1⟩ ⟨_,(Za rfl).trans hd2⟩ oM oM|exact Ze KN rfl ⟨Zd (Za rfl),Zd (Za rfl),Zd (Za rfl),trivial⟩|exact Ze KE rfl ⟨Zd (Za rfl),Zd (Za rfl),Zd (Za rfl),trivial⟩|exact Ze KO rfl ⟨Zw (Za rfl) ⟨Zk,Z6 (Zf rfl) hvi,Z6 (Zf rfl) hgi,Z6 (Zf rfl) hmi,trivial⟩,trivial⟩)|((first|refine' w_e rfl ?xa ?xb ?xc ?xe ?_|refine' v_e rfl ?xa ?xb ?xc ?xe ?_);(case xa=>first|exact Zj 43 rfl (Zm [(1000000000,8),(2000001,501),(2000002,502)] KV rfl ⟨Zl (Za rfl),asE,trivial⟩ sbH rfl)|exact Zj 54 rfl (Zm [(1000000000,8),(1000000001,501),(1000000002,502),(2000001,503)] KM rfl ⟨Zl (Za rfl),asE,trivial⟩ sbH rfl));(case xb|xc|xe=>rfl);try refine wkD ?_)|((first|refine' w_ey rfl rfl (Zb rfl) ?xa ?xb ?xc ?xe ?_|refine' v_ey rfl rfl (Zb rfl) ?xa ?xb ?xc ?xe ?_);(case xa=>first|exact Zj 43 rfl (Zm [(1000000000,8),(2000001,501),(2000002,502)] KV rfl ⟨Zl (Za rfl),asE,trivial⟩ sbH rfl)|exact Zj 54 rfl (Zm [(1000000000,8),(1000000001,501),(1000000002,502),(2000001,503)] KM rfl ⟨Zl (Za rfl),asE,trivial⟩ sbH rfl));(case xb|xc|xe=>rfl);try refine wkD ?_)|(refine wkB ?_ ?_<;>intro hg_<;>try exact wkX)|fail)
  all_goals first
  | exact Zu [(2000001,501),(2000002,502),(2000003,503)] rfl sbH (Zap (x:=(true,_)) (y:=(false,[_])) (Zan rfl rfl tyF0 rfl rfl rfl) rfl (Zao rfl) rfl (Zak (tups2 rfl rfl)))
  | (exfalso; omega)
theorem zip_of {vs : List Int} {gs : List Bool} (h : gs.length = vs.length) : vsOf (vs.zip gs) = vs ∧ gsOf (vs.zip gs) = gs:=by
 unfold vsOf gsOf
 exact ⟨List.map_fst_zip oM,List.map_snd_zip oM⟩
theorem f_ckAtI (nil : Bool) (D : List (List Int)) (hl : D.length ≤ 2000) (h0 : 0 < D.length) :
  FnS Try.prog 29 [.one (.r false (row nil 1 (rowsI D)))] [] (stT (ckAt D)) (stH (ckAt D)):=by
 have hx : (rowsI D)[(0 : Int).toNat]? = some (rowP D[0]):=rowsI_get h0
 have hD0 : D[0]? = some D[0]:=List.getElem?_eq_getElem h0
 generalize D[0] = b at *
 by_cases hh : ∃ ns,nbF 1 3 b = (some ns,true)
 ·obtain ⟨ns,hns⟩:=hh
  obtain ⟨hb1,hb2,hb3⟩:=nbF_yes hns
  match ns,hb2 with
  | [r,m',w'],_ =>
   have q1:=hb3 m' (by simp)
   have q2:=hb3 w' (by simp)
   obtain ⟨m,rfl⟩:=Int.eq_ofNat_of_zero_le q1.1
   obtain ⟨w,rfl⟩:=Int.eq_ofNat_of_zero_le q2.1
   have key : ∀ s,Ck D s → s.r = r ∧ s.vs.length = m ∧ s.ms.length = w:=fun s hs=>by
    obtain ⟨b',e1,e2⟩:=hs.ckI.head
    rw [hD0] at e1
    injection e1 with e1
    subst e1
    rw [hns] at e2
    simp only [Prod.mk.injEq,Option.some.injEq,List.cons.injEq,and_true] at e2
    omega
   by_cases hs : m + w + 2 ≤ D.length
   ·have hlt : 1 + m + w < D.length:=by omega
    have hc : (rowsI D)[((1 + m + w : Nat) : Int).toNat]? = some (rowP D[1 + m + w]):=Za3 hlt
    have hDc : D[1 + m + w]? = some D[1 + m + w]:=List.getElem?_eq_getElem hlt
    generalize D[1 + m + w] = c at *
    cases hv : rdAll rdV1 ((D.drop 1).take m) with
    | none =>
     have hX : ckAt D = none:=Zbr fun s hs'=>by
      obtain ⟨k1,k2,k3⟩:=key s hs'
      have:=hs'.ckI.vals
      rw [k2,hv] at this; cases this
     rw [hX]
     exact f_ckAtVals nil D b c r m w hl hx h0 hns hs hc hv
    | some L =>
     cases hm : rdAll rdM1 ((D.drop (1 + m)).take w) with
     | none =>
      have hX : ckAt D = none:=Zbr fun s hs'=>by
       obtain ⟨k1,k2,k3⟩:=key s hs'
       have:=hs'.ckI.msgs
       rw [k2,k3,hm] at this; cases this
      rw [hX]
      by_cases hLn : L = []
      ·subst hLn
       exact f_ckAtMsgsZ nil D b c r m w hl hx h0 hns hs hc hv hm
      ·exact f_ckAtMsgsO nil D b c r m w hl hx h0 hns hs hc L hv hLn hm
     | some M =>
      have hX1 : (∃ ns,nbF 4 0 c = (some ns,true)) → Sta.ok ⟨r,vsOf L,gsOf L,M⟩ = true → ckAt D = some ⟨r,vsOf L,gsOf L,M⟩:=fun ⟨ns,he⟩ hok=>by
       have hz : ns = []:=List.eq_nil_of_length_eq_zero (nbF_len he)
       rw [hz] at he
       exact ckAt_some (CkI.ck (D:=D) (m:=m) (w:=w) ⟨⟨b,hD0,hns⟩,hs,hv,hm,⟨c,hDc,he⟩⟩ hok)
      have hX0 : ((∀ ns,nbF 4 0 c ≠ (some ns,true)) ∨ Sta.ok ⟨r,vsOf L,gsOf L,M⟩ = false) → ckAt D = none:=fun hf=>Zbr fun s hs'=>by
       obtain ⟨k1,k2,k3⟩:=key s hs'
       have hI:=hs'.ckI
       rcases hf with hf | hf
       ·obtain ⟨c',e1,e2⟩:=hI.fin
        rw [k2,k3,hDc] at e1
        injection e1 with e1
        rw [← e1] at e2
        exact hf _ e2
       ·have e1:=hI.vals
        have e2:=hI.msgs
        rw [k2,hv] at e1
        rw [k2,k3,hm] at e2
        injection e1 with e1
        injection e2 with e2
        obtain ⟨z1,z2⟩:=zip_of (Sta.okF hs'.1).gl
        rw [e1,z1,z2,e2,← k1] at hf
        have:=hs'.1
        rw [show s = ⟨s.r,s.vs,s.gs,s.ms⟩ from rfl,hf] at this
        cases this
      by_cases hLn : L = []
      ·subst hLn
       by_cases hMn : M = []
       ·subst hMn
        exact f_ckAtEndZZ nil D b c r m w hl hx h0 hns hs hc hv hm _ hX0 hX1
       ·exact f_ckAtEndZO nil D b c r m w hl hx h0 hns hs hc hv M hm hMn _ hX0 hX1
      ·by_cases hMn : M = []
       ·subst hMn
        exact f_ckAtEndOZ nil D b c r m w hl hx h0 hns hs hc L hv hLn hm _ hX0 hX1
       ·exact f_ckAtEndOO nil D b c r m w hl hx h0 hns hs hc L hv hLn M hm hMn _ hX0 hX1
   ·have hX : ckAt D = none:=Zbr fun s hs'=>by
     obtain ⟨k1,k2,k3⟩:=key s hs'
     have:=hs'.ckI.len
     omega
    rw [hX]
    exact f_ckAtSize nil D b r m w hl oM oM hx h0 hns oM
 ·have hX : ckAt D = none:=Zbr fun s hs=>by
   obtain ⟨b',e1,e2⟩:=hs.ckI.head
   rw [hD0] at e1
   injection e1 with e1
   rw [← e1] at e2
   exact hh ⟨_,e2⟩
  rw [hX]
  exact f_ckAtHead nil D b hx h0 fun ns e=>hh ⟨ns,e⟩
theorem f_implLast (nil : Bool) (L : List (List Int)) (hl : L.length ≤ 1048576) :
    FnS Try.prog 9 [.one (.r false (row nil 1 (rowsI L)))] [] (stT (lastCk L)) (stH (lastCk L)) := by
  have hlenL := Zag L
  obtain ⟨X, hX⟩ : ∃ X, X = lastCk L := ⟨_, rfl⟩
  rw [← hX]
  by_cases hbig : L.length ≤ 2000
  · have hX0 : X = lastFrom L L.length := by rw [hX]; unfold lastCk; rw [if_pos hbig]
    clear hX
    refine Zac (l := [.cell 2 28, .tmp 3]) Try.func9 kRf rfl Try.ntmps9 rfl rfl ?_; simp only [dEnv, Nat.reduceAdd]
    repeat' (first|refine wk ?_|(refine wkB ?_ ?_<;>intro hg_<;>try exact wkX)|fail)
    have hw0 : IntKind.i64.wrap (((rowsI L).length : Int) - 1) = (L.length : Int) - 1 := by rw [hlenL]; exact IntWalk.i64_in _ oM
    obtain ⟨F, hFs⟩ : ∃ F : Nat → St, ∀ k, F k = mkS 28 [(4, .one (.r true (int ((k : Int) - 1)))), (2, .one (.ptr 2 0 0 0)), (0, .one (.r false (row nil 1 (rowsI L))))] [(2, .var 28 [.r true (int 0), Zc, Zc, Zc])] := ⟨_, fun _ => rfl⟩
    refine Z7 (fun k : Nat => k ≤ L.length ∧ X = lastFrom L k) F (fun k => k) L.length ⟨Nat.le_refl _, hX0⟩ (by rw [hFs];(refine Zg [] rfl ?_ ?_ <;> repeat' (first|refine wkS ?_ ?_|exact wkE|exact Zq hw0))) ?_
    rintro k ⟨hk, HX⟩
    clear hX0
    cases k with
    | zero =>
      have hXz : X = none := HX
      rw [hXz, hFs]
      unfold stT stH
      clear HX hFs hXz
      repeat' (first|refine wk ?_|(refine wkB ?_ ?_<;>intro hg_<;>try exact wkX)|fail)
      all_goals first
        | exact Zu [] rfl sbH (Zap (x := (true, _)) (y := (false, [_])) (Zan rfl rfl tyF0 rfl rfl rfl) rfl (Zao rfl) rfl (Zak (tups2 rfl rfl)))
        | (exfalso; omega)
    | succ m =>
      have KC := f_ckAtI nil (L.drop m) (by simp; omega) (by simp; omega)
      have hsl : ((rowsI L).drop m).take ((rowsI L).length - m) = rowsI (L.drop m) := by
        rw [Zaz, hlenL, List.take_of_length_le (by simp)]
      have e1 : (((m + 1 : Nat) : Int) - 1) = (m : Int) := by omega
      have hw1 : IntKind.i64.wrap ((m : Int) - 1) = (m : Int) - 1 := IntWalk.i64_in _ oM
      cases hc : ckAt (L.drop m) with
      | none =>
        have HX2 : X = lastFrom L m := by rw [HX, lastFrom, hc]
        have hfin : ∀ s' : St, Weak s' (F m) → ∃ x' : Nat, (x' ≤ L.length ∧ X = lastFrom L x') ∧ Weak s' (F x') ∧ x' < m + 1 := fun s' h => ⟨m, ⟨by omega, HX2⟩, h, by omega⟩
        rw [hFs] at hfin ⊢
        rw [e1]
        rw [hc, ← hsl] at KC
        unfold stT stH at KC
        clear hFs HX HX2 hsl
        repeat' (first|refine wk ?_|((first|refine' w_q rfl rfl ?xa rfl ?_|refine' v_q rfl rfl ?xa rfl ?_|refine' Zh rfl rfl (Zb rfl) rfl ?xa rfl ?_|refine' Zi rfl rfl (Zb rfl) rfl ?xa rfl ?_);case xa => exact Z9 (a := m) (b := (rowsI L).length) tbOk rfl rfl rfl ⟨_, Za rfl⟩ rfl oM (Nat.le_refl _))|((first|refine' w_e rfl ?xa ?xb ?xc ?xe ?_|refine' v_e rfl ?xa ?xb ?xc ?xe ?_);(case xa => exact Zj 22 rfl (Zbf (ys := [.one (row nil 1 (((rowsI L).drop m).take ((rowsI L).length - m)))]) [] KC rfl rfl ⟨Zd (Za rfl), trivial⟩ rfl rfl));(case xb|xc|xe=>rfl);try refine wkD ?_)|(refine wkB ?_ ?_<;>intro hg_<;>try exact wkX)|fail)
        all_goals first
          | (refine hfin _ ?_
             (refine Zg [] rfl ?_ ?_ <;> repeat' (first|refine wkS ?_ ?_|exact wkE|exact Zq hw1)))
          | (exfalso; omega)
      | some s =>
        have HX2 : X = some s := by rw [HX, lastFrom, hc]
        rw [HX2, hFs, e1]
        rw [hc, ← hsl] at KC
        clear hFs HX HX2 hc hsl
        obtain ⟨r, vs, gs, ms⟩ := s
        by_cases hvs : vs = []
        · subst hvs
          by_cases hms : ms = []
          · subst hms
            have hT : stT (some ⟨r, [], gs, []⟩) = .tups [(true, [.r true (int r), Zc, Zc, Zc]), (false, [.r true (bool true)])] := rfl
            have hH : stH (some ⟨r, [], gs, []⟩) = [] := rfl
            rw [hT, hH] at KC
            rw [hT, hH]
            clear hT hH
            repeat' (first|refine wk ?_|((first|refine' w_q rfl rfl ?xa rfl ?_|refine' v_q rfl rfl ?xa rfl ?_|refine' Zh rfl rfl (Zb rfl) rfl ?xa rfl ?_|refine' Zi rfl rfl (Zb rfl) rfl ?xa rfl ?_);case xa => exact Z9 (a := m) (b := (rowsI L).length) tbOk rfl rfl rfl ⟨_, Za rfl⟩ rfl oM (Nat.le_refl _))|((first|refine' w_e rfl ?xa ?xb ?xc ?xe ?_|refine' v_e rfl ?xa ?xb ?xc ?xe ?_);(case xa => exact Zj 22 rfl (Zbf (ys := [.one (row nil 1 (((rowsI L).drop m).take ((rowsI L).length - m)))]) [(2000001, 501), (2000002, 502), (2000003, 503)] KC rfl rfl ⟨Zd (Za rfl), trivial⟩ rfl rfl));(case xb|xc|xe=>rfl);try refine wkD ?_)|(refine wkB ?_ ?_<;>intro hg_<;>try exact wkX)|fail)
            all_goals first
              | exact Zu [(2000001, 501), (2000002, 502), (2000003, 503)] rfl sbH (Zap (x := (true, _)) (y := (false, [_])) (Zan rfl rfl tyF0 rfl rfl rfl) rfl (Zao rfl) rfl (Zak (tups2 rfl rfl)))
              | (exfalso; omega)
          · have hme : ms.isEmpty = false := by cases ms with
              | nil => exact absurd rfl hms
              | cons x y => rfl
            have hT : stT (some ⟨r, [], gs, ms⟩) = .tups [(true, [.r true (int r), Zc, Zc, .own 2000003 0 ms.length 3]), (false, [.r true (bool true)])] := by simp only [stT, rowC, hme]; rfl
            have hH : stH (some ⟨r, [], gs, ms⟩) = [(2000003, .sl 70 3 true (edges ms))] := by simp only [stH, hme]; rfl
            rw [hT, hH] at KC
            rw [hT, hH]
            clear hT hH
            repeat' (first|refine wk ?_|((first|refine' w_q rfl rfl ?xa rfl ?_|refine' v_q rfl rfl ?xa rfl ?_|refine' Zh rfl rfl (Zb rfl) rfl ?xa rfl ?_|refine' Zi rfl rfl (Zb rfl) rfl ?xa rfl ?_);case xa => exact Z9 (a := m) (b := (rowsI L).length) tbOk rfl rfl rfl ⟨_, Za rfl⟩ rfl oM (Nat.le_refl _))|((first|refine' w_e rfl ?xa ?xb ?xc ?xe ?_|refine' v_e rfl ?xa ?xb ?xc ?xe ?_);(case xa => exact Zj 22 rfl (Zbf (ys := [.one (row nil 1 (((rowsI L).drop m).take ((rowsI L).length - m)))]) [(2000001, 501), (2000002, 502), (2000003, 503)] KC rfl rfl ⟨Zd (Za rfl), trivial⟩ rfl rfl));(case xb|xc|xe=>rfl);try refine wkD ?_)|(refine wkB ?_ ?_<;>intro hg_<;>try exact wkX)|fail)
            all_goals first
              | exact Zu [(2000001, 501), (2000002, 502), (2000003, 503)] rfl sbH (Zap (x := (true, _)) (y := (false, [_])) (Zan rfl rfl tyF0 rfl rfl rfl) rfl (Zao rfl) rfl (Zak (tups2 rfl rfl)))
              | (exfalso; omega)
        · have hve : vs.isEmpty = false := by cases vs with
            | nil => exact absurd rfl hvs
            | cons x y => rfl
          by_cases hms : ms = []
          · subst hms
            have hT : stT (some ⟨r, vs, gs, []⟩) = .tups [(true, [.r true (int r), .own 2000001 0 vs.length 1, .own 2000002 0 gs.length 1, Zc]), (false, [.r true (bool true)])] := by simp only [stT, rowC, hve]; rfl
            have hH : stH (some ⟨r, vs, gs, []⟩) = [(2000001, .sl 3 1 true (ints vs)), (2000002, .sl 4 1 true (bools gs))] := by simp only [stH, hve]; rfl
            rw [hT, hH] at KC
            rw [hT, hH]
            clear hT hH
            repeat' (first|refine wk ?_|((first|refine' w_q rfl rfl ?xa rfl ?_|refine' v_q rfl rfl ?xa rfl ?_|refine' Zh rfl rfl (Zb rfl) rfl ?xa rfl ?_|refine' Zi rfl rfl (Zb rfl) rfl ?xa rfl ?_);case xa => exact Z9 (a := m) (b := (rowsI L).length) tbOk rfl rfl rfl ⟨_, Za rfl⟩ rfl oM (Nat.le_refl _))|((first|refine' w_e rfl ?xa ?xb ?xc ?xe ?_|refine' v_e rfl ?xa ?xb ?xc ?xe ?_);(case xa => exact Zj 22 rfl (Zbf (ys := [.one (row nil 1 (((rowsI L).drop m).take ((rowsI L).length - m)))]) [(2000001, 501), (2000002, 502), (2000003, 503)] KC rfl rfl ⟨Zd (Za rfl), trivial⟩ rfl rfl));(case xb|xc|xe=>rfl);try refine wkD ?_)|(refine wkB ?_ ?_<;>intro hg_<;>try exact wkX)|fail)
            all_goals first
              | exact Zu [(2000001, 501), (2000002, 502), (2000003, 503)] rfl sbH (Zap (x := (true, _)) (y := (false, [_])) (Zan rfl rfl tyF0 rfl rfl rfl) rfl (Zao rfl) rfl (Zak (tups2 rfl rfl)))
              | (exfalso; omega)
          · have hme : ms.isEmpty = false := by cases ms with
              | nil => exact absurd rfl hms
              | cons x y => rfl
            have hT : stT (some ⟨r, vs, gs, ms⟩) = .tups [(true, [.r true (int r), .own 2000001 0 vs.length 1, .own 2000002 0 gs.length 1, .own 2000003 0 ms.length 3]), (false, [.r true (bool true)])] := by simp only [stT, rowC, hve, hme]; rfl
            have hH : stH (some ⟨r, vs, gs, ms⟩) = [(2000001, .sl 3 1 true (ints vs)), (2000002, .sl 4 1 true (bools gs)), (2000003, .sl 70 3 true (edges ms))] := by simp only [stH, hve, hme]; rfl
            rw [hT, hH] at KC
            rw [hT, hH]
            clear hT hH
            repeat' (first|refine wk ?_|((first|refine' w_q rfl rfl ?xa rfl ?_|refine' v_q rfl rfl ?xa rfl ?_|refine' Zh rfl rfl (Zb rfl) rfl ?xa rfl ?_|refine' Zi rfl rfl (Zb rfl) rfl ?xa rfl ?_);case xa => exact Z9 (a := m) (b := (rowsI L).length) tbOk rfl rfl rfl ⟨_, Za rfl⟩ rfl oM (Nat.le_refl _))|((first|refine' w_e rfl ?xa ?xb ?xc ?xe ?_|refine' v_e rfl ?xa ?xb ?xc ?xe ?_);(case xa => exact Zj 22 rfl (Zbf (ys := [.one (row nil 1 (((rowsI L).drop m).take ((rowsI L).length - m)))]) [(2000001, 501), (2000002, 502), (2000003, 503)] KC rfl rfl ⟨Zd (Za rfl), trivial⟩ rfl rfl));(case xb|xc|xe=>rfl);try refine wkD ?_)|(refine wkB ?_ ?_<;>intro hg_<;>try exact wkX)|fail)
            all_goals first
              | exact Zu [(2000001, 501), (2000002, 502), (2000003, 503)] rfl sbH (Zap (x := (true, _)) (y := (false, [_])) (Zan rfl rfl tyF0 rfl rfl rfl) rfl (Zao rfl) rfl (Zak (tups2 rfl rfl)))
              | (exfalso; omega)
  · have hXz : X = none := by rw [hX]; unfold lastCk; rw [if_neg hbig]
    rw [hXz]
    unfold stT stH
    clear hX hXz
    refine Zac (l := [.cell 2 28, .tmp 3]) Try.func9 kRf rfl Try.ntmps9 rfl rfl ?_; simp only [dEnv, Nat.reduceAdd]
    repeat' (first|refine wk ?_|(refine wkB ?_ ?_<;>intro hg_<;>try exact wkX)|fail)
    all_goals first
      | exact Zu [] rfl sbH (Zap (x := (true, _)) (y := (false, [_])) (Zan rfl rfl tyF0 rfl rfl rfl) rfl (Zao rfl) rfl (Zak (tups2 rfl rfl)))
      | (exfalso; omega)
end Go.Proofs.Ytmkijbfiilpccaa.Abs
