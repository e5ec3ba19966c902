/- States of runs: plain data. No statement of the seat is proved here. -/
import Derived.Lib.Hide
import Derived.Test.YtmkijbfiilpccaaXlTy
import Derived.Test.YtmkijbfiilpccaaXlALaw0
import Derived.Test.YtmkijbfiilpccaaXlGCod
set_option linter.unusedSimpArgs false
set_option linter.unusedVariables false
namespace Go.Proofs.Ytmkijbfiilpccaa.Abs
open Go.RowKit
open R (val row ref)
def bef (a b : E3) : Bool:=if a.1 ≠ b.1 then decide (a.1 < b.1) else if a.2.1 ≠ b.2.1 then decide (a.2.1 < b.2.1) else decide (a.2.2 < b.2.2)
def cmpI (a b : Int) : Int:=if a < b then -1 else if b < a then 1 else 0
def orI : List Int → Int
 | []=>0
 | x :: xs=>if x ≠ 0 then x else orI xs
def cmpM (a b : E3) : Int:=orI [cmpI a.1 b.1,cmpI a.2.1 b.2.1,cmpI a.2.2 b.2.2]
theorem cmpI_zero (a b : Int) : cmpI a b = 0 ↔ a = b:=by unfold cmpI; split<;>(try split)<;>omega
theorem cmpI_neg (a b : Int) : cmpI a b < 0 ↔ a < b:=by unfold cmpI; split<;>(try split)<;>omega
theorem cmpM_neg (a b : E3) : decide (cmpM a b < 0) = bef a b:=by
 have z1:=cmpI_zero a.1 b.1
 have z2:=cmpI_zero a.2.1 b.2.1
 have n1:=cmpI_neg a.1 b.1
 have n2:=cmpI_neg a.2.1 b.2.1
 have n3:=cmpI_neg a.2.2 b.2.2
 unfold cmpM bef
 simp only [orI]
 generalize cmpI a.1 b.1 = x at *
 generalize cmpI a.2.1 b.2.1 = y at *
 generalize cmpI a.2.2 b.2.2 = z at *
 simp only [ne_eq,← z1,← z2,← n1,← n2,← n3]
 by_cases h1 : x = 0<;>by_cases h2 : y = 0<;>by_cases h3 : z = 0<;>simp [h1,h2,h3]
def valIn (v : Int) : Bool:=inR (-1) 999999 v
def msgIn (u : Int) (m : E3) : Bool:=inR 0 u m.1 && inR 0 u m.2.2 && inR 0 999999 m.2.1
def befP (m : E3) : Option E3 → Bool
 | none=>true
 | some q=>!bef m q
def msOk (u : Int) : Option E3 → List E3 → Bool
 | _,[]=>true
 | p,m :: ms=>msgIn u m && befP m p && msOk u (some m) ms
def srt : List E3 → Bool
 | []=>true
 | [_]=>true
 | a :: b :: r=>!bef b a && srt (b :: r)
theorem srt_iff : ∀ (ms : List E3),srt ms = true ↔ ∀ j (h : j + 1 < ms.length),bef ms[j + 1] ms[j] = false
 | []=>by simp [srt]
 | [a]=>by simp [srt]
 | a :: b :: r=>by
  have ih:=srt_iff (b :: r)
  simp only [srt,Bool.and_eq_true,ih,Bool.not_eq_true']
  constructor
  ·rintro ⟨h1,h2⟩ j h
   cases j with
   | zero=>exact h1
   | succ j=>exact h2 j (by simpa using h)
  ·intro h
   exact ⟨h 0 (by simp),fun j hj=>h (j + 1) (by simpa using hj)⟩
theorem msOk_some (u : Int) : ∀ (p : E3) (ms : List E3),msOk u (some p) ms = (srt (p :: ms) && ms.all (msgIn u))
 | _,[]=>by simp [msOk,srt]
 | p,m :: ms=>by
  simp only [msOk,msOk_some u m ms,srt,List.all_cons,befP]
  cases msgIn u m<;>cases bef m p<;>simp
theorem msOk_none (u : Int) (ms : List E3) : msOk u none ms = (srt ms && ms.all (msgIn u)):=by
 cases ms with
 | nil=>simp [msOk,srt]
 | cons m ms =>
  simp only [msOk,msOk_some,List.all_cons,befP]
  cases msgIn u m<;>simp
theorem msOk_step {u : Int} {ms : List E3} {k : Nat} (h : k < ms.length) : msOk u (prevE ms k) (ms.drop k) = (msgIn u ms[k] && befP ms[k] (prevE ms k) && msOk u (prevE ms (k + 1)) (ms.drop (k + 1))):=by
 rw [List.drop_eq_getElem_cons h,msOk]
 simp [prevE,h]
def stOk (many r : Int) (vs : List Int) (gl : Nat) (ms : List E3) : Bool:=inR 0 16 many && inR 0 100 r && decide ((vs.length : Int) = many) && decide ((gl : Int) = many) && decide (ms.length ≤ 2000) && vs.all valIn && msOk (many - 1) none ms
theorem all_step {α : Type} {f : α → Bool} {xs : List α} {k : Nat} (h : k < xs.length) : (xs.drop k).all f = (f xs[k] && (xs.drop (k + 1)).all f):=by
 rw [List.drop_eq_getElem_cons h,List.all_cons]
theorem stOk_spec (many r : Int) (vs : List Int) (gl : Nat) (ms : List E3) : stOk many r vs gl ms = (vs.all valIn && msOk (IntKind.i64.wrap (many - 1)) none ms && (inR 0 16 many && inR 0 100 r && decide ((vs.length : Int) = many) && decide ((gl : Int) = many) && decide (ms.length ≤ 2000))):=by
 unfold stOk
 by_cases h : inR 0 16 many = true
 ·rw [IntWalk.i64_in _ (by unfold inR at h; simp at h; omega)]
  cases vs.all valIn<;>cases msOk (many - 1) none ms<;>simp
 ·rw [Bool.not_eq_true] at h
  simp [h]
def bools (gs : List Bool) : List P0:=gs.map fun b=>.one (bool b)
theorem Zab (gs : List Bool) : (bools gs).length = gs.length:=List.length_map ..
theorem bools_at {gs : List Bool} {k : Nat} (h : k < gs.length) : (bools gs)[(k : Int).toNat]? = some (.one (bool gs[k])):=by
 unfold bools; simp [h]
abbrev stateP (r : Int) (nv : Bool) (vs : List Int) (ng : Bool) (gs : List Bool) (nm : Bool) (ms : List E3) : P0:=.agg [int r,row nv 1 (ints vs),row ng 1 (bools gs),row nm 3 (edges ms)]
structure Sta where
 r : Int
 vs : List Int
 gs : List Bool
 ms : List E3
def b01 (g : Bool) : Int:=if g then 1 else 0
def Sta.ok (s : Sta) : Bool:=stOk s.vs.length s.r s.vs s.gs.length s.ms
def rcV (v : Int) (g : Bool) : List Int:=2 :: (enc (v + 1) ++ [b01 g])
def rcM (m : E3) : List Int:=3 :: edgeB m.1 m.2.1 m.2.2
def rcH (s : Sta) : List Int:=1 :: (enc s.r ++ (enc s.vs.length ++ enc s.ms.length))
def ckB (s : Sta) : List (List Int):=rcH s :: (List.zipWith rcV s.vs s.gs ++ (s.ms.map rcM ++ [[4]]))
def Ck (L : List (List Int)) (s : Sta) : Prop:=s.ok = true ∧ ckB s <+: L
structure OkF (s : Sta) : Prop where
 many : s.vs.length ≤ 16
 r0 : 0 ≤ s.r
 r1 : s.r ≤ 100
 gl : s.gs.length = s.vs.length
 ml : s.ms.length ≤ 2000
 vin : ∀ v ∈ s.vs,-1 ≤ v ∧ v ≤ 999999
 min : ∀ m ∈ s.ms,0 ≤ m.1 ∧ m.1 < s.vs.length ∧ 0 ≤ m.2.1 ∧ m.2.1 ≤ 999999 ∧ 0 ≤ m.2.2 ∧ m.2.2 < s.vs.length
theorem Sta.okF {s : Sta} (h : s.ok = true) : OkF s:=by
 unfold Sta.ok stOk at h
 rw [msOk_none] at h
 simp only [Bool.and_eq_true,decide_eq_true_eq,List.all_eq_true] at h
 obtain ⟨⟨⟨⟨⟨⟨h1,h2⟩,h3⟩,h4⟩,h5⟩,h6⟩,h7,h8⟩:=h
 unfold inR at h1 h2
 rw [decide_eq_true_eq] at h1 h2
 refine ⟨by omega,h2.1,h2.2,by omega,h5,fun v hv=>?_,fun m hm=>?_⟩
 ·have:=h6 v hv
  unfold valIn inR at this
  simpa using this
 ·have:=h8 m hm
  unfold msgIn inR at this
  simp only [Bool.and_eq_true,decide_eq_true_eq] at this
  omega
def rcdH (b : List Int) : Option (Int × Int × Int) :=
 if b.head? = some 1 then
  match decAt b 1 with
  | some (r,i)=>match decAt b i with
   | some (m,j)=>match decAt b j with
    | some (w,_)=>some (r,m,w)
    | none=>none
   | none=>none
  | none=>none
 else none
def rcdV (b : List Int) : Option (Int × Bool) :=
 match decAt b 1 with
 | some (n,j)=>if j = (b.length : Int) - 1 then some (n - 1,b.getD j.toNat 0 == 1) else none
 | none=>none
theorem rcdH_rcH {s : Sta} (h : OkF s) : rcdH (rcH s) = some (s.r,(s.vs.length : Int),(s.ms.length : Int)):=by
 have h1:=Zau s.r
 have h2:=Zau s.vs.length
 have h3:=Zau s.ms.length
 have hm:=h.many
 have hml:=h.ml
 have hr0:=h.r0
 have hr1:=h.r1
 have hok : bytesOk (1 :: (enc s.r ++ (enc s.vs.length ++ enc s.ms.length))) = true:=bytesOk_of (fun z hz=>by
  simp only [List.mem_cons,List.mem_append] at hz
  rcases hz with hz | hz | hz | hz
  ·omega
  ·exact Zbg _ z hz
  ·exact Zbg _ z hz
  ·exact Zbg _ z hz) (by simp; omega)
 have d1:=enc_one (l:=[1]) (r:=enc s.vs.length ++ enc s.ms.length) hr0 (by omega : s.r ≤ 1000000) (by simpa using hok)
 have d2:=enc_one (l:=1 :: enc s.r) (r:=enc s.ms.length) (n:=(s.vs.length : Int)) oM oM (by simpa using hok)
 have d3:=enc_one (l:=1 :: (enc s.r ++ enc s.vs.length)) (r:=[]) (n:=(s.ms.length : Int)) oM oM (by simpa using hok)
 simp only [List.cons_append,List.nil_append,List.append_nil,List.length_nil,List.length_cons,List.append_assoc,Nat.zero_add,List.length_append] at d1 d2 d3
 unfold rcdH rcH
 rw [show ((1 : Nat) : Int) = 1 from rfl] at d1
 rw [List.head?_cons,if_pos rfl,d1]
 simp only []
 rw [Nat.add_comm 1,d2]
 simp only []
 rw [show (enc s.r).length + 1 + (enc s.vs.length).length = (enc s.r).length + (enc s.vs.length).length + 1 by omega,d3]
theorem rcdV_rcV {v : Int} {g : Bool} (h0 : -1 ≤ v) (h1 : v ≤ 999999) : rcdV (rcV v g) = some (v,g):=by
 have hl:=Zau (v + 1)
 have hok : bytesOk (2 :: (enc (v + 1) ++ [b01 g])) = true:=bytesOk_of (fun z hz=>by
  simp only [List.mem_cons,List.mem_append,List.not_mem_nil,or_false] at hz
  rcases hz with hz | hz | hz
  ·omega
  ·exact Zbg _ z hz
  ·subst hz; unfold b01; split<;>omega) (by simp; omega)
 have d1:=enc_one (l:=[2]) (r:=[b01 g]) (n:=v + 1) oM oM (by simpa using hok)
 simp only [List.cons_append,List.nil_append,List.length_nil,List.length_cons,Nat.zero_add] at d1
 unfold rcdV rcV
 rw [show ((1 : Nat) : Int) = 1 from rfl] at d1
 rw [d1]
 simp only []
 rw [if_pos (by simp; omega)]
 have e : (2 :: (enc (v + 1) ++ [b01 g])).getD (((1 + (enc (v + 1)).length : Nat) : Int).toNat) 0 = b01 g:=by
  rw [Int.toNat_natCast,Nat.add_comm 1,List.getD_cons_succ,List.getD_eq_getElem?_getD,List.getElem?_append_right oM]
  simp
 rw [e]
 cases g<;>simp [b01]<;>omega
theorem rdM_rcM {m : E3} (h1 : 0 ≤ m.1 ∧ m.1 ≤ 1000000) (h2 : 0 ≤ m.2.1 ∧ m.2.1 ≤ 1000000) (h3 : 0 ≤ m.2.2 ∧ m.2.2 ≤ 1000000) : readE ((rcM m).drop 1) = some m:=by
 obtain ⟨a,b,c⟩:=m
 dsimp only at h1 h2 h3
 have f1 : fits a = true:=by simp [fits,h1]
 have f2 : fits b = true:=by simp [fits,h2]
 have f3 : fits c = true:=by simp [fits,h3]
 unfold rcM edgeB
 rw [if_pos (by simp [f1,f2,f3]),List.drop_one,List.tail_cons]
 exact readE_edgeB f1 f2 f3
theorem ckB_len {s : Sta} (h : OkF s) : (ckB s).length = s.vs.length + s.ms.length + 2:=by
 unfold ckB
 have:=h.gl
 simp; omega
theorem Ck.len {L : List (List Int)} {s : Sta} (h : Ck L s) : s.vs.length + s.ms.length + 2 ≤ L.length:=by
 rw [← ckB_len (Sta.okF h.1)]
 exact h.2.length_le
theorem Ck.get {L : List (List Int)} {s : Sta} (h : Ck L s) {i : Nat} {b : List Int} (hb : (ckB s)[i]? = some b) : L[i]? = some b:=by
 obtain ⟨t,rfl⟩:=h.2
 rw [List.getElem?_append_left]
 ·exact hb
 ·rcases Nat.lt_or_ge i (ckB s).length with h' | h'
  ·exact h'
  ·rw [List.getElem?_eq_none h'] at hb; cases hb
theorem Ck.head {L : List (List Int)} {s : Sta} (h : Ck L s) : ∃ b,L[0]? = some b ∧ rcdH b = some (s.r,(s.vs.length : Int),(s.ms.length : Int)) :=
 ⟨rcH s,h.get rfl,rcdH_rcH (Sta.okF h.1)⟩
theorem Ck.val {L : List (List Int)} {s : Sta} (h : Ck L s) {j : Nat} (hj : j < s.vs.length) : ∃ b g,L[1 + j]? = some b ∧ s.gs[j]? = some g ∧ rcdV b = some (s.vs[j],g):=by
 have hF:=Sta.okF h.1
 have hg : j < s.gs.length:=by rw [hF.gl]; exact hj
 refine ⟨rcV s.vs[j] s.gs[j],s.gs[j],h.get ?_,List.getElem?_eq_getElem hg,?_⟩
 ·unfold ckB
  rw [Nat.add_comm 1,List.getElem?_cons_succ,List.getElem?_append_left (by simp; omega),List.getElem?_eq_getElem (by simp; omega),List.getElem_zipWith]
 ·have:=hF.vin s.vs[j] (List.getElem_mem hj)
  exact rcdV_rcV this.1 this.2
theorem Ck.msg {L : List (List Int)} {s : Sta} (h : Ck L s) {j : Nat} (hj : j < s.ms.length) : ∃ b,L[1 + s.vs.length + j]? = some b ∧ readE (b.drop 1) = some s.ms[j]:=by
 have hF:=Sta.okF h.1
 refine ⟨rcM s.ms[j],h.get ?_,?_⟩
 ·unfold ckB
  have e : (List.zipWith rcV s.vs s.gs).length = s.vs.length:=by have:=hF.gl; simp; omega
  rw [show 1 + s.vs.length + j = (s.vs.length + j) + 1 by omega,List.getElem?_cons_succ,List.getElem?_append_right oM,e,show s.vs.length + j - s.vs.length = j by omega,List.getElem?_append_left (by simpa using hj)]
  simp [hj]
 ·have:=hF.min s.ms[j] (List.getElem_mem hj)
  have:=hF.many
  exact rdM_rcM oM oM oM
theorem Ck.uniq {L : List (List Int)} {s t : Sta} (h : Ck L s) (h' : Ck L t) : s = t:=by
 obtain ⟨b,e1,e2⟩:=h.head
 obtain ⟨b',e1',e2'⟩:=h'.head
 rw [e1] at e1'
 injection e1' with e; subst e
 rw [e2] at e2'
 injection e2' with e
 injection e with er e
 injection e with ev em
 have hv : s.vs.length = t.vs.length:=by omega
 have hm : s.ms.length = t.ms.length:=by omega
 have hgs:=(Sta.okF h.1).gl
 have hgt:=(Sta.okF h'.1).gl
 have key : ∀ j (hj : j < s.vs.length) (hj' : j < t.vs.length),s.vs[j] = t.vs[j] ∧ s.gs[j]? = t.gs[j]?:=fun j hj hj'=>by
  obtain ⟨b,g,f1,f2,f3⟩:=h.val hj
  obtain ⟨b',g',f1',f2',f3'⟩:=h'.val hj'
  rw [f1] at f1'
  injection f1' with e; subst e
  rw [f3] at f3'
  injection f3' with e
  injection e with e1 e2
  rw [f2,f2',e2]
  exact ⟨e1,rfl⟩
 have kv : s.vs = t.vs:=List.ext_getElem hv fun j hj hj'=>(key j hj hj').1
 have kg : s.gs = t.gs:=List.ext_getElem? fun j=>by
  by_cases hj : j < s.vs.length
  ·exact (key j hj oM).2
  ·rw [List.getElem?_eq_none oM,List.getElem?_eq_none oM]
 have km : s.ms = t.ms:=List.ext_getElem hm fun j hj hj'=>by
  obtain ⟨b,f1,f2⟩:=h.msg hj
  obtain ⟨b',f1',f2'⟩:=h'.msg hj'
  rw [hv] at f1
  rw [f1] at f1'
  injection f1' with e; subst e
  rw [f2] at f2'
  injection f2'
 obtain ⟨r,vs,gs,ms⟩:=s
 obtain ⟨r',vs',gs',ms'⟩:=t
 dsimp only at er kv kg km
 rw [er,kv,kg,km]
open Classical in
noncomputable def ckAt (L : List (List Int)) : Option Sta:=if h : ∃ s,Ck L s then some h.choose else none
theorem ckAt_some {L : List (List Int)} {s : Sta} (h : Ck L s) : ckAt L = some s:=by
 unfold ckAt
 have hx : ∃ s,Ck L s:=⟨s,h⟩
 rw [dif_pos hx]
 exact congrArg some (hx.choose_spec.uniq h)
theorem Zbr {L : List (List Int)} (h : ∀ s,¬ Ck L s) : ckAt L = none:=by
 unfold ckAt
 rw [dif_neg (fun ⟨s,hs⟩=>h s hs)]
theorem ckAt_ck {L : List (List Int)} {s : Sta} (h : ckAt L = some s) : Ck L s:=by
 unfold ckAt at h
 split at h
 ·rename_i hx
  injection h with h
  rw [← h]; exact hx.choose_spec
 ·cases h
noncomputable def lastFrom (L : List (List Int)) : Nat → Option Sta
 | 0=>none
 | n + 1=>match ckAt (L.drop n) with
  | some s=>some s
  | none=>lastFrom L n
noncomputable def lastCk (L : List (List Int)) : Option Sta:=if L.length ≤ 2000 then lastFrom L L.length else none
theorem lastFrom_ok {L : List (List Int)} {s : Sta} : ∀ n,lastFrom L n = some s → s.ok = true
 | 0,h=>by cases h
 | n + 1,h=>by
  unfold lastFrom at h
  split at h
  ·rename_i x hx
   injection h with h
   rw [← h]; exact (ckAt_ck hx).1
  ·exact lastFrom_ok n h
theorem lastCk_ok {L : List (List Int)} {s : Sta} (h : lastCk L = some s) : s.ok = true:=by
 unfold lastCk at h
 split at h
 ·exact lastFrom_ok _ h
 ·cases h
end Go.Proofs.Ytmkijbfiilpccaa.Abs
