/- Reading a checkpoint as the reference does: plain data. No statement of the seat is proved here. -/
import Derived.Lib.Hide
import Derived.Test.YtmkijbfiilpccaaXlTy
import Derived.Test.YtmkijbfiilpccaaXlGStaCk
import Derived.Test.YtmkijbfiilpccaaXlALift
set_option linter.unusedSimpArgs false
set_option linter.unusedVariables false
namespace Go.Proofs.Ytmkijbfiilpccaa.Abs
open Go.RowKit
open R (val row ref)
theorem decForm (d : Option (Int × Int)) : ∃ n i t,decRes d = .tup [iP n,iP i,.one (bool t)] ∧ d = (if t then some (n,i) else none) ∧ (t = false → n = 0 ∧ i = 0):=by
 cases d with
 | none=>exact ⟨0,0,false,rfl,rfl,fun _=>⟨rfl,rfl⟩⟩
 | some p=>exact ⟨p.1,p.2,true,rfl,rfl,fun h=>by cases h⟩
theorem edgeForm (d : Option (Int × Int × Int)) : ∃ (e : E3) (t : Bool),edgeRes d = .tup [edgeP e,.one (bool t)] ∧ d = (if t then some e else none):=by
 cases d with
 | none=>exact ⟨(0,0,0),false,rfl,rfl⟩
 | some p=>exact ⟨p,true,rfl,rfl⟩
theorem decForm_at {b : List Int} {i n j : Int} {t : Bool} (h : decAt b i = (if t then some (n,j) else none)) (ht : t = true) : 0 ≤ n ∧ n ≤ 1000000 ∧ 0 < j ∧ j ≤ b.length:=by
 rw [ht,if_pos rfl] at h
 obtain ⟨h1,h2,h3,h4,h5⟩:=decAt_canon2 h
 simp only [fits,decide_eq_true_eq] at h5
 omega
def rdLoop (D : List (List Int)) (many : Nat) : Nat → Nat → Sta → Sta × Bool
 | 0,_,x=>(x,true)
 | f + 1,k,x =>
  if k < many then
   match rcdV (D.getD (k + 1) []) with
   | some (v,g)=>rdLoop D many f (k + 1) ⟨x.r,x.vs ++ [v],x.gs ++ [g],x.ms⟩
   | none=>(x,false)
  else
   match readE ((D.getD (k + 1) []).drop 1) with
   | some e=>rdLoop D many f (k + 1) ⟨x.r,x.vs,x.gs,x.ms ++ [e]⟩
   | none=>(x,false)
def wantB (x : Sta) : List (List Int):=if x.ok then ckB x else []
open Classical in
noncomputable def rdFin (D : List (List Int)) (R : Sta × Bool) : Sta × Int × Bool :=
 if R.2 then (R.1,((wantB R.1).length : Int),R.1.ok && decide (ckB R.1 <+: D)) else (R.1,0,false)
def zSta : Sta:=⟨0,[],[],[]⟩
noncomputable def rdRes (D : List (List Int)) : Sta × Int × Bool :=
 match D with
 | []=>(zSta,0,false)
 | h :: t=>match rcdH h with
  | some (r,m,w)=>if m ≤ 16 ∧ w ≤ 2000 ∧ m + w + 1 < ((h :: t).length : Int) then rdFin (h :: t) (rdLoop (h :: t) m.toNat (m.toNat + w.toNat) 0 ⟨r,[],[],[]⟩) else (zSta,0,false)
  | none=>(zSta,0,false)
theorem rdLoop_ck {D : List (List Int)} {s : Sta} (h : Ck D s) : ∀ f k,k + f = s.vs.length + s.ms.length → rdLoop D s.vs.length f k ⟨s.r,s.vs.take k,s.gs.take k,s.ms.take (k - s.vs.length)⟩ = (s,true)
 | 0,k,hk=>by
  have hg:=(Sta.okF h.1).gl
  unfold rdLoop
  rw [List.take_of_length_le oM,List.take_of_length_le oM,List.take_of_length_le oM]
 | f + 1,k,hk=>by
  have hg:=(Sta.okF h.1).gl
  unfold rdLoop
  by_cases hlt : k < s.vs.length
  ·rw [if_pos hlt]
   obtain ⟨b,g,e1,e2,e3⟩:=h.val hlt
   have hb : D.getD (k + 1) [] = b:=by rw [List.getD_eq_getElem?_getD,Nat.add_comm,e1]; rfl
   rw [hb,e3]
   have hgk : s.gs[k]'oM = g:=by rw [List.getElem?_eq_getElem oM] at e2; injection e2
   have ih:=rdLoop_ck h f (k + 1) oM
   rw [List.take_succ_eq_append_getElem hlt,List.take_succ_eq_append_getElem (by omega : k < s.gs.length),hgk,show k + 1 - s.vs.length = k - s.vs.length by omega] at ih
   exact ih
  ·rw [if_neg hlt]
   have hj : k - s.vs.length < s.ms.length:=by omega
   obtain ⟨b,e1,e2⟩:=h.msg hj
   have hb : D.getD (k + 1) [] = b:=by rw [List.getD_eq_getElem?_getD,show k + 1 = 1 + s.vs.length + (k - s.vs.length) by omega,e1]; rfl
   rw [hb,e2]
   have ih:=rdLoop_ck h f (k + 1) oM
   rw [show k + 1 - s.vs.length = (k - s.vs.length) + 1 by omega,List.take_succ_eq_append_getElem hj,List.take_of_length_le (by omega : s.vs.length ≤ k + 1),List.take_of_length_le (by omega : s.gs.length ≤ k + 1)] at ih
   rw [List.take_of_length_le (by omega : s.vs.length ≤ k),List.take_of_length_le (by omega : s.gs.length ≤ k)]
   exact ih
theorem rdRes_ck {D : List (List Int)} {s : Sta} (h : Ck D s) : (rdRes D).1 = s ∧ (rdRes D).2.2 = true:=by
 obtain ⟨b,e1,e2⟩:=h.head
 have hF:=Sta.okF h.1
 have hl:=h.len
 have h1:=hF.many
 have h2:=hF.ml
 have hL:=rdLoop_ck h (s.vs.length + s.ms.length) 0 oM
 simp only [List.take_zero,Nat.zero_sub] at hL
 match D,e1 with
 | hd :: t,e1 =>
  simp only [List.getElem?_cons_zero,Option.some.injEq] at e1
  subst e1
  simp only [rdRes,e2]
  rw [if_pos ⟨by omega,by omega,by omega⟩,Int.toNat_natCast,Int.toNat_natCast,hL]
  unfold rdFin
  have hp : ckB s <+: hd :: t:=h.2
  simp [h.1,hp]
theorem rdRes_only {D : List (List Int)} (h : (rdRes D).2.2 = true) : Ck D (rdRes D).1:=by
 cases D with
 | nil=>cases h
 | cons hd t =>
  cases he : rcdH hd with
  | none =>
   simp only [rdRes,he] at h
   cases h
  | some p =>
   obtain ⟨r,m,w⟩:=p
   simp only [rdRes,he] at h ⊢
   split at h
   ·rename_i hc
    rw [if_pos hc]
    unfold rdFin at h ⊢
    split at h
    ·rename_i hr
     rw [if_pos hr]
     simp only [Bool.and_eq_true,decide_eq_true_eq] at h
     exact ⟨h.1,h.2⟩
    ·cases h
   ·cases h
theorem rdRes_some {D : List (List Int)} (h : (rdRes D).2.2 = true) : ckAt D = some (rdRes D).1:=ckAt_some (rdRes_only h)
theorem rdRes_none {D : List (List Int)} (h : (rdRes D).2.2 = false) : ckAt D = none:=Zbr fun s hs=>by
 rw [(rdRes_ck hs).2] at h; cases h
end Go.Proofs.Ytmkijbfiilpccaa.Abs
