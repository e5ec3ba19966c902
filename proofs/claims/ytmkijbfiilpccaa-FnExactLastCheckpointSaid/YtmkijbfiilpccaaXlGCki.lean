/- Reading a checkpoint as the program does: plain data. No statement of the seat is proved here. -/
import Derived.Lib.Hide
import Derived.Test.YtmkijbfiilpccaaXlTy
import Derived.Test.YtmkijbfiilpccaaXlAImVM
set_option linter.unusedSimpArgs false
set_option linter.unusedVariables false
namespace Go.Proofs.Ytmkijbfiilpccaa.Abs
open Go.RowKit
open R (val row ref)
theorem Za5 {α : Type} {f : List Int → Option α} : ∀ {bs : List (List Int)} {xs : List α},rdAll f bs = some xs → xs.length = bs.length
 | [],xs,h=>by rw [rdAll] at h; injection h with h; rw [← h]; rfl
 | b :: bs,xs,h=>by
  rw [rdAll] at h
  cases hb : f b with
  | none=>rw [hb] at h; cases h
  | some x =>
   rw [hb] at h
   cases hr : rdAll f bs with
   | none=>rw [hr] at h; cases h
   | some ys =>
    rw [hr] at h
    injection h with h
    rw [← h,List.length_cons,List.length_cons,Za5 hr]
theorem b01_enc {g : Int} (h0 : 0 ≤ g) (h1 : g ≤ 1) : enc g = [b01 (g == 1)]:=by
 rw [enc_last h0 oM]
 unfold b01
 by_cases h : g = 1
 ·subst h; rfl
 ·have : g = 0:=by omega
  subst this; rfl
theorem rdV1_rcV {b : List Int} {v : Int} {g : Bool} (h : rdV1 b = some (v,g)) : b = rcV v g:=by
 unfold rdV1 at h
 rcases hn : nbF 2 2 b with ⟨o,q⟩
 rw [hn] at h
 cases o with
 | none=>cases h
 | some ns =>
  match ns,nbF_len hn with
  | [a,c],_ =>
   cases q
   ·cases h
   ·dsimp only at h
    obtain ⟨e1,e2,e3⟩:=nbF_yes hn
    split at h
    ·rename_i hc
     injection h with h
     injection h with h1 h2
     rw [e1,← h1,← h2]
     unfold rcV
     rw [show a - 1 + 1 = a by omega]
     have:=(e3 c (by simp)).1
     simp [b01_enc this hc]
    ·cases h
theorem rcV_rdV1 {v : Int} {g : Bool} (h0 : -1 ≤ v) (h1 : v ≤ 999999) : rdV1 (rcV v g) = some (v,g):=by
 have hg : 0 ≤ b01 g ∧ b01 g ≤ 1:=by unfold b01; split<;>omega
 have e : rcV v g = 2 :: [v + 1,b01 g].flatMap enc:=by
  unfold rcV
  have:=b01_enc hg.1 hg.2
  have h2 : b01 (b01 g == 1) = b01 g:=by cases g<;>rfl
  simp [this,h2]
 have hN:=nbF_enc (tag:=2) (ns:=[v + 1,b01 g]) oM (by simp) (fun n hn=>by
  simp only [List.mem_cons,List.not_mem_nil,or_false] at hn
  rcases hn with rfl | rfl<;>omega)
 unfold rdV1
 rw [e]
 rw [show [v + 1,b01 g].length = 2 from rfl] at hN
 rw [hN]
 dsimp only
 rw [if_pos hg.2,show v + 1 - 1 = v by omega]
 cases g<;>rfl
theorem rdM1_rcM {b : List Int} {e : E3} (h : rdM1 b = some e) : b = rcM e:=by
 unfold rdM1 at h
 rcases hn : nbF 3 3 b with ⟨o,q⟩
 rw [hn] at h
 cases o with
 | none=>cases h
 | some ns =>
  match ns,nbF_len hn with
  | [a,c,d],_ =>
   cases q
   ·cases h
   ·dsimp only at h
    obtain ⟨e1,e2,e3⟩:=nbF_yes hn
    injection h with h
    rw [e1,← h]
    unfold rcM edgeB
    have h1:=e3 a (by simp)
    have h2:=e3 c (by simp)
    have h3:=e3 d (by simp)
    rw [if_pos (by simp [fits,h1,h2,h3])]
    simp
theorem rcM_rdM1 {m : E3} (h1 : 0 ≤ m.1 ∧ m.1 ≤ 1000000) (h2 : 0 ≤ m.2.1 ∧ m.2.1 ≤ 1000000) (h3 : 0 ≤ m.2.2 ∧ m.2.2 ≤ 1000000) : rdM1 (rcM m) = some m:=by
 obtain ⟨a,c,d⟩:=m
 dsimp only at h1 h2 h3
 have e : rcM (a,c,d) = 3 :: [a,c,d].flatMap enc:=by
  unfold rcM edgeB
  rw [if_pos (by simp [fits,h1,h2,h3])]
  simp
 have hN:=nbF_enc (tag:=3) (ns:=[a,c,d]) oM (by simp) (fun n hn=>by
  simp only [List.mem_cons,List.not_mem_nil,or_false] at hn
  rcases hn with rfl | rfl | rfl<;>omega)
 unfold rdM1
 rw [e]
 rw [show [a,c,d].length = 3 from rfl] at hN
 rw [hN]
theorem rdAllV_eq : ∀ {bs : List (List Int)} {L : List (Int × Bool)},rdAll rdV1 bs = some L → bs = List.zipWith rcV (vsOf L) (gsOf L)
 | [],L,h=>by rw [rdAll] at h; injection h with h; rw [← h]; rfl
 | b :: bs,L,h=>by
  rw [rdAll] at h
  cases hb : rdV1 b with
  | none=>rw [hb] at h; cases h
  | some x =>
   rw [hb] at h
   cases hr : rdAll rdV1 bs with
   | none=>rw [hr] at h; cases h
   | some ys =>
    rw [hr] at h
    injection h with h
    obtain ⟨v,g⟩:=x
    rw [← h,rdV1_rcV hb]
    unfold vsOf gsOf
    rw [List.map_cons,List.map_cons,List.zipWith_cons_cons]
    congr 1
    exact rdAllV_eq hr
theorem rdAllM_eq : ∀ {bs : List (List Int)} {L : List E3},rdAll rdM1 bs = some L → bs = L.map rcM
 | [],L,h=>by rw [rdAll] at h; injection h with h; rw [← h]; rfl
 | b :: bs,L,h=>by
  rw [rdAll] at h
  cases hb : rdM1 b with
  | none=>rw [hb] at h; cases h
  | some x =>
   rw [hb] at h
   cases hr : rdAll rdM1 bs with
   | none=>rw [hr] at h; cases h
   | some ys =>
    rw [hr] at h
    injection h with h
    rw [← h,rdM1_rcM hb,List.map_cons]
    congr 1
    exact rdAllM_eq hr
theorem rdAllV_yes : ∀ {vs : List Int} {gs : List Bool},gs.length = vs.length → (∀ v ∈ vs,-1 ≤ v ∧ v ≤ 999999) → rdAll rdV1 (List.zipWith rcV vs gs) = some (vs.zip gs)
 | [],gs,_,_=>by simp [rdAll]
 | v :: vs,[],h,_=>by simp at h
 | v :: vs,g :: gs,h,hv=>by
  have h0:=hv v (List.mem_cons_self ..)
  rw [List.zipWith_cons_cons,rdAll,rcV_rdV1 h0.1 h0.2,rdAllV_yes (by simpa using h) (fun z hz=>hv z (List.mem_cons_of_mem _ hz))]
  rfl
theorem rdAllM_yes : ∀ {ms : List E3},(∀ m ∈ ms,(0 ≤ m.1 ∧ m.1 ≤ 1000000) ∧ (0 ≤ m.2.1 ∧ m.2.1 ≤ 1000000) ∧ (0 ≤ m.2.2 ∧ m.2.2 ≤ 1000000)) → rdAll rdM1 (ms.map rcM) = some ms
 | [],_=>rfl
 | m :: ms,h=>by
  have h0:=h m (List.mem_cons_self ..)
  rw [List.map_cons,rdAll,rcM_rdM1 h0.1 h0.2.1 h0.2.2,rdAllM_yes (fun z hz=>h z (List.mem_cons_of_mem _ hz))]
theorem nbF_end : nbF 4 0 [4] = (some [],true):=nbF_enc (tag:=4) (ns:=[]) oM (by simp) (fun n hn=>absurd hn (by simp))
structure CkI (D : List (List Int)) (r : Int) (m w : Nat) (L : List (Int × Bool)) (M : List E3) : Prop where
 head : ∃ b,D[0]? = some b ∧ nbF 1 3 b = (some [r,(m : Int),(w : Int)],true)
 len : m + w + 2 ≤ D.length
 vals : rdAll rdV1 ((D.drop 1).take m) = some L
 msgs : rdAll rdM1 ((D.drop (1 + m)).take w) = some M
 fin : ∃ b,D[1 + m + w]? = some b ∧ nbF 4 0 b = (some [],true)
theorem Ck.ckI {D : List (List Int)} {s : Sta} (h : Ck D s) : CkI D s.r s.vs.length s.ms.length (s.vs.zip s.gs) s.ms:=by
 have hF:=Sta.okF h.1
 have hgl:=hF.gl
 have h1:=hF.many
 have h2:=hF.ml
 have h3:=hF.r0
 have h4:=hF.r1
 have hz : (List.zipWith rcV s.vs s.gs).length = s.vs.length:=by simp; omega
 obtain ⟨t,ht⟩:=h.2
 refine ⟨⟨rcH s,h.get rfl,?_⟩,by have:=h.len; omega,?_,?_,⟨[4],h.get ?_,nbF_end⟩⟩
 ·have e : rcH s = 1 :: [s.r,(s.vs.length : Int),(s.ms.length : Int)].flatMap enc:=by unfold rcH; simp
  rw [e]
  exact nbF_enc (tag:=1) (ns:=[s.r,(s.vs.length : Int),(s.ms.length : Int)]) oM (by simp) (fun n hn=>by
   simp only [List.mem_cons,List.not_mem_nil,or_false] at hn
   rcases hn with rfl | rfl | rfl<;>omega)
 ·rw [← ht]
  unfold ckB
  rw [List.cons_append,List.drop_one,List.tail_cons,List.append_assoc,List.take_left' hz]
  exact rdAllV_yes hgl hF.vin
 ·rw [← ht]
  unfold ckB
  rw [List.cons_append,Nat.add_comm 1,List.drop_succ_cons,List.append_assoc,List.drop_left' hz,List.append_assoc,List.take_left' (by simp)]
  exact rdAllM_yes fun m hm=>by have:=hF.min m hm; omega
 ·unfold ckB
  rw [show 1 + s.vs.length + s.ms.length = (s.vs.length + s.ms.length) + 1 by omega,List.getElem?_cons_succ,List.getElem?_append_right oM,hz,List.getElem?_append_right (by simp)]
  simp
theorem CkI.ck {D : List (List Int)} {r : Int} {m w : Nat} {L : List (Int × Bool)} {M : List E3} (h : CkI D r m w L M) (hok : Sta.ok ⟨r,vsOf L,gsOf L,M⟩ = true) : Ck D ⟨r,vsOf L,gsOf L,M⟩:=by
 obtain ⟨⟨b,hb1,hb2⟩,hl,hv,hm,⟨c,hc1,hc2⟩⟩:=h
 have lv:=Za5 hv
 have lm:=Za5 hm
 have ev:=rdAllV_eq hv
 have em:=rdAllM_eq hm
 have eb:=(nbF_yes hb2).1
 have ec:=(nbF_yes hc2).1
 rw [List.length_take,List.length_drop] at lv lm
 have hLm : L.length = m:=by omega
 have hMw : M.length = w:=by omega
 refine ⟨hok,?_⟩
 have eH : rcH ⟨r,vsOf L,gsOf L,M⟩ = b:=by
  rw [eb]
  unfold rcH
  dsimp only
  rw [Za0,hLm,hMw]
  simp
 unfold ckB
 rw [eH]
 dsimp only
 rw [← ev,← em]
 have ec' : c = [4]:=by rw [ec]; rfl
 subst ec'
 refine ⟨D.drop (1 + m + w + 1),?_⟩
 have hD0 : D = b :: D.drop 1:=by
  cases D with
  | nil=>cases hb1
  | cons x D=>simp only [List.getElem?_cons_zero,Option.some.injEq] at hb1; rw [hb1]; rfl
 have hDv : D.drop 1 = (D.drop 1).take m ++ D.drop (1 + m):=by
  conv=>lhs; rw [← List.take_append_drop m (D.drop 1),List.drop_drop]
 have hDm : D.drop (1 + m) = (D.drop (1 + m)).take w ++ D.drop (1 + m + w):=by
  conv=>lhs; rw [← List.take_append_drop w (D.drop (1 + m)),List.drop_drop]
 have hDe : D.drop (1 + m + w) = [4] :: D.drop (1 + m + w + 1):=by
  have hlt : 1 + m + w < D.length:=by omega
  rw [List.drop_eq_getElem_cons hlt]
  rw [List.getElem?_eq_getElem hlt] at hc1
  injection hc1 with hc1
  rw [hc1]
 conv=>rhs; rw [hD0,hDv,hDm,hDe]
 simp
end Go.Proofs.Ytmkijbfiilpccaa.Abs
