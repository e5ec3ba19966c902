/- How many messages a round can send. No statement of the seat is proved here. -/
import Derived.Lib.Hide
import Derived.Test.YtmkijbfiilpccaaLaTy
import Derived.Test.YtmkijbfiilpccaaLaGStp
set_option linter.unusedSimpArgs false
set_option linter.unusedVariables false
namespace Go.Proofs.Ytmkijbfiilpccaa.Abs
open Go.RowKit
open R (val row ref)
theorem Zde : ∀ {l l' : List Int},l.Nodup → (∀ x ∈ l,x ∈ l') → l.length ≤ l'.length
 | [],l',_,_=>Nat.zero_le _
 | x :: l,l',hn,hs=>by
  obtain ⟨a,b,rfl⟩:=List.append_of_mem (hs x (by simp))
  rw [List.nodup_cons] at hn
  have:=Zde (l:=l) (l':=a ++ b) hn.2 (fun y hy=>by
   have h:=hs y (by simp [hy])
   simp only [List.mem_append,List.mem_cons] at h ⊢
   rcases h with h | rfl | h
   ·exact .inl h
   ·exact absurd hy hn.1
   ·exact .inr h)
  simp only [List.length_append,List.length_cons] at this ⊢
  omega
theorem sum_key {α : Type} (key : α → Int) : ∀ (ws : List Int) (es : List α),ws.Nodup → (ws.map fun v=>(es.filter fun e=>decide (key e = v)).length).sum ≤ es.length
 | [],es,_=>by simp
 | w :: ws,es,hn=>by
  rw [List.nodup_cons] at hn
  have ih:=sum_key key ws (es.filter fun e=>!decide (key e = w)) hn.2
  have e1 : (ws.map fun v=>(es.filter fun e=>decide (key e = v)).length) = (ws.map fun v=>((es.filter fun e=>!decide (key e = w)).filter fun e=>decide (key e = v)).length):=by
   refine List.map_congr_left fun v hv=>?_
   rw [List.filter_filter]
   congr 1
   refine List.filter_congr fun e _=>?_
   by_cases h : key e = v
   ·have : ¬ key e = w:=fun h'=>hn.1 (by rw [← h',h]; exact hv)
    simp [h,this]
    exact fun h'=>this (h ▸ h')
   ·simp [h]
  rw [List.map_cons,List.sum_cons,e1]
  have h2 : (es.filter fun e=>decide (key e = w)).length + (es.filter fun e=>!decide (key e = w)).length = es.length:=by
   rw [← List.countP_eq_length_filter,← List.countP_eq_length_filter,List.length_eq_countP_add_countP (fun e=>decide (key e = w))]
   congr 1
   exact List.countP_congr (fun e _=>by simp)
  omega
theorem allV_nodup (m : Int) : (allV m).Nodup:=by
 unfold allV
 exact List.Pairwise.map _ (fun a b h h'=>h oM) List.nodup_range
theorem sum_le {α : Type} (f g : α → Nat) : ∀ ws : List α,(∀ v ∈ ws,f v ≤ g v) → (ws.map f).sum ≤ (ws.map g).sum
 | [],_=>Nat.le_refl _
 | w :: ws,h=>by
  have h1:=h w (by simp)
  have h2:=sum_le f g ws (fun v hv=>h v (by simp [hv]))
  simp only [List.map_cons,List.sum_cons]; omega
theorem sum_const (c : Nat) : ∀ ws : List Int,(ws.map fun _=>c).sum = ws.length * c
 | []=>by simp
 | w :: ws=>by rw [List.map_cons,List.sum_cons,sum_const c ws,List.length_cons,Nat.add_mul]; omega
theorem sum_mul (c : Nat) (f : Int → Nat) : ∀ ws : List Int,(ws.map fun v=>f v * c).sum = (ws.map f).sum * c
 | []=>by simp
 | w :: ws=>by rw [List.map_cons,List.sum_cons,sum_mul c f ws,List.map_cons,List.sum_cons,Nat.add_mul]
theorem nextL_sum (es : List E3) (ws : List Int) (hn : ws.Nodup) : (ws.map fun v=>(nextL es v).length).sum ≤ es.length:=by
 have:=sum_key (fun e : E3=>e.1) ws es hn
 simpa [nextL] using this
theorem vals_sum (ms : List E3) (ws : List Int) (hn : ws.Nodup) : (ws.map fun v=>(valsT v ms).length).sum ≤ ms.length:=by
 have:=sum_key (fun e : E3=>e.1) ws ms hn
 simpa [valsT] using this
theorem nearL_nodup (m : Int) (es : List E3) (v : Int) : (nearL m es v).Nodup:=by
 unfold nearL
 split
 ·exact (allV_nodup m).filter _
 ·exact List.nodup_nil
theorem grL_mem {m : Int} {es : List E3} {v w : Int} (h : w ∈ grL m es v) : v < w ∧ 0 ≤ w ∧ w ≤ 15 ∧ adj es v w = true:=by
 unfold grL at h
 rw [List.mem_filter,decide_eq_true_eq] at h
 obtain ⟨h1,h2⟩:=h
 unfold nearL at h1
 split at h1
 ·rename_i hg
  have hm:=gOk_mC hg
  rw [List.mem_filter,List.mem_map] at h1
  obtain ⟨⟨i,hi,rfl⟩,h3⟩:=h1
  rw [List.mem_range] at hi
  exact ⟨h2,by omega,by omega,h3⟩
 ·cases h1
theorem grL_15 (m : Int) (es : List E3) (v : Int) (hv : 0 ≤ v) : (grL m es v).length ≤ 15:=by
 have:=Zde (l:=grL m es v) (l':=(List.range 15).map fun i : Nat=>((i + 1 : Nat) : Int)) ((nearL_nodup m es v).filter _) (fun w hw=>by
  have h:=grL_mem hw
  rw [List.mem_map]
  exact ⟨w.toNat - 1,by rw [List.mem_range]; omega,by omega⟩)
 simpa using this
theorem grL_key (m : Int) (es : List E3) (v : Int) : (grL m es v).length ≤ (es.filter fun e=>decide (min e.1 e.2.1 = v)).length:=by
 have:=Zde (l:=grL m es v) (l':=(es.filter fun e=>decide (min e.1 e.2.1 = v)).map fun e=>max e.1 e.2.1) ((nearL_nodup m es v).filter _) (fun w hw=>by
  have h:=grL_mem hw
  have ha:=h.2.2.2
  unfold adj at ha
  rw [List.any_eq_true] at ha
  obtain ⟨e,he,hae⟩:=ha
  unfold adjE at hae
  simp only [Bool.or_eq_true,Bool.and_eq_true,decide_eq_true_eq] at hae
  rw [List.mem_map]
  refine ⟨e,?_,?_⟩
  ·rw [List.mem_filter,decide_eq_true_eq]
   exact ⟨he,by omega⟩
  ·omega)
 simpa using this
theorem grL_sum (m : Int) (es : List E3) (ws : List Int) (hn : ws.Nodup) : (ws.map fun v=>(grL m es v).length).sum ≤ es.length :=
 Nat.le_trans (sum_le _ _ ws (fun v _=>grL_key m es v)) (sum_key (fun e : E3=>min e.1 e.2.1) ws es hn)
theorem someF_sum (m : Int) (es : List E3) (k s r : Int) (st : Sta) : ∀ (ws : List Int) (A : Acc),
  (ws.foldl (someSt m es k s r st) A).out.length ≤ A.out.length + (ws.map fun v=>(stepV m es k s r st.r v (dV st.vs v) (valsT v st.ms)).2.1.length).sum
 | [],A=>by simp
 | w :: ws,A=>by
  have ih:=someF_sum m es k s r st ws (someSt m es k s r st A w)
  have h1 : (someSt m es k s r st A w).out.length ≤ A.out.length + (stepV m es k s r st.r w (dV st.vs w) (valsT w st.ms)).2.1.length:=by
   unfold someSt
   split
   ·omega
   ·dsimp only; rw [List.length_append]; exact Nat.le_refl _
  rw [List.foldl_cons,List.map_cons,List.sum_cons]; omega
structure MsI (k : Int) (st : Sta) : Prop where
 all : st.ms.length ≤ 615
 r0 : 0 ≤ st.r
 one : ¬ (k = 1 ∨ k = 2 ∨ k = 3 ∨ k = 4 ∨ k = 6) → st.r = 1 → st.ms.length ≤ 41
theorem step_msI {m : Int} {es : List E3} {k s r : Int} {st st' : Sta} (hel : es.length ≤ 41) (hi : MsI k st) (h : stepS m es k s r st = some st') : MsI k st':=by
 have hr:=stepS_r h
 unfold stepS at h
 split at h
 ·rename_i hg
  split at h
  ·injection h with h
   have hm:=gOk_mC hg.1
   have hlen : (allV m).length ≤ 16:=by rw [allV_len]; omega
   have hnd:=allV_nodup m
   have h1:=someF_sum m es k s r st (allV m) ⟨st.vs,st.gs,[]⟩
   have h2 : st'.ms.length ≤ (someF m es k s r st (allV m)).out.length:=by rw [← h]; exact (sortL_len _).1
   have hall : ∀ v ∈ allV m,0 ≤ v:=fun v hv=>by unfold allV at hv; rw [List.mem_map] at hv; obtain ⟨i,_,rfl⟩:=hv; omega
   have h3 : (someF m es k s r st (allV m)).out.length ≤ ((allV m).map fun v=>(stepV m es k s r st.r v (dV st.vs v) (valsT v st.ms)).2.1.length).sum:=by unfold someF; simpa using h1
   clear h1
   have hr0:=hi.r0
   by_cases hk : k = 1 ∨ k = 2 ∨ k = 3 ∨ k = 4 ∨ k = 6
   ·have hb : ((allV m).map fun v=>(stepV m es k s r st.r v (dV st.vs v) (valsT v st.ms)).2.1.length).sum ≤ 256:=by
     by_cases hk2 : k = 1 ∨ k = 2
     ·refine Nat.le_trans (sum_le _ (fun v=>(nextL es v).length) _ (fun v _=>?_)) (Nat.le_trans (nextL_sum es _ hnd) oM)
      unfold stepV
      rw [if_pos hk2]
      dsimp only
      split
      ·unfold wayMs; rw [List.length_map]; exact Nat.le_refl _
      ·simp
     ·refine Nat.le_trans (sum_le _ (fun v=>16) _ (fun v _=>?_)) (by rw [sum_const]; omega)
      have hn:=Zbj m es v
      unfold stepV
      rw [if_neg hk2]
      split
      ·split
       ·rw [Zbu]; exact hn
       ·split
        ·rw [Zbu]; exact hn
        ·simp
      ·split
       ·dsimp only; split
        ·rw [Zbu]; exact hn
        ·simp
       ·split
        ·dsimp only; split
         ·rw [Zbu]; exact hn
         ·simp
        ·exfalso; omega
    exact ⟨by omega,by omega,fun h'=>absurd hk h'⟩
   ·have q : ∀ v,stepV m es k s r st.r v (dV st.vs v) (valsT v st.ms) = if st.r = 0 then (0,sendTo (grL m es v) v v,false) else if st.r = 1 then (0,(valsT v st.ms).flatMap fun x=>sendTo (grL m es v) x v,false) else (((((valsT v st.ms).countP fun x=>(nearL m es v).any fun z=>decide (z = x)) : Nat) : Int),[],false):=fun v=>by
     unfold stepV
     rw [if_neg oM,if_neg oM,if_neg oM,if_neg oM]
    by_cases c0 : st.r = 0
    ·have hb : ((allV m).map fun v=>(stepV m es k s r st.r v (dV st.vs v) (valsT v st.ms)).2.1.length).sum ≤ 41:=by
      refine Nat.le_trans (sum_le _ (fun v=>(grL m es v).length) _ (fun v _=>?_)) (Nat.le_trans (grL_sum m es _ hnd) oM)
      rw [q,if_pos c0]
      dsimp only
      rw [Zbu]; exact Nat.le_refl _
     exact ⟨by omega,by omega,fun _ _=>by omega⟩
    ·by_cases c1 : st.r = 1
     ·have h41:=hi.one hk c1
      have hb : ((allV m).map fun v=>(stepV m es k s r st.r v (dV st.vs v) (valsT v st.ms)).2.1.length).sum ≤ 615:=by
       refine Nat.le_trans (sum_le _ (fun v=>(valsT v st.ms).length * 15) _ (fun v hv=>?_)) ?_
       ·rw [q,if_neg c0,if_pos c1]
        dsimp only
        rw [flatS_len]
        exact Nat.mul_le_mul (Nat.le_refl _) (grL_15 m es v (hall v hv))
       ·rw [sum_mul]
        have:=vals_sum st.ms (allV m) hnd
        omega
      exact ⟨by omega,by omega,fun _ h'=>by omega⟩
     ·have hb : ((allV m).map fun v=>(stepV m es k s r st.r v (dV st.vs v) (valsT v st.ms)).2.1.length).sum ≤ 0:=by
       refine Nat.le_trans (sum_le _ (fun v=>0) _ (fun v _=>?_)) (by rw [sum_const]; omega)
       rw [q,if_neg c0,if_neg c1]
       exact Nat.le_refl _
      exact ⟨by omega,by omega,fun _ h'=>by omega⟩
  ·cases h
 ·cases h
theorem start_msI (k : Int) (vs : List Int) (gs : List Bool) : MsI k ⟨0,vs,gs,[]⟩:=⟨by simp,by simp,fun _ _=>by simp⟩
end Go.Proofs.Ytmkijbfiilpccaa.Abs
