/- The last checkpoint of records that end with a checkpoint. No statement of the seat is proved here. -/
import Derived.Lib.Hide
import Derived.Test.YtmkijbfiilpccaaSbTy
import Derived.Test.YtmkijbfiilpccaaSbGStaCk
set_option linter.unusedSimpArgs false
set_option linter.unusedVariables false
namespace Go.Proofs.Ytmkijbfiilpccaa.Abs
open Go.RowKit
open R (val row ref)
theorem ck_head {L : List (List Int)} {s : Sta} (h : Ck L s) : ∃ b,L[0]? = some b ∧ b.head? = some 1:=⟨rcH s,h.get rfl,rfl⟩
theorem ckB_tag {s : Sta} {i : Nat} {b : List Int} (hb : (ckB s)[i]? = some b) (hi : 0 < i) : b.head? ≠ some 1:=by
 unfold ckB at hb
 obtain ⟨j,rfl⟩ : ∃ j,i = j + 1:=⟨i - 1,by omega⟩
 rw [List.getElem?_cons_succ] at hb
 have hm:=List.mem_of_getElem? hb
 simp only [List.mem_append,List.mem_map,List.mem_singleton] at hm
 rcases hm with hm | ⟨m,_,rfl⟩ | rfl
 ·obtain ⟨k,hk,rfl⟩:=List.getElem_of_mem hm
  rw [List.getElem_zipWith]
  unfold rcV; simp
 ·unfold rcM; simp
 ·simp
theorem Zc1 {L : List (List Int)} {m : Nat} : ∀ n,m ≤ n → (∀ k,m ≤ k → k < n → ckAt (L.drop k) = none) → lastFrom L n = lastFrom L m
 | 0,h,_=>by
  obtain rfl : m = 0:=by omega
  rfl
 | n + 1,h,hk=>by
  by_cases e : m = n + 1
  ·subst e; rfl
  ·rw [lastFrom,hk n oM oM]
   exact Zc1 n oM (fun k h1 h2=>hk k h1 oM)
theorem last_app (L : List (List Int)) {s : Sta} (h : s.ok = true) (hl : L.length + (ckB s).length ≤ 2000) : lastCk (L ++ ckB s) = some s:=by
 have hF:=ckB_len (Sta.okF h)
 unfold lastCk
 rw [if_pos (by rw [List.length_append]; exact hl),List.length_append]
 rw [Zc1 (m:=L.length + 1) (L.length + (ckB s).length) oM (fun k h1 h2=>Zcc fun t ht=>by
  obtain ⟨b,e1,e2⟩:=ck_head ht
  rw [List.getElem?_drop,Nat.add_zero,List.getElem?_append_right oM] at e1
  exact ckB_tag e1 oM e2)]
 rw [lastFrom,List.drop_left,ckAt_some (⟨h,List.prefix_refl _⟩ : Ck (ckB s) s)]
theorem last_self {s : Sta} (h : s.ok = true) (hl : (ckB s).length ≤ 2000) : lastCk (ckB s) = some s:=by
 have:=last_app [] h (by simpa using hl)
 rwa [List.nil_append] at this
theorem last_less {s : Sta} (h : s.ok = true) : lastCk ((ckB s).take ((ckB s).length - 1)) = none:=by
 have hF:=ckB_len (Sta.okF h)
 unfold lastCk
 split
 ·rw [Zc1 (m:=0) _ (Nat.zero_le _) (fun k _ hk=>Zcc fun t ht=>?_)]
  ·rfl
  ·rcases Nat.eq_zero_or_pos k with e | e
   ·subst e
    rw [List.drop_zero] at ht
    have ht' : Ck (ckB s) t:=⟨ht.1,ht.2.trans (List.take_prefix _ _)⟩
    have:=ht'.uniq (⟨h,List.prefix_refl _⟩ : Ck (ckB s) s)
    subst this
    have:=ht.2.length_le
    rw [List.length_take] at this
    omega
   ·obtain ⟨b,e1,e2⟩:=ck_head ht
    rw [List.getElem?_drop,Nat.add_zero,List.getElem?_take] at e1
    split at e1
    ·exact ckB_tag e1 e e2
    ·cases e1
 ·rfl
theorem ckB_recl {s : Sta} {b : List Int} (hb : b ∈ ckB s) : b.length ≤ 100:=by
 unfold ckB at hb
 simp only [List.mem_cons,List.mem_append,List.mem_map,List.not_mem_nil,or_false] at hb
 rcases hb with rfl | hb | ⟨m,_,rfl⟩ | rfl
 ·have h1:=Zau s.r
  have h2:=Zau s.vs.length
  have h3:=Zau s.ms.length
  unfold rcH
  simp only [List.length_cons,List.length_append]; omega
 ·obtain ⟨k,hk,rfl⟩:=List.getElem_of_mem hb
  rw [List.getElem_zipWith]
  unfold rcV
  have h1:=Zau (s.vs[k]'(by simp at hk; omega) + 1)
  simp only [List.length_cons,List.length_append,List.length_nil]; omega
 ·have h1:=Zau m.1
  have h2:=Zau m.2.1
  have h3:=Zau m.2.2
  unfold rcM edgeB
  split
  ·simp only [List.length_cons,List.length_append]; omega
  ·simp
 ·simp
end Go.Proofs.Ytmkijbfiilpccaa.Abs
