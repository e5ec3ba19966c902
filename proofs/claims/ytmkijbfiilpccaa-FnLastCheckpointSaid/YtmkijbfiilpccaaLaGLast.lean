/- The last checkpoint of records that end with a checkpoint. No statement of the seat is proved here. -/
import Derived.Lib.Hide
import Derived.Test.YtmkijbfiilpccaaLaTy
import Derived.Test.YtmkijbfiilpccaaLaGStaCk
set_option linter.unusedSimpArgs false
set_option linter.unusedVariables false
namespace Go.Proofs.Ytmkijbfiilpccaa.Abs
open Go.RowKit
open R (val row ref)
theorem ck_head {L : List (List Int)} {s : Sta} (h : Ck L s) : ∃ b,L[0]? = some b ∧ b.head? = some 1:=⟨rcH s,h.get rfl,rfl⟩
theorem ckB_tag {s : Sta} {i : Nat} {b : List Int} (hb : (ckB s)[i]? = some b) (hi : 0 < i) : b.head? ≠ some 1:=by
 unfold ckB at hb
 obtain ⟨j,rfl⟩ : ∃ j,i = j + 1:=⟨i - 1,by omega⟩
 rw [List.getElem?_cons_succ] at hb
 have hm:=List.mem_of_getElem? hb
 simp only [List.mem_append,List.mem_map,List.mem_singleton] at hm
 rcases hm with hm | ⟨m,_,rfl⟩ | rfl
 ·obtain ⟨k,hk,rfl⟩:=List.getElem_of_mem hm
  rw [List.getElem_zipWith]
  unfold rcV; simp
 ·unfold rcM; simp
 ·simp
theorem lastFrom_skip {L : List (List Int)} {m : Nat} : ∀ n,m ≤ n → (∀ k,m ≤ k → k < n → ckAt (L.drop k) = none) → lastFrom L n = lastFrom L m
 | 0,h,_=>by
  obtain rfl : m = 0:=by omega
  rfl
 | n + 1,h,hk=>by
  by_cases e : m = n + 1
  ·subst e; rfl
  ·rw [lastFrom,hk n oM oM]
   exact lastFrom_skip n oM (fun k h1 h2=>hk k h1 oM)
theorem last_app (L : List (List Int)) {s : Sta} (h : s.ok = true) (hl : L.length + (ckB s).length ≤ 2000) : lastCk (L ++ ckB s) = some s:=by
 have hF:=Zb4 (Sta.okF h)
 unfold lastCk
 rw [if_pos (by rw [List.length_append]; exact hl),List.length_append]
 rw [lastFrom_skip (m:=L.length + 1) (L.length + (ckB s).length) oM (fun k h1 h2=>Zcm fun t ht=>by
  obtain ⟨b,e1,e2⟩:=ck_head ht
  rw [List.getElem?_drop,Nat.add_zero,List.getElem?_append_right oM] at e1
  exact ckB_tag e1 oM e2)]
 rw [lastFrom,List.drop_left,ckAt_some (⟨h,List.prefix_refl _⟩ : Ck (ckB s) s)]
theorem last_at {L : List (List Int)} {s : Sta} (h : lastCk L = some s) : ∃ k,Ck (L.drop k) s:=by
 unfold lastCk at h
 split at h
 ·have : ∀ n,lastFrom L n = some s → ∃ k,Ck (L.drop k) s:=by
   intro n
   induction n with
   | zero=>intro h; cases h
   | succ n ih =>
    intro h
    unfold lastFrom at h
    split at h
    ·rename_i x hx
     injection h with h
     subst h
     exact ⟨n,ckAt_ck hx⟩
    ·exact ih h
  exact this _ h
 ·cases h
theorem ckB_recl {s : Sta} {b : List Int} (hb : b ∈ ckB s) : b.length ≤ 100:=by
 unfold ckB at hb
 simp only [List.mem_cons,List.mem_append,List.mem_map,List.not_mem_nil,or_false] at hb
 rcases hb with rfl | hb | ⟨m,_,rfl⟩ | rfl
 ·have h1:=Za0 s.r
  have h2:=Za0 s.vs.length
  have h3:=Za0 s.ms.length
  unfold rcH
  simp only [List.length_cons,List.length_append]; omega
 ·obtain ⟨k,hk,rfl⟩:=List.getElem_of_mem hb
  rw [List.getElem_zipWith]
  unfold rcV
  have h1:=Za0 (s.vs[k]'(by simp at hk; omega) + 1)
  simp only [List.length_cons,List.length_append,List.length_nil]; omega
 ·have h1:=Za0 m.1
  have h2:=Za0 m.2.1
  have h3:=Za0 m.2.2
  unfold rcM edgeB
  split
  ·simp only [List.length_cons,List.length_append]; omega
  ·simp
 ·simp
end Go.Proofs.Ytmkijbfiilpccaa.Abs
