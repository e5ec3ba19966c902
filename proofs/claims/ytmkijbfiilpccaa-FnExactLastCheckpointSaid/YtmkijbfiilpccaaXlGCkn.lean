/- Numbers behind a tag: plain data. No statement of the seat is proved here. -/
import Derived.Lib.Hide
import Derived.Test.YtmkijbfiilpccaaXlTy
import Derived.Test.YtmkijbfiilpccaaXlAImN
set_option linter.unusedSimpArgs false
set_option linter.unusedVariables false
namespace Go.Proofs.Ytmkijbfiilpccaa.Abs
open Go.RowKit
open R (val row ref)
theorem numF_yes {xs : List Int} {p : Nat} (hb : ∀ z ∈ xs,0 ≤ z ∧ z ≤ 255) (hp : p ≤ xs.length) (h : (numF 3 0 0 1 xs p).2.1 = true) :
  (xs.drop p).take ((numF 3 0 0 1 xs p).2.2 - p) = enc (numF 3 0 0 1 xs p).1 ∧ p < (numF 3 0 0 1 xs p).2.2 ∧ (numF 3 0 0 1 xs p).2.2 ≤ xs.length ∧ 0 ≤ (numF 3 0 0 1 xs p).1 ∧ (numF 3 0 0 1 xs p).1 ≤ 1000000:=by
 have hd:=numF_dec 3 0 0 1 xs p
 rw [if_pos h] at hd
 have hc:=dec_canon (l:=xs.drop p) (fun z hz=>hb z (List.mem_of_mem_drop hz)) hd
 have hbd:=numF_bd (xs:=xs) 3 0 0 1 p hp
 obtain ⟨c1,c2,c3,c4,c5⟩:=hc
 rw [Nat.zero_add] at c1 c3
 exact ⟨c1,by omega,hbd,c4,c5⟩
theorem numF_enc {xs : List Int} {p : Nat} {n : Int} {r : List Int} (h0 : 0 ≤ n) (h1 : n ≤ 1000000) (hx : xs.drop p = enc n ++ r) : (numF 3 0 0 1 xs p).2.1 = true ∧ (numF 3 0 0 1 xs p).1 = n ∧ (numF 3 0 0 1 xs p).2.2 = p + (enc n).length:=by
 have hd:=numF_dec 3 0 0 1 xs p
 have he:=dec_enc h0 h1 r
 rw [← hx] at he
 unfold dec at he
 rw [he] at hd
 have hp:=enc_pos h0 h1
 split at hd
 ·rename_i ht
  injection hd with hd
  injection hd with e1 e2
  exact ⟨ht,e1.symm,by omega⟩
 ·cases hd
theorem rdN_yes {xs : List Int} (hb : ∀ z ∈ xs,0 ≤ z ∧ z ≤ 255) : ∀ (k p : Nat) (acc ns : List Int) (q : Nat),p ≤ xs.length → rdN xs k p acc = some (ns,q) →
  ∃ ms,ns = acc ++ ms ∧ ms.length = k ∧ (∀ n ∈ ms,0 ≤ n ∧ n ≤ 1000000) ∧ xs.drop p = ms.flatMap enc ++ xs.drop q ∧ p ≤ q ∧ q ≤ xs.length
 | 0,p,acc,ns,q,hp,h=>by
  rw [rdN] at h
  injection h with h
  injection h with e1 e2
  exact ⟨[],by rw [← e1]; simp,rfl,fun n hn=>absurd hn (by simp),by rw [e2]; rfl,by omega,by omega⟩
 | k + 1,p,acc,ns,q,hp,h=>by
  rw [rdN] at h
  split at h
  ·split at h
   ·rename_i hlt hok
    obtain ⟨c1,c2,c3,c4,c5⟩:=numF_yes hb hp hok
    obtain ⟨ms,e1,e2,e3,e4,e5,e6⟩:=rdN_yes hb k _ _ _ _ c3 h
    refine ⟨(numF 3 0 0 1 xs p).1 :: ms,by rw [e1]; simp,by simp [e2],fun n hn=>?_,?_,by omega,e6⟩
    ·rcases List.mem_cons.1 hn with h' | h'
     ·rw [h']; exact ⟨c4,c5⟩
     ·exact e3 n h'
    ·rw [List.flatMap_cons,← c1,List.append_assoc,← e4]
     have : (numF 3 0 0 1 xs p).2.2 = p + ((numF 3 0 0 1 xs p).2.2 - p):=by omega
     conv=>rhs; rhs; rw [this,← List.drop_drop]
     rw [List.take_append_drop]
   ·cases h
  ·cases h
theorem rdN_enc {xs : List Int} : ∀ (ms : List Int) (p : Nat) (acc r : List Int),(∀ n ∈ ms,0 ≤ n ∧ n ≤ 1000000) → xs.drop p = ms.flatMap enc ++ r → rdN xs ms.length p acc = some (acc ++ ms,p + (ms.flatMap enc).length)
 | [],p,acc,r,_,_=>by simp [rdN]
 | n :: ms,p,acc,r,hn,hx=>by
  have h0:=hn n (List.mem_cons_self ..)
  rw [List.flatMap_cons,List.append_assoc] at hx
  obtain ⟨c1,c2,c3⟩:=numF_enc h0.1 h0.2 hx
  have hp:=enc_pos h0.1 h0.2
  have hl:=congrArg List.length hx
  rw [List.length_drop,List.length_append] at hl
  have hd : xs.drop (p + (enc n).length) = ms.flatMap enc ++ r:=by
   rw [← List.drop_drop,hx,List.drop_left]
  have ih:=rdN_enc ms (p + (enc n).length) (acc ++ [n]) r (fun m hm=>hn m (List.mem_cons_of_mem _ hm)) hd
  rw [List.length_cons,rdN,if_pos oM,if_pos c1,c2,c3,ih]
  simp; omega
theorem bodyOk_by {b : List Int} (h : bodyOk b = true) : ∀ z ∈ b,0 ≤ z ∧ z ≤ 255:=fun z hz=>by
 unfold bodyOk at h
 simp only [Bool.and_eq_true] at h
 obtain ⟨i,hi,rfl⟩:=List.getElem_of_mem hz
 exact Zbq h.1.1 i hi
theorem nbF_yes {tag : Int} {k : Nat} {b ns : List Int} (h : nbF tag k b = (some ns,true)) : b = tag :: ns.flatMap enc ∧ ns.length = k ∧ ∀ n ∈ ns,0 ≤ n ∧ n ≤ 1000000:=by
 unfold nbF at h
 split at h
 ·rename_i hc
  obtain ⟨hb,hh⟩:=hc
  cases b with
  | nil=>cases hh
  | cons z b =>
   simp only [List.head?_cons,Option.some.injEq] at hh
   subst hh
   cases hr : rdN (z :: b) k 1 [] with
   | none=>rw [hr] at h; cases h
   | some x =>
    obtain ⟨ms,q⟩:=x
    rw [hr] at h
    simp only [nbE,Prod.mk.injEq,Option.some.injEq,decide_eq_true_eq] at h
    obtain ⟨rfl,hq⟩:=h
    obtain ⟨ms',e1,e2,e3,e4,e5,e6⟩:=rdN_yes (bodyOk_by hb) k 1 [] ms q (by simp) hr
    rw [List.nil_append] at e1
    subst e1
    rw [hq,List.drop_of_length_le (Nat.le_refl _),List.append_nil] at e4
    refine ⟨?_,e2,e3⟩
    simp only [List.drop_one,List.tail_cons] at e4
    rw [← e4]
 ·cases h
theorem enc_flat_bytes {ns : List Int} : ∀ z ∈ ns.flatMap enc,0 ≤ z ∧ z ≤ 255:=fun z hz=>by
 rw [List.mem_flatMap] at hz
 obtain ⟨n,_,h⟩:=hz
 exact Zbg n z h
theorem enc_flat_len : ∀ ns : List Int,(ns.flatMap enc).length ≤ 3 * ns.length
 | []=>by simp
 | n :: ns=>by
  have:=enc_flat_len ns
  have:=Zau n
  rw [List.flatMap_cons,List.length_append,List.length_cons]
  omega
theorem nbF_enc {tag : Int} {ns : List Int} (ht : 0 ≤ tag ∧ tag ≤ 255) (hk : ns.length ≤ 3) (hn : ∀ n ∈ ns,0 ≤ n ∧ n ≤ 1000000) : nbF tag ns.length (tag :: ns.flatMap enc) = (some ns,true):=by
 have hl:=enc_flat_len ns
 have hb : bodyOk (tag :: ns.flatMap enc) = true:=by
  unfold bodyOk
  have h1 : bytesOk (tag :: ns.flatMap enc) = true:=bytesOk_of (fun z hz=>by
   rcases List.mem_cons.1 hz with h | h
   ·rw [h]; exact ht
   ·exact enc_flat_bytes z h) (by rw [List.length_cons]; omega)
  rw [h1]
  simp only [Bool.true_and,Bool.and_eq_true,decide_eq_true_eq,List.length_cons]
  omega
 unfold nbF
 rw [if_pos ⟨hb,rfl⟩,rdN_enc ns 1 [] [] hn (by rw [List.append_nil]; rfl)]
 unfold nbE
 rw [List.nil_append]
 have e : 1 + (ns.flatMap enc).length = (tag :: ns.flatMap enc).length:=by rw [List.length_cons]; omega
 simp only [e,decide_true]
theorem nbF_len {tag : Int} {k : Nat} {b ns : List Int} {q : Bool} (h : nbF tag k b = (some ns,q)) : ns.length = k:=by
 unfold nbF at h
 split at h
 ·rename_i hc
  cases hr : rdN b k 1 [] with
  | none=>rw [hr] at h; cases h
  | some x =>
   obtain ⟨ms,p⟩:=x
   rw [hr] at h
   simp only [nbE,Prod.mk.injEq,Option.some.injEq] at h
   have hbl : 1 ≤ b.length:=by
    have:=hc.1
    unfold bodyOk at this; simp at this; omega
   obtain ⟨ms',e1,e2,_⟩:=rdN_yes (bodyOk_by hc.1) k 1 [] ms p hbl hr
   rw [← h.1,e1]; simpa using e2
 ·cases h
end Go.Proofs.Ytmkijbfiilpccaa.Abs
