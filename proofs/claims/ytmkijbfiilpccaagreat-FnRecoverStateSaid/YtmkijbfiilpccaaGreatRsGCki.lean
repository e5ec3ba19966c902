/- Checkpoints by states: numbers behind a tag, by the program. No statement of the seat is proved here. -/
import Derived.Lib.Hide
import Derived.Test.YtmkijbfiilpccaaGreatRsTy
import Derived.Test.YtmkijbfiilpccaaGreatRsAImE
import Derived.Test.YtmkijbfiilpccaaGreatRsGStaCk
import Derived.Test.YtmkijbfiilpccaaGreatRsACkRL
set_option linter.unusedSimpArgs false
set_option linter.unusedVariables false
set_option maxRecDepth 100000
set_option maxHeartbeats 8000000
namespace Go.Proofs.YtmkijbfiilpccaaGreat.Abs
open Go.RowKit
open R (val row ref)
def rdN (xs : List Int) : Nat → Nat → List Int → Option (List Int × Nat)
 | 0,p,acc=>some (acc,p)
 | k + 1,p,acc=>if p < xs.length then (if (numF 3 0 0 1 xs p).2.1 then rdN xs k (numF 3 0 0 1 xs p).2.2 (acc ++ [(numF 3 0 0 1 xs p).1]) else none) else none
def nbE (b : List Int) : Option (List Int × Nat) → Option (List Int) × Bool
 | some (ns,p)=>(some ns,decide (p = b.length))
 | none=>(none,false)
def nbF (tag : Int) (k : Nat) (b : List Int) : Option (List Int) × Bool :=
 if bodyOk b = true ∧ b.head? = some tag then nbE b (rdN b k 1 []) else (none,false)
def nbRes : Option (List Int) × Bool → Res
 | (some ns,q)=>.tup [.one (row false 1 (ints ns)),.one (bool q)]
 | (none,_)=>.tup [.one (row true 1 []),.one (bool false)]
theorem f_numberEnd (m1 m2 nil : Bool) (xs : List Int) (hx : xs.length ≤ 2000) :
  FnS Tryz.prog 92 [.one (.ptr 1000000000 0 0 0)] (brH 1000000000 m1 m2 nil xs xs.length) (.tup true [iP 0,.one (bool false)]) (brH 1000000000 m1 m2 nil xs xs.length):=by
 have K:=f_next m1 m2 nil xs xs.length hx hx
 rw [if_neg oM,show decide (xs.length < xs.length) = false by simp,List.getElem?_eq_none oM] at K
 dsimp only at K
 unfold brH at *
 refine Zab (l:=[.tmp 2,.tmp 3]) Tryz.func92 kRf rfl Tryz.ntmps92 rfl rfl ?_; simp only [dEnv,Nat.reduceAdd]
 repeat' (first|refine wk ?_|(refine wkB ?_ ?_<;>intro hg_<;>try exact wkX)|fail)
 refine Zac (fun x : Nat=>x = 0) (fun x=>mkS 44 [(6,.one (.r true (int (x : Int)))),(0,.one (.ptr 1000000000 0 0 0))] [(1000000000,.var 123 [.r m1 (row nil 1 (ints xs)),.r m2 (int (xs.length : Int))])]) (fun x=>x) 0 rfl (by (refine Zn [] rfl ?_ ?_ <;>exact wkW)) ?_
 rintro x rfl
 repeat' (first|refine wk ?_|((first|refine' w_e rfl ?xa ?xb ?xc ?xe ?_|refine' v_e rfl ?xa ?xb ?xc ?xe ?_);(case xa=>exact Ze 15 rfl (Zh [] K rfl ⟨Zi (Za rfl),trivial⟩ sbH rfl));(case xb|xc|xe=>rfl);try refine wkD ?_)|(refine wkB ?_ ?_<;>intro hg_<;>try exact wkX)|fail)
 all_goals first
  | exact Zx [] rfl sbH (Zb8 (Zl rfl (Zz rfl)) (Zl rfl (Zt rfl)) rfl)
  | (exfalso; omega)
theorem f_numberAny (m1 m2 nil : Bool) (xs : List Int) (p : Nat) (hx : bytesOk xs = true) (hp : p ≤ xs.length) :
  ∃ n ok p' m2',FnS Tryz.prog 92 [.one (.ptr 1000000000 0 0 0)] (brH 1000000000 m1 m2 nil xs p) (.tup true [iP n,.one (bool ok)]) (brH 1000000000 m1 m2' nil xs p') ∧ p' ≤ xs.length ∧ ∀ k acc,rdN xs (k + 1) p acc = if ok then rdN xs k p' (acc ++ [n]) else none:=by
 by_cases h : p < xs.length
 ·exact ⟨_,_,_,_,f_number m1 m2 nil xs p hx h,numF_bd 3 0 0 1 p hp,fun k acc=>by rw [rdN,if_pos h]⟩
 ·obtain rfl : p = xs.length:=by omega
  exact ⟨0,false,_,m2,f_numberEnd m1 m2 nil xs (Zb2 hx),hp,fun k acc=>by rw [rdN,if_neg h]; rfl⟩
theorem f_numbersNo (nil : Bool) (b : List Int) (tag k : Int) (h : ¬ (bodyOk b = true ∧ b.head? = some tag)) : Fn Tryz.prog 64 [.one (row nil 1 (ints b)),iP tag,iP k] (.tup [.one (row true 1 []),.one (bool false)]):=by
 have KB:=f_implBodyOk nil b
 cases hb : bodyOk b
 ·rw [hb] at KB
  refine Zy (l:=[.tmp 6,.tmp 7]) Tryz.func64 kRf rfl Tryz.ntmps64 rfl rfl ?_; simp only [argEnv,P0.d,Nat.reduceAdd]
  repeat' (first|refine wk ?_|((first|refine' w_q rfl rfl ?xa rfl ?_|refine' v_q rfl rfl ?xa rfl ?_|refine' Zm rfl rfl (Zd rfl) rfl ?xa rfl ?_|refine' Zo rfl rfl (Zd rfl) rfl ?xa rfl ?_);case xa=>exact Zg KB rfl ⟨Zf (Za rfl),trivial⟩)|(refine wkB ?_ ?_<;>intro hg_<;>try exact wkX)|fail)
  all_goals first
   | exact Zbe (Zl rfl (Z8 Zaq)) (Zl rfl (Zt rfl))
 ·rw [hb] at KB
  cases b with
  | nil=>cases hb
  | cons z b =>
   have hz : z ≠ tag:=fun e=>h ⟨hb,by rw [e]; rfl⟩
   have hx2 : (ints (z :: b))[(0 : Int).toNat]? = some (iP z):=rfl
   have hl : (ints (z :: b)).length = b.length + 1:=by rw [Zr]; rfl
   refine Zy (l:=[.tmp 6,.tmp 7]) Tryz.func64 kRf rfl Tryz.ntmps64 rfl rfl ?_; simp only [argEnv,P0.d,Nat.reduceAdd]
   repeat' (first|refine wk ?_|((first|refine' w_q rfl rfl ?xa rfl ?_|refine' v_q rfl rfl ?xa rfl ?_|refine' Zm rfl rfl (Zd rfl) rfl ?xa rfl ?_|refine' Zo rfl rfl (Zd rfl) rfl ?xa rfl ?_);case xa=>first|exact Zg KB rfl ⟨Zf (Za rfl),trivial⟩|exact Z5 tbOk rfl rfl rfl rfl oM hx2)|(refine wkB ?_ ?_<;>intro hg_<;>try exact wkX)|fail)
   all_goals first
    | exact Zbe (Zl rfl (Z8 Zaq)) (Zl rfl (Zt rfl))
    | (exfalso; simp_all; done)
theorem fill_next {acc : List Int} {k : Nat} {n : Int} (h : acc.length < k) : (ints (acc ++ List.replicate (k - acc.length) 0)).set acc.length (iP n) = ints ((acc ++ [n]) ++ List.replicate (k - (acc.length + 1)) 0):=by
 have e : k - acc.length = (k - (acc.length + 1)) + 1:=by omega
 rw [e,List.replicate_succ]
 unfold ints
 simp [List.set_append]
theorem f_numbersYes (nil : Bool) (b : List Int) (tag : Int) (k : Nat) (hk3 : k ≤ 3) (hb : bodyOk b = true) (hh : b.head? = some tag) : Fn Tryz.prog 64 [.one (row nil 1 (ints b)), iP tag, iP (k : Int)] (nbRes (nbF tag k b)) := by
  have KB := f_implBodyOk nil b
  rw [hb] at KB
  have hby : bytesOk b = true := by unfold bodyOk at hb; simp only [Bool.and_eq_true] at hb; exact hb.1.1
  have hbl : 1 ≤ b.length := by unfold bodyOk at hb; simp at hb; omega
  obtain ⟨RR, hRR⟩ : ∃ RR, RR = rdN b k 1 [] := ⟨_, rfl⟩
  have hX : nbF tag k b = nbE b RR := by rw [hRR]; unfold nbF; rw [if_pos ⟨hb, hh⟩]
  rw [hX]
  clear hX
  have hx2 : (ints b)[(0 : Int).toNat]? = some (iP tag) := by
    cases b with
    | nil => cases hh
    | cons z b => simp only [List.head?_cons, Option.some.injEq] at hh; rw [← hh]; rfl
  have hlb := Zr b
  clear hb hh
  refine Zy (l := [.tmp 6, .tmp 7]) Tryz.func64 kRf rfl Tryz.ntmps64 rfl rfl ?_; simp only [argEnv, P0.d, Nat.reduceAdd]
  repeat' (first|refine wk ?_|((first|refine' w_q rfl rfl ?xa rfl ?_|refine' v_q rfl rfl ?xa rfl ?_|refine' Zm rfl rfl (Zd rfl) rfl ?xa rfl ?_|refine' Zo rfl rfl (Zd rfl) rfl ?xa rfl ?_);case xa => first|exact Zg KB rfl ⟨Zf (Za rfl), trivial⟩|exact Z5 tbOk rfl rfl rfl rfl oM hx2)|((first|refine' w_e rfl ?xa ?xb ?xc ?xe ?_|refine' v_e rfl ?xa ?xb ?xc ?xe ?_);(case xa => exact e_make tlOk rfl rfl rfl rfl rfl rfl (c := k) rfl rfl oM (by simp only [maxLen];omega));(case xb|xc|xe=>rfl);try refine wkD ?_)|(refine wkB ?_ ?_<;>intro hg_<;>try exact wkX)|fail)
  obtain ⟨F, hFs⟩ : ∃ F : Nat × Bool × List Int → St, ∀ p m2 acc, F (p, m2, acc) = mkS 45 [(29, .one (.r true (int (acc.length : Int)))), (28, .one (.r true (int (k : Int)))), (9, .one (.own 100 0 k 1)), (8, .one (.ptr 8 0 0 0))] [(100, .sl 3 1 true (ints (acc ++ List.replicate (k - acc.length) 0))), (8, .var 123 [.r false (row nil 1 (ints b)), .r m2 (int (p : Int))])] := ⟨fun x => mkS 45 [(29, .one (.r true (int (x.2.2.length : Int)))), (28, .one (.r true (int (k : Int)))), (9, .one (.own 100 0 k 1)), (8, .one (.ptr 8 0 0 0))] [(100, .sl 3 1 true (ints (x.2.2 ++ List.replicate (k - x.2.2.length) 0))), (8, .var 123 [.r false (row nil 1 (ints b)), .r x.2.1 (int (x.1 : Int))])], fun _ _ _ => rfl⟩
  refine Zac (fun x : Nat × Bool × List Int => x.1 ≤ b.length ∧ x.2.2.length ≤ k ∧ RR = rdN b (k - x.2.2.length) x.1 x.2.2) F (fun x => k - x.2.2.length) (1, true, []) ⟨hbl, Nat.zero_le _, hRR⟩ (by
    rw [hFs]
    (refine Zn [(100, 26)] rfl ?_ ?_ <;> repeat' (first|refine wkS ?_ ?_|exact wkE|exact Zv rfl (by unfold ints;simp)))) ?_
  rintro ⟨p, m2, acc⟩ ⟨hp, hacc, hE⟩
  dsimp only at hp hacc hE
  have hlr : (ints (acc ++ List.replicate (k - acc.length) 0)).length = k := by rw [Zr]; simp; omega
  clear hRR hx2
  by_cases hlt : acc.length < k
  · obtain ⟨n, ok, p', m2', KN, hp', hstep⟩ := f_numberAny false m2 nil b p hby hp
    rw [show k - acc.length = (k - (acc.length + 1)) + 1 by omega, hstep] at hE
    have hnext := fill_next (n := n) hlt
    cases ok
    · rw [if_neg (by decide)] at hE
      rw [hE, hFs]
      unfold nbE nbRes brH at *
      dsimp only
      clear hFs hE hstep KB hnext
      repeat' (first|refine wk ?_|((first|refine' w_e rfl ?xa ?xb ?xc ?xe ?_|refine' v_e rfl ?xa ?xb ?xc ?xe ?_);(case xa => exact Ze 33 rfl (Zh [(1000000000, 8)] KN rfl ⟨Zi (Za rfl), trivial⟩ sbH rfl));(case xb|xc|xe=>rfl);try refine wkD ?_)|(refine wkB ?_ ?_<;>intro hg_<;>try exact wkX)|fail)
      all_goals first
        | exact Zbe (Zl rfl (Z8 Zaq)) (Zl rfl (Zt rfl))
        | (exfalso; omega)
    · rw [if_pos rfl] at hE
      have hfin : ∀ s' : St, Weak s' (F (p', m2', acc ++ [n])) → ∃ x' : Nat × Bool × List Int, (x'.1 ≤ b.length ∧ x'.2.2.length ≤ k ∧ RR = rdN b (k - x'.2.2.length) x'.1 x'.2.2) ∧ Weak s' (F x') ∧ k - x'.2.2.length < k - acc.length := fun s' h => ⟨(p', m2', acc ++ [n]), ⟨hp', by simp; omega, by rw [hE]; simp⟩, h, by simp; omega⟩
      rw [hFs] at hfin ⊢
      have hw1 : IntKind.i64.wrap ((acc.length : Int) + 1) = ((acc ++ [n]).length : Int) := by rw [IntWalk.i64_in _ oM]; simp
      have hls : (acc ++ [n]).length = acc.length + 1 := by simp
      rw [hls, ← hnext] at hfin
      rw [hls] at hw1
      clear hFs hE hstep KB hnext
      generalize ints (acc ++ List.replicate (k - acc.length) 0) = els at *
      unfold brH at *
      repeat' (first|refine wk ?_|((first|refine' w_q rfl rfl ?xa rfl ?_|refine' v_q rfl rfl ?xa rfl ?_|refine' Zm rfl rfl (Zd rfl) rfl ?xa rfl ?_|refine' Zo rfl rfl (Zd rfl) rfl ?xa rfl ?_);case xa => exact Zau tbOk rfl rfl rfl rfl oM oM)|((first|refine' w_e rfl ?xa ?xb ?xc ?xe ?_|refine' v_e rfl ?xa ?xb ?xc ?xe ?_);(case xa => first|exact Ze 33 rfl (Zh [(1000000000, 8)] KN rfl ⟨Zi (Za rfl), trivial⟩ sbH rfl)|exact e_storeS tbOk rfl rfl rfl rfl rfl rfl rfl rfl oM);(case xb|xc|xe=>rfl);try refine wkD ?_)|(refine wkB ?_ ?_<;>intro hg_<;>try exact wkX)|fail)
      all_goals first
        | (refine hfin _ ?_
           (refine Zn [] rfl ?_ ?_ <;> repeat' (first|refine wkS ?_ ?_|exact wkE|exact Zu hw1|exact Zv rfl (by rw [Nat.zero_add, Int.toNat_natCast]))))
        | (exfalso; omega)
  · have hke : acc.length = k := by omega
    have KD := f_brDone false m2 nil b p
    subst hke
    rw [Nat.sub_self, rdN] at hE
    rw [hE, hFs]
    unfold nbE nbRes brH at *
    dsimp only
    rw [Nat.sub_self, List.replicate_zero, List.append_nil]
    have hla := (Zr acc).symm
    clear hFs hE KB hlr
    repeat' (first|refine wk ?_|((first|refine' w_e rfl ?xa ?xb ?xc ?xe ?_|refine' v_e rfl ?xa ?xb ?xc ?xe ?_);(case xa => exact Ze 44 rfl (Zh [(1000000000, 8)] KD rfl ⟨Zi (Za rfl), trivial⟩ sbH rfl));(case xb|xc|xe=>rfl);try refine wkD ?_)|(refine wkB ?_ ?_<;>intro hg_<;>try exact wkX)|fail)
    all_goals first
      | exact Zbe (Zl rfl (Z8 (Z0 (Zk rfl) hla))) (Zl rfl (Zt rfl))
      | (exfalso; omega)
theorem Zbk (nil : Bool) (b : List Int) (tag : Int) (k : Nat) (hk3 : k ≤ 3) : Fn Tryz.prog 64 [.one (row nil 1 (ints b)),iP tag,iP (k : Int)] (nbRes (nbF tag k b)):=by
 by_cases h : bodyOk b = true ∧ b.head? = some tag
 ·exact f_numbersYes nil b tag k hk3 h.1 h.2
 ·have e : nbF tag k b = (none,false):=by unfold nbF; rw [if_neg h]
  rw [e]
  exact f_numbersNo nil b tag k h
end Go.Proofs.YtmkijbfiilpccaaGreat.Abs
set_option linter.unusedSimpArgs false
set_option linter.unusedVariables false
namespace Go.Proofs.YtmkijbfiilpccaaGreat.Abs
open Go.RowKit
open R (val row ref)
theorem numF_yes {xs : List Int} {p : Nat} (hb : ∀ z ∈ xs,0 ≤ z ∧ z ≤ 255) (hp : p ≤ xs.length) (h : (numF 3 0 0 1 xs p).2.1 = true) :
  (xs.drop p).take ((numF 3 0 0 1 xs p).2.2 - p) = enc (numF 3 0 0 1 xs p).1 ∧ p < (numF 3 0 0 1 xs p).2.2 ∧ (numF 3 0 0 1 xs p).2.2 ≤ xs.length ∧ 0 ≤ (numF 3 0 0 1 xs p).1 ∧ (numF 3 0 0 1 xs p).1 ≤ 1000000:=by
 have hd:=numF_dec 3 0 0 1 xs p
 rw [if_pos h] at hd
 have hc:=dec_canon (l:=xs.drop p) (fun z hz=>hb z (List.mem_of_mem_drop hz)) hd
 have hbd:=numF_bd (xs:=xs) 3 0 0 1 p hp
 obtain ⟨c1,c2,c3,c4,c5⟩:=hc
 rw [Nat.zero_add] at c1 c3
 exact ⟨c1,by omega,hbd,c4,c5⟩
theorem numF_enc {xs : List Int} {p : Nat} {n : Int} {r : List Int} (h0 : 0 ≤ n) (h1 : n ≤ 1000000) (hx : xs.drop p = enc n ++ r) : (numF 3 0 0 1 xs p).2.1 = true ∧ (numF 3 0 0 1 xs p).1 = n ∧ (numF 3 0 0 1 xs p).2.2 = p + (enc n).length:=by
 have hd:=numF_dec 3 0 0 1 xs p
 have he:=dec_enc h0 h1 r
 rw [← hx] at he
 unfold dec at he
 rw [he] at hd
 have hp:=enc_pos h0 h1
 split at hd
 ·rename_i ht
  injection hd with hd
  injection hd with e1 e2
  exact ⟨ht,e1.symm,by omega⟩
 ·cases hd
theorem rdN_yes {xs : List Int} (hb : ∀ z ∈ xs,0 ≤ z ∧ z ≤ 255) : ∀ (k p : Nat) (acc ns : List Int) (q : Nat),p ≤ xs.length → rdN xs k p acc = some (ns,q) →
  ∃ ms,ns = acc ++ ms ∧ ms.length = k ∧ (∀ n ∈ ms,0 ≤ n ∧ n ≤ 1000000) ∧ xs.drop p = ms.flatMap enc ++ xs.drop q ∧ p ≤ q ∧ q ≤ xs.length
 | 0,p,acc,ns,q,hp,h=>by
  rw [rdN] at h
  injection h with h
  injection h with e1 e2
  exact ⟨[],by rw [← e1]; simp,rfl,fun n hn=>absurd hn (by simp),by rw [e2]; rfl,by omega,by omega⟩
 | k + 1,p,acc,ns,q,hp,h=>by
  rw [rdN] at h
  split at h
  ·split at h
   ·rename_i hlt hok
    obtain ⟨c1,c2,c3,c4,c5⟩:=numF_yes hb hp hok
    obtain ⟨ms,e1,e2,e3,e4,e5,e6⟩:=rdN_yes hb k _ _ _ _ c3 h
    refine ⟨(numF 3 0 0 1 xs p).1 :: ms,by rw [e1]; simp,by simp [e2],fun n hn=>?_,?_,by omega,e6⟩
    ·rcases List.mem_cons.1 hn with h' | h'
     ·rw [h']; exact ⟨c4,c5⟩
     ·exact e3 n h'
    ·rw [List.flatMap_cons,← c1,List.append_assoc,← e4]
     have : (numF 3 0 0 1 xs p).2.2 = p + ((numF 3 0 0 1 xs p).2.2 - p):=by omega
     conv=>rhs; rhs; rw [this,← List.drop_drop]
     rw [List.take_append_drop]
   ·cases h
  ·cases h
theorem rdN_enc {xs : List Int} : ∀ (ms : List Int) (p : Nat) (acc r : List Int),(∀ n ∈ ms,0 ≤ n ∧ n ≤ 1000000) → xs.drop p = ms.flatMap enc ++ r → rdN xs ms.length p acc = some (acc ++ ms,p + (ms.flatMap enc).length)
 | [],p,acc,r,_,_=>by simp [rdN]
 | n :: ms,p,acc,r,hn,hx=>by
  have h0:=hn n (List.mem_cons_self ..)
  rw [List.flatMap_cons,List.append_assoc] at hx
  obtain ⟨c1,c2,c3⟩:=numF_enc h0.1 h0.2 hx
  have hp:=enc_pos h0.1 h0.2
  have hl:=congrArg List.length hx
  rw [List.length_drop,List.length_append] at hl
  have hd : xs.drop (p + (enc n).length) = ms.flatMap enc ++ r:=by
   rw [← List.drop_drop,hx,List.drop_left]
  have ih:=rdN_enc ms (p + (enc n).length) (acc ++ [n]) r (fun m hm=>hn m (List.mem_cons_of_mem _ hm)) hd
  rw [List.length_cons,rdN,if_pos oM,if_pos c1,c2,c3,ih]
  simp; omega
theorem bodyOk_by {b : List Int} (h : bodyOk b = true) : ∀ z ∈ b,0 ≤ z ∧ z ≤ 255:=fun z hz=>by
 unfold bodyOk at h
 simp only [Bool.and_eq_true] at h
 obtain ⟨i,hi,rfl⟩:=List.getElem_of_mem hz
 exact Zbt h.1.1 i hi
theorem nbF_yes {tag : Int} {k : Nat} {b ns : List Int} (h : nbF tag k b = (some ns,true)) : b = tag :: ns.flatMap enc ∧ ns.length = k ∧ ∀ n ∈ ns,0 ≤ n ∧ n ≤ 1000000:=by
 unfold nbF at h
 split at h
 ·rename_i hc
  obtain ⟨hb,hh⟩:=hc
  cases b with
  | nil=>cases hh
  | cons z b =>
   simp only [List.head?_cons,Option.some.injEq] at hh
   subst hh
   cases hr : rdN (z :: b) k 1 [] with
   | none=>rw [hr] at h; cases h
   | some x =>
    obtain ⟨ms,q⟩:=x
    rw [hr] at h
    simp only [nbE,Prod.mk.injEq,Option.some.injEq,decide_eq_true_eq] at h
    obtain ⟨rfl,hq⟩:=h
    obtain ⟨ms',e1,e2,e3,e4,e5,e6⟩:=rdN_yes (bodyOk_by hb) k 1 [] ms q (by simp) hr
    rw [List.nil_append] at e1
    subst e1
    rw [hq,List.drop_of_length_le (Nat.le_refl _),List.append_nil] at e4
    refine ⟨?_,e2,e3⟩
    simp only [List.drop_one,List.tail_cons] at e4
    rw [← e4]
 ·cases h
theorem enc_flat_bytes {ns : List Int} : ∀ z ∈ ns.flatMap enc,0 ≤ z ∧ z ≤ 255:=fun z hz=>by
 rw [List.mem_flatMap] at hz
 obtain ⟨n,_,h⟩:=hz
 exact Zcu n z h
theorem enc_flat_len : ∀ ns : List Int,(ns.flatMap enc).length ≤ 3 * ns.length
 | []=>by simp
 | n :: ns=>by
  have:=enc_flat_len ns
  have:=Zbj n
  rw [List.flatMap_cons,List.length_append,List.length_cons]
  omega
theorem nbF_enc {tag : Int} {ns : List Int} (ht : 0 ≤ tag ∧ tag ≤ 255) (hk : ns.length ≤ 3) (hn : ∀ n ∈ ns,0 ≤ n ∧ n ≤ 1000000) : nbF tag ns.length (tag :: ns.flatMap enc) = (some ns,true):=by
 have hl:=enc_flat_len ns
 have hb : bodyOk (tag :: ns.flatMap enc) = true:=by
  unfold bodyOk
  have h1 : bytesOk (tag :: ns.flatMap enc) = true:=Zci (fun z hz=>by
   rcases List.mem_cons.1 hz with h | h
   ·rw [h]; exact ht
   ·exact enc_flat_bytes z h) (by rw [List.length_cons]; omega)
  rw [h1]
  simp only [Bool.true_and,Bool.and_eq_true,decide_eq_true_eq,List.length_cons]
  omega
 unfold nbF
 rw [if_pos ⟨hb,rfl⟩,rdN_enc ns 1 [] [] hn (by rw [List.append_nil]; rfl)]
 unfold nbE
 rw [List.nil_append]
 have e : 1 + (ns.flatMap enc).length = (tag :: ns.flatMap enc).length:=by rw [List.length_cons]; omega
 simp only [e,decide_true]
theorem nbF_len {tag : Int} {k : Nat} {b ns : List Int} {q : Bool} (h : nbF tag k b = (some ns,q)) : ns.length = k:=by
 unfold nbF at h
 split at h
 ·rename_i hc
  cases hr : rdN b k 1 [] with
  | none=>rw [hr] at h; cases h
  | some x =>
   obtain ⟨ms,p⟩:=x
   rw [hr] at h
   simp only [nbE,Prod.mk.injEq,Option.some.injEq] at h
   have hbl : 1 ≤ b.length:=by
    have:=hc.1
    unfold bodyOk at this; simp at this; omega
   obtain ⟨ms',e1,e2,_⟩:=rdN_yes (bodyOk_by hc.1) k 1 [] ms p hbl hr
   rw [← h.1,e1]; simpa using e2
 ·cases h
end Go.Proofs.YtmkijbfiilpccaaGreat.Abs
set_option linter.unusedSimpArgs false
set_option linter.unusedVariables false
namespace Go.Proofs.YtmkijbfiilpccaaGreat.Abs
open Go.RowKit
open R (val row ref)
def rdV1 (b : List Int) : Option (Int × Bool) :=
 match nbF 2 2 b with
 | (some [a,g],true)=>if g ≤ 1 then some (a - 1,g == 1) else none
 | _=>none
def rdM1 (b : List Int) : Option E3 :=
 match nbF 3 3 b with
 | (some [a,c,d],true)=>some (a,c,d)
 | _=>none
def rdAll {α : Type} (f : List Int → Option α) : List (List Int) → Option (List α)
 | []=>some []
 | b :: bs=>match f b with
  | some x=>match rdAll f bs with
   | some xs=>some (x :: xs)
   | none=>none
  | none=>none
theorem rdV1_form (b : List Int) : (∃ nn ns,nbRes (nbF 2 2 b) = .tup [.one (row nn 1 (ints ns)),.one (bool false)] ∧ rdV1 b = none) ∨ (∃ a g,nbRes (nbF 2 2 b) = .tup [.one (row false 1 (ints [a,g])),.one (bool true)] ∧ 0 ≤ a ∧ a ≤ 1000000 ∧ rdV1 b = if g ≤ 1 then some (a - 1,g == 1) else none):=by
 unfold rdV1
 rcases h : nbF 2 2 b with ⟨o,q⟩
 cases o with
 | none=>exact .inl ⟨true,[],rfl,rfl⟩
 | some ns =>
  have hl:=nbF_len h
  match ns,hl with
  | [a,g],_ =>
   cases q
   ·exact .inl ⟨false,[a,g],rfl,rfl⟩
   ·have:=(nbF_yes h).2.2 a (by simp)
    exact .inr ⟨a,g,rfl,this.1,this.2,rfl⟩
theorem rdM1_form (b : List Int) : (∃ nn ns,nbRes (nbF 3 3 b) = .tup [.one (row nn 1 (ints ns)),.one (bool false)] ∧ rdM1 b = none) ∨ (∃ a c d,nbRes (nbF 3 3 b) = .tup [.one (row false 1 (ints [a,c,d])),.one (bool true)] ∧ rdM1 b = some (a,c,d)):=by
 unfold rdM1
 rcases h : nbF 3 3 b with ⟨o,q⟩
 cases o with
 | none=>exact .inl ⟨true,[],rfl,rfl⟩
 | some ns =>
  have hl:=nbF_len h
  match ns,hl with
  | [a,c,d],_ =>
   cases q
   ·exact .inl ⟨false,[a,c,d],rfl,rfl⟩
   ·exact .inr ⟨a,c,d,rfl,rfl⟩
theorem Zdd {α : Type} {f : List Int → Option α} {bs : List (List Int)} {k : Nat} (h : k < bs.length) : rdAll f (bs.drop k) = match f bs[k] with
  | some x=>match rdAll f (bs.drop (k + 1)) with
   | some xs=>some (x :: xs)
   | none=>none
  | none=>none:=by
 rw [List.drop_eq_getElem_cons h,rdAll]
def vsOf (l : List (Int × Bool)) : List Int:=l.map Prod.fst
def gsOf (l : List (Int × Bool)) : List Bool:=l.map Prod.snd
theorem Zbw (l : List (Int × Bool)) : (vsOf l).length = l.length:=List.length_map ..
theorem Zbz (l : List (Int × Bool)) : (gsOf l).length = l.length:=List.length_map ..
theorem vsOf_app (l : List (Int × Bool)) (v : Int) (g : Bool) : ints (vsOf (l ++ [(v,g)])) = ints (vsOf l) ++ [.one (int v)]:=by unfold vsOf ints; simp
theorem gsOf_app (l : List (Int × Bool)) (v : Int) (g : Bool) : bools (gsOf (l ++ [(v,g)])) = bools (gsOf l) ++ [.one (bool g)]:=by unfold gsOf bools; simp
abbrev Zc : Cell:=.r true (row true 0 [])
theorem f_readValuesNo (nil : Bool) (bs : List (List Int)) (r : Int) (hl : bs.length ≤ 2000) (hn : rdAll rdV1 bs = none) :
    FnS Tryz.prog 65 [.one (.ptr 1000000000 0 0 0), .one (.r false (row nil 1 (rowsI bs)))] [(1000000000, .var 34 [.r true (int r), Zc, Zc, Zc])] (.one (.r true (bool false))) [] := by
  have hlen := Zax bs
  refine Zab (l := [.tmp 4]) Tryz.func65 kRf rfl Tryz.ntmps65 rfl rfl ?_; simp only [dEnv, Nat.reduceAdd]
  repeat' (first|refine wk ?_|(refine wkB ?_ ?_<;>intro hg_<;>try exact wkX)|fail)
  obtain ⟨F, hF0, hF1⟩ : ∃ F : Nat × List (Int × Bool) → St, (∀ k, F (k, []) = mkS 55 [(11, .one (.r true (int (k : Int)))), (10, .one (.r true (int (bs.length : Int)))), (9, .one (.r false (row nil 1 (rowsI bs)))), (0, .one (.ptr 1000000000 0 0 0))] [(1000000000, .var 34 [.r true (int r), Zc, Zc, Zc])]) ∧
      (∀ k l, l ≠ [] → F (k, l) = mkS 55 [(11, .one (.r true (int (k : Int)))), (10, .one (.r true (int (bs.length : Int)))), (9, .one (.r false (row nil 1 (rowsI bs)))), (0, .one (.ptr 1000000000 0 0 0))] [(1000000000, .var 34 [.r true (int r), .own 101 0 (vsOf l).length 1, .own 102 0 (gsOf l).length 1, Zc]), (101, .sl 3 1 true (ints (vsOf l))), (102, .sl 4 1 true (bools (gsOf l)))]) := by
    refine ⟨fun y => if y.2.isEmpty then mkS 55 [(11, .one (.r true (int (y.1 : Int)))), (10, .one (.r true (int (bs.length : Int)))), (9, .one (.r false (row nil 1 (rowsI bs)))), (0, .one (.ptr 1000000000 0 0 0))] [(1000000000, .var 34 [.r true (int r), Zc, Zc, Zc])] else mkS 55 [(11, .one (.r true (int (y.1 : Int)))), (10, .one (.r true (int (bs.length : Int)))), (9, .one (.r false (row nil 1 (rowsI bs)))), (0, .one (.ptr 1000000000 0 0 0))] [(1000000000, .var 34 [.r true (int r), .own 101 0 (vsOf y.2).length 1, .own 102 0 (gsOf y.2).length 1, Zc]), (101, .sl 3 1 true (ints (vsOf y.2))), (102, .sl 4 1 true (bools (gsOf y.2)))], fun k => rfl, fun k l h => ?_⟩
    cases l with
    | nil => exact absurd rfl h
    | cons v l => rfl
  refine Zac (fun y : Nat × List (Int × Bool) => y.1 ≤ bs.length ∧ y.2.length = y.1 ∧ rdAll rdV1 (bs.drop y.1) = none) F (fun y => bs.length - y.1) (0, []) ⟨Nat.zero_le _, rfl, hn⟩ (by
    rw [hF0]
    (refine Zn [] rfl ?_ ?_ <;> repeat' (first|refine wkS ?_ ?_|exact wkE|exact Zu (by rw [hlen])))) ?_
  rintro ⟨k, l⟩ ⟨hk, hkl, hE⟩
  dsimp only at hk hkl hE
  by_cases hlt : k < bs.length
  · have hx := Zb0 hlt
    rw [Zdd hlt] at hE
    have KN := Zbk false bs[k] 2 2 oM
    have hform := rdV1_form bs[k]
    generalize bs[k] = b at *
    have hwk : IntKind.i64.wrap ((k : Int) + 1) = ((k + 1 : Nat) : Int) := by rw [IntWalk.i64_in _ oM]; omega
    have hvi := (Zr (vsOf l)).symm
    have hgi := (Zag (gsOf l)).symm
    have hvl := Zbw l
    have hgl := Zbz l
    rcases hform with ⟨nn, ns, e1, e2⟩ | ⟨a, g, e1, ha0, ha1, e2⟩
    · rw [e1] at KN
      clear hE e2 e1
      by_cases hll : l = []
      · subst hll
        rw [hF0]
        clear hF0 hF1
        repeat' (first|refine wk ?_|((first|refine' w_q rfl rfl ?xa rfl ?_|refine' v_q rfl rfl ?xa rfl ?_|refine' Zm rfl rfl (Zd rfl) rfl ?xa rfl ?_|refine' Zo rfl rfl (Zd rfl) rfl ?xa rfl ?_);case xa => first|exact Z5 tbOk rfl rfl rfl rfl oM hx|exact Zg KN rfl ⟨Zf (Za rfl), Zf (Za rfl), Zf (Za rfl), trivial⟩)|(refine wkB ?_ ?_<;>intro hg_<;>try exact wkX)|fail)
        all_goals first
          | exact Zx [] rfl sbH (Zbp rfl rfl rfl)
          | (exfalso; omega)
      · rw [hF1 _ _ hll]
        clear hF0 hF1
        repeat' (first|refine wk ?_|((first|refine' w_q rfl rfl ?xa rfl ?_|refine' v_q rfl rfl ?xa rfl ?_|refine' Zm rfl rfl (Zd rfl) rfl ?xa rfl ?_|refine' Zo rfl rfl (Zd rfl) rfl ?xa rfl ?_);case xa => first|exact Z5 tbOk rfl rfl rfl rfl oM hx|exact Zg KN rfl ⟨Zf (Za rfl), Zf (Za rfl), Zf (Za rfl), trivial⟩)|(refine wkB ?_ ?_<;>intro hg_<;>try exact wkX)|fail)
        all_goals first
          | exact Zx [] rfl sbH (Zbp rfl rfl rfl)
          | (exfalso; omega)
    · rw [e1] at KN
      rw [e2] at hE
      have hx0 : (ints [a, g])[(0 : Int).toNat]? = some (iP a) := rfl
      have hx1 : (ints [a, g])[(1 : Int).toNat]? = some (iP g) := rfl
      by_cases hg : g ≤ 1
      · rw [if_pos hg] at hE
        have hE2 : rdAll rdV1 (bs.drop (k + 1)) = none := by
          cases h : rdAll rdV1 (bs.drop (k + 1)) with
          | none => rfl
          | some xs => rw [h] at hE; cases hE
        have hwa : IntKind.i64.wrap (a - 1) = a - 1 := IntWalk.i64_in _ oM
        have hfin : ∀ s' : St, Weak s' (F (k + 1, l ++ [(a - 1, g == 1)])) → ∃ y' : Nat × List (Int × Bool), (y'.1 ≤ bs.length ∧ y'.2.length = y'.1 ∧ rdAll rdV1 (bs.drop y'.1) = none) ∧ Weak s' (F y') ∧ bs.length - y'.1 < bs.length - k := fun s' h => ⟨(k + 1, l ++ [(a - 1, g == 1)]), ⟨by dsimp only; omega, by simp; omega, hE2⟩, h, by dsimp only; omega⟩
        rw [hF1 _ _ (by simp), vsOf_app, gsOf_app, ← hwa] at hfin
        clear hE hE2 e1 e2 hwa
        by_cases hll : l = []
        · subst hll
          rw [hF0]
          clear hF0 hF1
          repeat' (first|refine wk ?_|((first|refine' w_q rfl rfl ?xa rfl ?_|refine' v_q rfl rfl ?xa rfl ?_|refine' Zm rfl rfl (Zd rfl) rfl ?xa rfl ?_|refine' Zo rfl rfl (Zd rfl) rfl ?xa rfl ?_);case xa => first|exact Z5 tbOk rfl rfl rfl rfl oM (by first|exact hx|exact hx0|exact hx1)|exact Zg KN rfl ⟨Zf (Za rfl), Zf (Za rfl), Zf (Za rfl), trivial⟩)|((first|refine' w_e rfl ?xa ?xb ?xc ?xe ?_|refine' v_e rfl ?xa ?xb ?xc ?xe ?_);(case xa => first|exact Zp [.tmp 36] tlOk rfl rfl rfl rfl rfl rfl (Z7 rfl) (by simp)|exact Zp [.tmp 49] tlOk rfl rfl rfl rfl rfl rfl (Z7 rfl) (by simp)|exact Ze 38 rfl (Za0 tlOk rfl rfl rfl rfl rfl (Z4 (Z6 (Zk rfl) rfl) (by simp [plain1])) (by simp) (by simp [maxLen]) (by simp))|exact Ze 51 rfl (Za0 tlOk rfl rfl rfl rfl rfl (Z4 (Z6 (Zk rfl) rfl) (by simp [plain1])) (by simp) (by simp [maxLen]) (by simp)));(case xb|xc|xe=>rfl);try refine wkD ?_)|(refine wkB ?_ ?_<;>intro hg_<;>try exact wkX)|fail)
          all_goals first
            | (refine hfin _ ?_
               (refine Zn [(101, 38), (102, 51)] rfl ?_ ?_ <;> repeat' (first|refine wkS ?_ ?_|exact wkE|exact Zu hwk|exact Zv rfl rfl|exact var4 rfl (cown (by simp [vsOf])) (cown (by simp [gsOf])) rfl)))
            | (exfalso; omega)
        · rw [hF1 _ _ hll]
          clear hF0 hF1
          repeat' (first|refine wk ?_|((first|refine' w_q rfl rfl ?xa rfl ?_|refine' v_q rfl rfl ?xa rfl ?_|refine' Zm rfl rfl (Zd rfl) rfl ?xa rfl ?_|refine' Zo rfl rfl (Zd rfl) rfl ?xa rfl ?_);case xa => first|exact Z5 tbOk rfl rfl rfl rfl oM (by first|exact hx|exact hx0|exact hx1)|exact Zg KN rfl ⟨Zf (Za rfl), Zf (Za rfl), Zf (Za rfl), trivial⟩)|((first|refine' w_e rfl ?xa ?xb ?xc ?xe ?_|refine' v_e rfl ?xa ?xb ?xc ?xe ?_);(case xa => first|exact Zp [.tmp 36] tlOk rfl rfl rfl rfl rfl rfl (Z7 rfl) (by simp)|exact Zp [.tmp 49] tlOk rfl rfl rfl rfl rfl rfl (Z7 rfl) (by simp)|exact Ze 38 rfl (Zw tlOk rfl rfl rfl rfl rfl rfl (Z4 (Z6 (Zk rfl) rfl) (by simp [plain1])) hvi (by simp only [maxLen, List.length_cons, List.length_nil];omega) (by simp only [List.length_cons, List.length_nil];omega))|exact Ze 51 rfl (Zw tlOk rfl rfl rfl rfl rfl rfl (Z4 (Z6 (Zk rfl) rfl) (by simp [plain1])) hgi (by simp only [maxLen, List.length_cons, List.length_nil];omega) (by simp only [List.length_cons, List.length_nil];omega)));(case xb|xc|xe=>rfl);try refine wkD ?_)|(refine wkB ?_ ?_<;>intro hg_<;>try exact wkX)|fail)
          all_goals first
            | (refine hfin _ ?_
               (refine Zn [(101, 38), (102, 51)] rfl ?_ ?_ <;> repeat' (first|refine wkS ?_ ?_|exact wkE|exact Zu hwk|exact Zv rfl rfl|exact var4 rfl (cown (by simp only [vsOf, List.map_append, List.length_append, List.length_map, List.map_cons, List.map_nil, List.length_cons, List.length_nil, Zr])) (cown (by simp only [gsOf, List.map_append, List.length_append, List.length_map, List.map_cons, List.map_nil, List.length_cons, List.length_nil, Zag])) rfl)))
            | (exfalso; omega)
      · clear hE e1 e2
        by_cases hll : l = []
        · subst hll
          rw [hF0]
          clear hF0 hF1
          repeat' (first|refine wk ?_|((first|refine' w_q rfl rfl ?xa rfl ?_|refine' v_q rfl rfl ?xa rfl ?_|refine' Zm rfl rfl (Zd rfl) rfl ?xa rfl ?_|refine' Zo rfl rfl (Zd rfl) rfl ?xa rfl ?_);case xa => first|exact Z5 tbOk rfl rfl rfl rfl oM (by first|exact hx|exact hx0|exact hx1)|exact Zg KN rfl ⟨Zf (Za rfl), Zf (Za rfl), Zf (Za rfl), trivial⟩)|(refine wkB ?_ ?_<;>intro hg_<;>try exact wkX)|fail)
          all_goals first
            | exact Zx [] rfl sbH (Zbp rfl rfl rfl)
            | (exfalso; omega)
        · rw [hF1 _ _ hll]
          clear hF0 hF1
          repeat' (first|refine wk ?_|((first|refine' w_q rfl rfl ?xa rfl ?_|refine' v_q rfl rfl ?xa rfl ?_|refine' Zm rfl rfl (Zd rfl) rfl ?xa rfl ?_|refine' Zo rfl rfl (Zd rfl) rfl ?xa rfl ?_);case xa => first|exact Z5 tbOk rfl rfl rfl rfl oM (by first|exact hx|exact hx0|exact hx1)|exact Zg KN rfl ⟨Zf (Za rfl), Zf (Za rfl), Zf (Za rfl), trivial⟩)|(refine wkB ?_ ?_<;>intro hg_<;>try exact wkX)|fail)
          all_goals first
            | exact Zx [] rfl sbH (Zbp rfl rfl rfl)
            | (exfalso; omega)
  · exfalso
    rw [List.drop_of_length_le oM] at hE
    cases hE
theorem Zdu (nil : Bool) (bs : List (List Int)) (r : Int) (hl : bs.length ≤ 2000) (L : List (Int × Bool)) (hn : rdAll rdV1 bs = some L) (hLn : L ≠ []) :
    FnS Tryz.prog 65 [.one (.ptr 1000000000 0 0 0), .one (.r false (row nil 1 (rowsI bs)))] [(1000000000, .var 34 [.r true (int r), Zc, Zc, Zc])] (.one (.r true (bool true))) [(1000000000, .var 34 [.r true (int r), .own 2000001 0 L.length 1, .own 2000002 0 L.length 1, Zc]), (2000001, .sl 3 1 true (ints (vsOf L))), (2000002, .sl 4 1 true (bools (gsOf L)))] := by
  have hlen := Zax bs
  refine Zab (l := [.tmp 4]) Tryz.func65 kRf rfl Tryz.ntmps65 rfl rfl ?_; simp only [dEnv, Nat.reduceAdd]
  repeat' (first|refine wk ?_|(refine wkB ?_ ?_<;>intro hg_<;>try exact wkX)|fail)
  obtain ⟨F, hF0, hF1⟩ : ∃ F : Nat × List (Int × Bool) → St, (∀ k, F (k, []) = mkS 55 [(11, .one (.r true (int (k : Int)))), (10, .one (.r true (int (bs.length : Int)))), (9, .one (.r false (row nil 1 (rowsI bs)))), (0, .one (.ptr 1000000000 0 0 0))] [(1000000000, .var 34 [.r true (int r), Zc, Zc, Zc])]) ∧
      (∀ k l, l ≠ [] → F (k, l) = mkS 55 [(11, .one (.r true (int (k : Int)))), (10, .one (.r true (int (bs.length : Int)))), (9, .one (.r false (row nil 1 (rowsI bs)))), (0, .one (.ptr 1000000000 0 0 0))] [(1000000000, .var 34 [.r true (int r), .own 101 0 (vsOf l).length 1, .own 102 0 (gsOf l).length 1, Zc]), (101, .sl 3 1 true (ints (vsOf l))), (102, .sl 4 1 true (bools (gsOf l)))]) := by
    refine ⟨fun y => if y.2.isEmpty then mkS 55 [(11, .one (.r true (int (y.1 : Int)))), (10, .one (.r true (int (bs.length : Int)))), (9, .one (.r false (row nil 1 (rowsI bs)))), (0, .one (.ptr 1000000000 0 0 0))] [(1000000000, .var 34 [.r true (int r), Zc, Zc, Zc])] else mkS 55 [(11, .one (.r true (int (y.1 : Int)))), (10, .one (.r true (int (bs.length : Int)))), (9, .one (.r false (row nil 1 (rowsI bs)))), (0, .one (.ptr 1000000000 0 0 0))] [(1000000000, .var 34 [.r true (int r), .own 101 0 (vsOf y.2).length 1, .own 102 0 (gsOf y.2).length 1, Zc]), (101, .sl 3 1 true (ints (vsOf y.2))), (102, .sl 4 1 true (bools (gsOf y.2)))], fun k => rfl, fun k l h => ?_⟩
    cases l with
    | nil => exact absurd rfl h
    | cons v l => rfl
  refine Zac (fun y : Nat × List (Int × Bool) => y.1 ≤ bs.length ∧ y.2.length = y.1 ∧ ∃ xs, rdAll rdV1 (bs.drop y.1) = some xs ∧ y.2 ++ xs = L) F (fun y => bs.length - y.1) (0, []) ⟨Nat.zero_le _, rfl, L, hn, rfl⟩ (by
    rw [hF0]
    (refine Zn [] rfl ?_ ?_ <;> repeat' (first|refine wkS ?_ ?_|exact wkE|exact Zu (by rw [hlen])))) ?_
  rintro ⟨k, l⟩ ⟨hk, hkl, xs, hE, hxs⟩
  dsimp only at hk hkl hE hxs
  by_cases hlt : k < bs.length
  · have hx := Zb0 hlt
    rw [Zdd hlt] at hE
    have KN := Zbk false bs[k] 2 2 oM
    have hform := rdV1_form bs[k]
    generalize bs[k] = b at *
    have hwk : IntKind.i64.wrap ((k : Int) + 1) = ((k + 1 : Nat) : Int) := by rw [IntWalk.i64_in _ oM]; omega
    have hvi := (Zr (vsOf l)).symm
    have hgi := (Zag (gsOf l)).symm
    have hvl := Zbw l
    have hgl := Zbz l
    rcases hform with ⟨nn, ns, e1, e2⟩ | ⟨a, g, e1, ha0, ha1, e2⟩
    · rw [e2] at hE
      cases hE
    · rw [e1] at KN
      rw [e2] at hE
      have hx0 : (ints [a, g])[(0 : Int).toNat]? = some (iP a) := rfl
      have hx1 : (ints [a, g])[(1 : Int).toNat]? = some (iP g) := rfl
      by_cases hg : g ≤ 1
      · rw [if_pos hg] at hE
        have hE2 : ∃ ys, rdAll rdV1 (bs.drop (k + 1)) = some ys ∧ (l ++ [(a - 1, g == 1)]) ++ ys = L := by
          cases h : rdAll rdV1 (bs.drop (k + 1)) with
          | none => rw [h] at hE; cases hE
          | some ys =>
            rw [h] at hE
            injection hE with hE
            exact ⟨ys, rfl, by rw [← hxs, ← hE]; simp⟩
        have hwa : IntKind.i64.wrap (a - 1) = a - 1 := IntWalk.i64_in _ oM
        have hfin : ∀ s' : St, Weak s' (F (k + 1, l ++ [(a - 1, g == 1)])) → ∃ y' : Nat × List (Int × Bool), (y'.1 ≤ bs.length ∧ y'.2.length = y'.1 ∧ ∃ xs, rdAll rdV1 (bs.drop y'.1) = some xs ∧ y'.2 ++ xs = L) ∧ Weak s' (F y') ∧ bs.length - y'.1 < bs.length - k := fun s' h => ⟨(k + 1, l ++ [(a - 1, g == 1)]), ⟨by dsimp only; omega, by simp; omega, hE2⟩, h, by dsimp only; omega⟩
        rw [hF1 _ _ (by simp), vsOf_app, gsOf_app, ← hwa] at hfin
        clear hE hE2 e1 e2 hwa
        by_cases hll : l = []
        · subst hll
          rw [hF0]
          clear hF0 hF1
          repeat' (first|refine wk ?_|((first|refine' w_q rfl rfl ?xa rfl ?_|refine' v_q rfl rfl ?xa rfl ?_|refine' Zm rfl rfl (Zd rfl) rfl ?xa rfl ?_|refine' Zo rfl rfl (Zd rfl) rfl ?xa rfl ?_);case xa => first|exact Z5 tbOk rfl rfl rfl rfl oM (by first|exact hx|exact hx0|exact hx1)|exact Zg KN rfl ⟨Zf (Za rfl), Zf (Za rfl), Zf (Za rfl), trivial⟩)|((first|refine' w_e rfl ?xa ?xb ?xc ?xe ?_|refine' v_e rfl ?xa ?xb ?xc ?xe ?_);(case xa => first|exact Zp [.tmp 36] tlOk rfl rfl rfl rfl rfl rfl (Z7 rfl) (by simp)|exact Zp [.tmp 49] tlOk rfl rfl rfl rfl rfl rfl (Z7 rfl) (by simp)|exact Ze 38 rfl (Za0 tlOk rfl rfl rfl rfl rfl (Z4 (Z6 (Zk rfl) rfl) (by simp [plain1])) (by simp) (by simp [maxLen]) (by simp))|exact Ze 51 rfl (Za0 tlOk rfl rfl rfl rfl rfl (Z4 (Z6 (Zk rfl) rfl) (by simp [plain1])) (by simp) (by simp [maxLen]) (by simp)));(case xb|xc|xe=>rfl);try refine wkD ?_)|(refine wkB ?_ ?_<;>intro hg_<;>try exact wkX)|fail)
          all_goals first
            | (refine hfin _ ?_
               (refine Zn [(101, 38), (102, 51)] rfl ?_ ?_ <;> repeat' (first|refine wkS ?_ ?_|exact wkE|exact Zu hwk|exact Zv rfl rfl|exact var4 rfl (cown (by simp [vsOf])) (cown (by simp [gsOf])) rfl)))
            | (exfalso; omega)
        · rw [hF1 _ _ hll]
          clear hF0 hF1
          repeat' (first|refine wk ?_|((first|refine' w_q rfl rfl ?xa rfl ?_|refine' v_q rfl rfl ?xa rfl ?_|refine' Zm rfl rfl (Zd rfl) rfl ?xa rfl ?_|refine' Zo rfl rfl (Zd rfl) rfl ?xa rfl ?_);case xa => first|exact Z5 tbOk rfl rfl rfl rfl oM (by first|exact hx|exact hx0|exact hx1)|exact Zg KN rfl ⟨Zf (Za rfl), Zf (Za rfl), Zf (Za rfl), trivial⟩)|((first|refine' w_e rfl ?xa ?xb ?xc ?xe ?_|refine' v_e rfl ?xa ?xb ?xc ?xe ?_);(case xa => first|exact Zp [.tmp 36] tlOk rfl rfl rfl rfl rfl rfl (Z7 rfl) (by simp)|exact Zp [.tmp 49] tlOk rfl rfl rfl rfl rfl rfl (Z7 rfl) (by simp)|exact Ze 38 rfl (Zw tlOk rfl rfl rfl rfl rfl rfl (Z4 (Z6 (Zk rfl) rfl) (by simp [plain1])) hvi (by simp only [maxLen, List.length_cons, List.length_nil];omega) (by simp only [List.length_cons, List.length_nil];omega))|exact Ze 51 rfl (Zw tlOk rfl rfl rfl rfl rfl rfl (Z4 (Z6 (Zk rfl) rfl) (by simp [plain1])) hgi (by simp only [maxLen, List.length_cons, List.length_nil];omega) (by simp only [List.length_cons, List.length_nil];omega)));(case xb|xc|xe=>rfl);try refine wkD ?_)|(refine wkB ?_ ?_<;>intro hg_<;>try exact wkX)|fail)
          all_goals first
            | (refine hfin _ ?_
               (refine Zn [(101, 38), (102, 51)] rfl ?_ ?_ <;> repeat' (first|refine wkS ?_ ?_|exact wkE|exact Zu hwk|exact Zv rfl rfl|exact var4 rfl (cown (by simp only [vsOf, List.map_append, List.length_append, List.length_map, List.map_cons, List.map_nil, List.length_cons, List.length_nil, Zr])) (cown (by simp only [gsOf, List.map_append, List.length_append, List.length_map, List.map_cons, List.map_nil, List.length_cons, List.length_nil, Zag])) rfl)))
            | (exfalso; omega)
      · rw [if_neg hg] at hE
        cases hE
  · rw [List.drop_of_length_le oM, rdAll] at hE
    injection hE with hE
    rw [← hE, List.append_nil] at hxs
    subst hxs
    rw [hF1 _ _ hLn]
    clear hF0 hF1
    have hvl := Zbw l
    have hgl := Zbz l
    rw [hvl, hgl]
    repeat' (first|refine wk ?_|(refine wkB ?_ ?_<;>intro hg_<;>try exact wkX)|fail)
    all_goals first
      | exact Zx [(2000001, 101), (2000002, 102)] rfl sbH (Zbp rfl rfl rfl)
      | (exfalso; omega)
theorem Zdt (nil : Bool) (r : Int) :
  FnS Tryz.prog 65 [.one (.ptr 1000000000 0 0 0),.one (.r false (row nil 1 (rowsI [])))] [(1000000000,.var 34 [.r true (int r),Zc,Zc,Zc])] (.one (.r true (bool true))) [(1000000000,.var 34 [.r true (int r),Zc,Zc,Zc])]:=by
 have hlen : (rowsI []).length = 0:=rfl
 refine Zab (l:=[.tmp 4]) Tryz.func65 kRf rfl Tryz.ntmps65 rfl rfl ?_; simp only [dEnv,Nat.reduceAdd]
 repeat' (first|refine wk ?_|(refine wkB ?_ ?_<;>intro hg_<;>try exact wkX)|fail)
 refine Zac (fun y : Nat=>y = 0) (fun y=>mkS 55 [(11,.one (.r true (int (y : Int)))),(10,.one (.r true (int 0))),(9,.one (.r false (row nil 1 (rowsI [])))),(0,.one (.ptr 1000000000 0 0 0))] [(1000000000,.var 34 [.r true (int r),Zc,Zc,Zc])]) (fun y=>y) 0 rfl (by (refine Zn [] rfl ?_ ?_ <;>exact wkW)) ?_
 rintro y rfl
 repeat' (first|refine wk ?_|(refine wkB ?_ ?_<;>intro hg_<;>try exact wkX)|fail)
 all_goals first
  | exact Zx [] rfl sbH (Zbp rfl rfl rfl)
  | (exfalso; omega)
theorem f_readMsNoZ (nil : Bool) (bs : List (List Int)) (r : Int) (hl : bs.length ≤ 2000) (hn : rdAll rdM1 bs = none) :
    FnS Tryz.prog 66 [.one (.ptr 1000000000 0 0 0), .one (.r false (row nil 1 (rowsI bs)))] [(1000000000, .var 34 [.r true (int r), Zc, Zc, Zc])] (.one (.r true (bool false))) [] := by
  have hlen := Zax bs
  refine Zab (l := [.tmp 4]) Tryz.func66 kRf rfl Tryz.ntmps66 rfl rfl ?_; simp only [dEnv, Nat.reduceAdd]
  repeat' (first|refine wk ?_|(refine wkB ?_ ?_<;>intro hg_<;>try exact wkX)|fail)
  obtain ⟨F, hF0, hF1⟩ : ∃ F : Nat × List E3 → St, (∀ k, F (k, []) = mkS 42 [(11, .one (.r true (int (k : Int)))), (10, .one (.r true (int (bs.length : Int)))), (9, .one (.r false (row nil 1 (rowsI bs)))), (0, .one (.ptr 1000000000 0 0 0))] [(1000000000, .var 34 [.r true (int r), Zc, Zc, Zc])]) ∧
      (∀ k l, l ≠ [] → F (k, l) = mkS 42 [(11, .one (.r true (int (k : Int)))), (10, .one (.r true (int (bs.length : Int)))), (9, .one (.r false (row nil 1 (rowsI bs)))), (0, .one (.ptr 1000000000 0 0 0))] [(1000000000, .var 34 [.r true (int r), Zc, Zc, .own 103 0 (l).length 3]), (103, .sl 87 3 true (edges (l)))]) := by
    refine ⟨fun y => if y.2.isEmpty then mkS 42 [(11, .one (.r true (int (y.1 : Int)))), (10, .one (.r true (int (bs.length : Int)))), (9, .one (.r false (row nil 1 (rowsI bs)))), (0, .one (.ptr 1000000000 0 0 0))] [(1000000000, .var 34 [.r true (int r), Zc, Zc, Zc])] else mkS 42 [(11, .one (.r true (int (y.1 : Int)))), (10, .one (.r true (int (bs.length : Int)))), (9, .one (.r false (row nil 1 (rowsI bs)))), (0, .one (.ptr 1000000000 0 0 0))] [(1000000000, .var 34 [.r true (int r), Zc, Zc, .own 103 0 (y.2).length 3]), (103, .sl 87 3 true (edges (y.2)))], fun k => rfl, fun k l h => ?_⟩
    cases l with
    | nil => exact absurd rfl h
    | cons v l => rfl
  refine Zac (fun y : Nat × List E3 => y.1 ≤ bs.length ∧ y.2.length = y.1 ∧ rdAll rdM1 (bs.drop y.1) = none) F (fun y => bs.length - y.1) (0, []) ⟨Nat.zero_le _, rfl, hn⟩ (by
    rw [hF0]
    (refine Zn [] rfl ?_ ?_ <;> repeat' (first|refine wkS ?_ ?_|exact wkE|exact Zu (by rw [hlen])))) ?_
  rintro ⟨k, l⟩ ⟨hk, hkl, hE⟩
  dsimp only at hk hkl hE
  by_cases hlt : k < bs.length
  · have hx := Zb0 hlt
    rw [Zdd hlt] at hE
    have KN := Zbk false bs[k] 3 3 oM
    have hform := rdM1_form bs[k]
    generalize bs[k] = b at *
    have hwk : IntKind.i64.wrap ((k : Int) + 1) = ((k + 1 : Nat) : Int) := by rw [IntWalk.i64_in _ oM]; omega
    have hmi := (Zq l).symm
    rcases hform with ⟨nn, ns, e1, e2⟩ | ⟨a, c, d, e1, e2⟩
    · rw [e1] at KN
      clear hE e2 e1
      have hx0 := hx
      have hx1 := hx
      have hx2 := hx
      by_cases hll : l = []
      · subst hll
        rw [hF0]
        clear hF0 hF1
        repeat' (first|refine wk ?_|((first|refine' w_q rfl rfl ?xa rfl ?_|refine' v_q rfl rfl ?xa rfl ?_|refine' Zm rfl rfl (Zd rfl) rfl ?xa rfl ?_|refine' Zo rfl rfl (Zd rfl) rfl ?xa rfl ?_);case xa => first|exact Z5 tbOk rfl rfl rfl rfl oM (by first|exact hx|exact hx0|exact hx1|exact hx2)|exact Zg KN rfl ⟨Zf (Za rfl), Zf (Za rfl), Zf (Za rfl), trivial⟩)|(refine wkB ?_ ?_<;>intro hg_<;>try exact wkX)|fail)
        all_goals first
          | exact Zx [] rfl sbH (Zbp rfl rfl rfl)
          | (exfalso; omega)
      · rw [hF1 _ _ hll]
        clear hF0 hF1
        repeat' (first|refine wk ?_|((first|refine' w_q rfl rfl ?xa rfl ?_|refine' v_q rfl rfl ?xa rfl ?_|refine' Zm rfl rfl (Zd rfl) rfl ?xa rfl ?_|refine' Zo rfl rfl (Zd rfl) rfl ?xa rfl ?_);case xa => first|exact Z5 tbOk rfl rfl rfl rfl oM (by first|exact hx|exact hx0|exact hx1|exact hx2)|exact Zg KN rfl ⟨Zf (Za rfl), Zf (Za rfl), Zf (Za rfl), trivial⟩)|(refine wkB ?_ ?_<;>intro hg_<;>try exact wkX)|fail)
        all_goals first
          | exact Zx [] rfl sbH (Zbp rfl rfl rfl)
          | (exfalso; omega)
    · rw [e1] at KN
      rw [e2] at hE
      have hx0 : (ints [a, c, d])[(0 : Int).toNat]? = some (iP a) := rfl
      have hx1 : (ints [a, c, d])[(1 : Int).toNat]? = some (iP c) := rfl
      have hx2 : (ints [a, c, d])[(2 : Int).toNat]? = some (iP d) := rfl
      have hE2 : rdAll rdM1 (bs.drop (k + 1)) = none := by
        cases h : rdAll rdM1 (bs.drop (k + 1)) with
        | none => rfl
        | some xs => rw [h] at hE; cases hE
      have hfin : ∀ s' : St, Weak s' (F (k + 1, l ++ [(a, c, d)])) → ∃ y' : Nat × List E3, (y'.1 ≤ bs.length ∧ y'.2.length = y'.1 ∧ rdAll rdM1 (bs.drop y'.1) = none) ∧ Weak s' (F y') ∧ bs.length - y'.1 < bs.length - k := fun s' h => ⟨(k + 1, l ++ [(a, c, d)]), ⟨by dsimp only; omega, by simp; omega, hE2⟩, h, by dsimp only; omega⟩
      have happ : edges (l ++ [(a, c, d)]) = edges l ++ [edgeP (a, c, d)] := by unfold edges; simp
      rw [hF1 _ _ (by simp), happ] at hfin
      clear hE hE2 e1 e2 happ
      by_cases hll : l = []
      · subst hll
        rw [hF0]
        clear hF0 hF1
        repeat' (first|refine wk ?_|((first|refine' w_q rfl rfl ?xa rfl ?_|refine' v_q rfl rfl ?xa rfl ?_|refine' Zm rfl rfl (Zd rfl) rfl ?xa rfl ?_|refine' Zo rfl rfl (Zd rfl) rfl ?xa rfl ?_);case xa => first|exact Z5 tbOk rfl rfl rfl rfl oM (by first|exact hx|exact hx0|exact hx1|exact hx2)|exact Zg KN rfl ⟨Zf (Za rfl), Zf (Za rfl), Zf (Za rfl), trivial⟩)|((first|refine' w_e rfl ?xa ?xb ?xc ?xe ?_|refine' v_e rfl ?xa ?xb ?xc ?xe ?_);(case xa => first|exact Zp [.tmp 36] tlOk rfl rfl rfl rfl rfl rfl (Z7 rfl) (by simp)|exact Ze 38 rfl (Za0 tlOk rfl rfl rfl rfl rfl (Z4 (Z6 (Zk rfl) rfl) (Zbd _ _ _)) (by simp) (by simp [maxLen]) (by simp)));(case xb|xc|xe=>rfl);try refine wkD ?_)|(refine wkB ?_ ?_<;>intro hg_<;>try exact wkX)|fail)
        all_goals first
          | (refine hfin _ ?_
             (refine Zn [(103, 38)] rfl ?_ ?_ <;> repeat' (first|refine wkS ?_ ?_|exact wkE|exact Zu hwk|exact Zv rfl rfl|exact var4 rfl rfl rfl (cown (by simp only [List.length_append, List.length_cons, List.length_nil, Zq])))))
          | (exfalso; omega)
      · rw [hF1 _ _ hll]
        clear hF0 hF1
        repeat' (first|refine wk ?_|((first|refine' w_q rfl rfl ?xa rfl ?_|refine' v_q rfl rfl ?xa rfl ?_|refine' Zm rfl rfl (Zd rfl) rfl ?xa rfl ?_|refine' Zo rfl rfl (Zd rfl) rfl ?xa rfl ?_);case xa => first|exact Z5 tbOk rfl rfl rfl rfl oM (by first|exact hx|exact hx0|exact hx1|exact hx2)|exact Zg KN rfl ⟨Zf (Za rfl), Zf (Za rfl), Zf (Za rfl), trivial⟩)|((first|refine' w_e rfl ?xa ?xb ?xc ?xe ?_|refine' v_e rfl ?xa ?xb ?xc ?xe ?_);(case xa => first|exact Zp [.tmp 36] tlOk rfl rfl rfl rfl rfl rfl (Z7 rfl) (by simp)|exact Ze 38 rfl (Zw tlOk rfl rfl rfl rfl rfl rfl (Z4 (Z6 (Zk rfl) rfl) (Zbd _ _ _)) hmi (by simp only [maxLen, List.length_cons, List.length_nil];omega) (by simp only [List.length_cons, List.length_nil];omega)));(case xb|xc|xe=>rfl);try refine wkD ?_)|(refine wkB ?_ ?_<;>intro hg_<;>try exact wkX)|fail)
        all_goals first
          | (refine hfin _ ?_
             (refine Zn [(103, 38)] rfl ?_ ?_ <;> repeat' (first|refine wkS ?_ ?_|exact wkE|exact Zu hwk|exact Zv rfl rfl|exact var4 rfl rfl rfl (cown (by simp only [List.length_append, List.length_cons, List.length_nil, Zq])))))
          | (exfalso; omega)
  · exfalso
    rw [List.drop_of_length_le oM] at hE
    cases hE
theorem f_readMsYesZ (nil : Bool) (bs : List (List Int)) (r : Int) (hl : bs.length ≤ 2000) (L : List E3) (hn : rdAll rdM1 bs = some L) (hLn : L ≠ []) :
    FnS Tryz.prog 66 [.one (.ptr 1000000000 0 0 0), .one (.r false (row nil 1 (rowsI bs)))] [(1000000000, .var 34 [.r true (int r), Zc, Zc, Zc])] (.one (.r true (bool true))) [(1000000000, .var 34 [.r true (int r), Zc, Zc, .own 2000001 0 (L).length 3]), (2000001, .sl 87 3 true (edges (L)))] := by
  have hlen := Zax bs
  refine Zab (l := [.tmp 4]) Tryz.func66 kRf rfl Tryz.ntmps66 rfl rfl ?_; simp only [dEnv, Nat.reduceAdd]
  repeat' (first|refine wk ?_|(refine wkB ?_ ?_<;>intro hg_<;>try exact wkX)|fail)
  obtain ⟨F, hF0, hF1⟩ : ∃ F : Nat × List E3 → St, (∀ k, F (k, []) = mkS 42 [(11, .one (.r true (int (k : Int)))), (10, .one (.r true (int (bs.length : Int)))), (9, .one (.r false (row nil 1 (rowsI bs)))), (0, .one (.ptr 1000000000 0 0 0))] [(1000000000, .var 34 [.r true (int r), Zc, Zc, Zc])]) ∧
      (∀ k l, l ≠ [] → F (k, l) = mkS 42 [(11, .one (.r true (int (k : Int)))), (10, .one (.r true (int (bs.length : Int)))), (9, .one (.r false (row nil 1 (rowsI bs)))), (0, .one (.ptr 1000000000 0 0 0))] [(1000000000, .var 34 [.r true (int r), Zc, Zc, .own 103 0 (l).length 3]), (103, .sl 87 3 true (edges (l)))]) := by
    refine ⟨fun y => if y.2.isEmpty then mkS 42 [(11, .one (.r true (int (y.1 : Int)))), (10, .one (.r true (int (bs.length : Int)))), (9, .one (.r false (row nil 1 (rowsI bs)))), (0, .one (.ptr 1000000000 0 0 0))] [(1000000000, .var 34 [.r true (int r), Zc, Zc, Zc])] else mkS 42 [(11, .one (.r true (int (y.1 : Int)))), (10, .one (.r true (int (bs.length : Int)))), (9, .one (.r false (row nil 1 (rowsI bs)))), (0, .one (.ptr 1000000000 0 0 0))] [(1000000000, .var 34 [.r true (int r), Zc, Zc, .own 103 0 (y.2).length 3]), (103, .sl 87 3 true (edges (y.2)))], fun k => rfl, fun k l h => ?_⟩
    cases l with
    | nil => exact absurd rfl h
    | cons v l => rfl
  refine Zac (fun y : Nat × List E3 => y.1 ≤ bs.length ∧ y.2.length = y.1 ∧ ∃ xs, rdAll rdM1 (bs.drop y.1) = some xs ∧ y.2 ++ xs = L) F (fun y => bs.length - y.1) (0, []) ⟨Nat.zero_le _, rfl, L, hn, rfl⟩ (by
    rw [hF0]
    (refine Zn [] rfl ?_ ?_ <;> repeat' (first|refine wkS ?_ ?_|exact wkE|exact Zu (by rw [hlen])))) ?_
  rintro ⟨k, l⟩ ⟨hk, hkl, xs, hE, hxs⟩
  dsimp only at hk hkl hE hxs
  by_cases hlt : k < bs.length
  · have hx := Zb0 hlt
    rw [Zdd hlt] at hE
    have KN := Zbk false bs[k] 3 3 oM
    have hform := rdM1_form bs[k]
    generalize bs[k] = b at *
    have hwk : IntKind.i64.wrap ((k : Int) + 1) = ((k + 1 : Nat) : Int) := by rw [IntWalk.i64_in _ oM]; omega
    have hmi := (Zq l).symm
    rcases hform with ⟨nn, ns, e1, e2⟩ | ⟨a, c, d, e1, e2⟩
    · rw [e2] at hE
      cases hE
    · rw [e1] at KN
      rw [e2] at hE
      have hx0 : (ints [a, c, d])[(0 : Int).toNat]? = some (iP a) := rfl
      have hx1 : (ints [a, c, d])[(1 : Int).toNat]? = some (iP c) := rfl
      have hx2 : (ints [a, c, d])[(2 : Int).toNat]? = some (iP d) := rfl
      have hE2 : ∃ ys, rdAll rdM1 (bs.drop (k + 1)) = some ys ∧ (l ++ [(a, c, d)]) ++ ys = L := by
        cases h : rdAll rdM1 (bs.drop (k + 1)) with
        | none => rw [h] at hE; cases hE
        | some ys =>
          rw [h] at hE
          injection hE with hE
          exact ⟨ys, rfl, by rw [← hxs, ← hE]; simp⟩
      have hfin : ∀ s' : St, Weak s' (F (k + 1, l ++ [(a, c, d)])) → ∃ y' : Nat × List E3, (y'.1 ≤ bs.length ∧ y'.2.length = y'.1 ∧ ∃ xs, rdAll rdM1 (bs.drop y'.1) = some xs ∧ y'.2 ++ xs = L) ∧ Weak s' (F y') ∧ bs.length - y'.1 < bs.length - k := fun s' h => ⟨(k + 1, l ++ [(a, c, d)]), ⟨by dsimp only; omega, by simp; omega, hE2⟩, h, by dsimp only; omega⟩
      have happ : edges (l ++ [(a, c, d)]) = edges l ++ [edgeP (a, c, d)] := by unfold edges; simp
      rw [hF1 _ _ (by simp), happ] at hfin
      clear hE hE2 e1 e2 happ
      by_cases hll : l = []
      · subst hll
        rw [hF0]
        clear hF0 hF1
        repeat' (first|refine wk ?_|((first|refine' w_q rfl rfl ?xa rfl ?_|refine' v_q rfl rfl ?xa rfl ?_|refine' Zm rfl rfl (Zd rfl) rfl ?xa rfl ?_|refine' Zo rfl rfl (Zd rfl) rfl ?xa rfl ?_);case xa => first|exact Z5 tbOk rfl rfl rfl rfl oM (by first|exact hx|exact hx0|exact hx1|exact hx2)|exact Zg KN rfl ⟨Zf (Za rfl), Zf (Za rfl), Zf (Za rfl), trivial⟩)|((first|refine' w_e rfl ?xa ?xb ?xc ?xe ?_|refine' v_e rfl ?xa ?xb ?xc ?xe ?_);(case xa => first|exact Zp [.tmp 36] tlOk rfl rfl rfl rfl rfl rfl (Z7 rfl) (by simp)|exact Ze 38 rfl (Za0 tlOk rfl rfl rfl rfl rfl (Z4 (Z6 (Zk rfl) rfl) (Zbd _ _ _)) (by simp) (by simp [maxLen]) (by simp)));(case xb|xc|xe=>rfl);try refine wkD ?_)|(refine wkB ?_ ?_<;>intro hg_<;>try exact wkX)|fail)
        all_goals first
          | (refine hfin _ ?_
             (refine Zn [(103, 38)] rfl ?_ ?_ <;> repeat' (first|refine wkS ?_ ?_|exact wkE|exact Zu hwk|exact Zv rfl rfl|exact var4 rfl rfl rfl (cown (by simp only [List.length_append, List.length_cons, List.length_nil, Zq])))))
          | (exfalso; omega)
      · rw [hF1 _ _ hll]
        clear hF0 hF1
        repeat' (first|refine wk ?_|((first|refine' w_q rfl rfl ?xa rfl ?_|refine' v_q rfl rfl ?xa rfl ?_|refine' Zm rfl rfl (Zd rfl) rfl ?xa rfl ?_|refine' Zo rfl rfl (Zd rfl) rfl ?xa rfl ?_);case xa => first|exact Z5 tbOk rfl rfl rfl rfl oM (by first|exact hx|exact hx0|exact hx1|exact hx2)|exact Zg KN rfl ⟨Zf (Za rfl), Zf (Za rfl), Zf (Za rfl), trivial⟩)|((first|refine' w_e rfl ?xa ?xb ?xc ?xe ?_|refine' v_e rfl ?xa ?xb ?xc ?xe ?_);(case xa => first|exact Zp [.tmp 36] tlOk rfl rfl rfl rfl rfl rfl (Z7 rfl) (by simp)|exact Ze 38 rfl (Zw tlOk rfl rfl rfl rfl rfl rfl (Z4 (Z6 (Zk rfl) rfl) (Zbd _ _ _)) hmi (by simp only [maxLen, List.length_cons, List.length_nil];omega) (by simp only [List.length_cons, List.length_nil];omega)));(case xb|xc|xe=>rfl);try refine wkD ?_)|(refine wkB ?_ ?_<;>intro hg_<;>try exact wkX)|fail)
        all_goals first
          | (refine hfin _ ?_
             (refine Zn [(103, 38)] rfl ?_ ?_ <;> repeat' (first|refine wkS ?_ ?_|exact wkE|exact Zu hwk|exact Zv rfl rfl|exact var4 rfl rfl rfl (cown (by simp only [List.length_append, List.length_cons, List.length_nil, Zq])))))
          | (exfalso; omega)
  · rw [List.drop_of_length_le oM, rdAll] at hE
    injection hE with hE
    rw [← hE, List.append_nil] at hxs
    subst hxs
    rw [hF1 _ _ hLn]
    clear hF0 hF1
    repeat' (first|refine wk ?_|(refine wkB ?_ ?_<;>intro hg_<;>try exact wkX)|fail)
    all_goals first
      | exact Zx [(2000001, 103)] rfl sbH (Zbp rfl rfl rfl)
      | (exfalso; omega)
theorem f_readMsNilZ (nil : Bool) (r : Int) :
  FnS Tryz.prog 66 [.one (.ptr 1000000000 0 0 0),.one (.r false (row nil 1 (rowsI [])))] [(1000000000,.var 34 [.r true (int r),Zc,Zc,Zc])] (.one (.r true (bool true))) [(1000000000,.var 34 [.r true (int r),Zc,Zc,Zc])]:=by
 have hlen : (rowsI []).length = 0:=rfl
 refine Zab (l:=[.tmp 4]) Tryz.func66 kRf rfl Tryz.ntmps66 rfl rfl ?_; simp only [dEnv,Nat.reduceAdd]
 repeat' (first|refine wk ?_|(refine wkB ?_ ?_<;>intro hg_<;>try exact wkX)|fail)
 refine Zac (fun y : Nat=>y = 0) (fun y=>mkS 42 [(11,.one (.r true (int (y : Int)))),(10,.one (.r true (int 0))),(9,.one (.r false (row nil 1 (rowsI [])))),(0,.one (.ptr 1000000000 0 0 0))] [(1000000000,.var 34 [.r true (int r),Zc,Zc,Zc])]) (fun y=>y) 0 rfl (by (refine Zn [] rfl ?_ ?_ <;>exact wkW)) ?_
 rintro y rfl
 repeat' (first|refine wk ?_|(refine wkB ?_ ?_<;>intro hg_<;>try exact wkX)|fail)
 all_goals first
  | exact Zx [] rfl sbH (Zbp rfl rfl rfl)
  | (exfalso; omega)
theorem f_readMsNoO (nil : Bool) (bs : List (List Int)) (r : Int) (vs : List Int) (gs : List Bool) (hl : bs.length ≤ 2000) (hn : rdAll rdM1 bs = none) :
    FnS Tryz.prog 66 [.one (.ptr 1000000000 0 0 0), .one (.r false (row nil 1 (rowsI bs)))] [(1000000000, .var 34 [.r true (int r), .own 1000000001 0 vs.length 1, .own 1000000002 0 gs.length 1, Zc]), (1000000001, .sl 3 1 true (ints vs)), (1000000002, .sl 4 1 true (bools gs))] (.one (.r true (bool false))) [] := by
  have hlen := Zax bs
  refine Zab (l := [.tmp 4]) Tryz.func66 kRf rfl Tryz.ntmps66 rfl rfl ?_; simp only [dEnv, Nat.reduceAdd]
  repeat' (first|refine wk ?_|(refine wkB ?_ ?_<;>intro hg_<;>try exact wkX)|fail)
  obtain ⟨F, hF0, hF1⟩ : ∃ F : Nat × List E3 → St, (∀ k, F (k, []) = mkS 42 [(11, .one (.r true (int (k : Int)))), (10, .one (.r true (int (bs.length : Int)))), (9, .one (.r false (row nil 1 (rowsI bs)))), (0, .one (.ptr 1000000000 0 0 0))] [(1000000000, .var 34 [.r true (int r), .own 1000000001 0 vs.length 1, .own 1000000002 0 gs.length 1, Zc]), (1000000001, .sl 3 1 true (ints vs)), (1000000002, .sl 4 1 true (bools gs))]) ∧
      (∀ k l, l ≠ [] → F (k, l) = mkS 42 [(11, .one (.r true (int (k : Int)))), (10, .one (.r true (int (bs.length : Int)))), (9, .one (.r false (row nil 1 (rowsI bs)))), (0, .one (.ptr 1000000000 0 0 0))] [(1000000000, .var 34 [.r true (int r), .own 1000000001 0 vs.length 1, .own 1000000002 0 gs.length 1, .own 103 0 (l).length 3]), (1000000001, .sl 3 1 true (ints vs)), (1000000002, .sl 4 1 true (bools gs)), (103, .sl 87 3 true (edges (l)))]) := by
    refine ⟨fun y => if y.2.isEmpty then mkS 42 [(11, .one (.r true (int (y.1 : Int)))), (10, .one (.r true (int (bs.length : Int)))), (9, .one (.r false (row nil 1 (rowsI bs)))), (0, .one (.ptr 1000000000 0 0 0))] [(1000000000, .var 34 [.r true (int r), .own 1000000001 0 vs.length 1, .own 1000000002 0 gs.length 1, Zc]), (1000000001, .sl 3 1 true (ints vs)), (1000000002, .sl 4 1 true (bools gs))] else mkS 42 [(11, .one (.r true (int (y.1 : Int)))), (10, .one (.r true (int (bs.length : Int)))), (9, .one (.r false (row nil 1 (rowsI bs)))), (0, .one (.ptr 1000000000 0 0 0))] [(1000000000, .var 34 [.r true (int r), .own 1000000001 0 vs.length 1, .own 1000000002 0 gs.length 1, .own 103 0 (y.2).length 3]), (1000000001, .sl 3 1 true (ints vs)), (1000000002, .sl 4 1 true (bools gs)), (103, .sl 87 3 true (edges (y.2)))], fun k => rfl, fun k l h => ?_⟩
    cases l with
    | nil => exact absurd rfl h
    | cons v l => rfl
  refine Zac (fun y : Nat × List E3 => y.1 ≤ bs.length ∧ y.2.length = y.1 ∧ rdAll rdM1 (bs.drop y.1) = none) F (fun y => bs.length - y.1) (0, []) ⟨Nat.zero_le _, rfl, hn⟩ (by
    rw [hF0]
    (refine Zn [] rfl ?_ ?_ <;> repeat' (first|refine wkS ?_ ?_|exact wkE|exact Zu (by rw [hlen])))) ?_
  rintro ⟨k, l⟩ ⟨hk, hkl, hE⟩
  dsimp only at hk hkl hE
  by_cases hlt : k < bs.length
  · have hx := Zb0 hlt
    rw [Zdd hlt] at hE
    have KN := Zbk false bs[k] 3 3 oM
    have hform := rdM1_form bs[k]
    generalize bs[k] = b at *
    have hwk : IntKind.i64.wrap ((k : Int) + 1) = ((k + 1 : Nat) : Int) := by rw [IntWalk.i64_in _ oM]; omega
    have hmi := (Zq l).symm
    rcases hform with ⟨nn, ns, e1, e2⟩ | ⟨a, c, d, e1, e2⟩
    · rw [e1] at KN
      clear hE e2 e1
      have hx0 := hx
      have hx1 := hx
      have hx2 := hx
      by_cases hll : l = []
      · subst hll
        rw [hF0]
        clear hF0 hF1
        repeat' (first|refine wk ?_|((first|refine' w_q rfl rfl ?xa rfl ?_|refine' v_q rfl rfl ?xa rfl ?_|refine' Zm rfl rfl (Zd rfl) rfl ?xa rfl ?_|refine' Zo rfl rfl (Zd rfl) rfl ?xa rfl ?_);case xa => first|exact Z5 tbOk rfl rfl rfl rfl oM (by first|exact hx|exact hx0|exact hx1|exact hx2)|exact Zg KN rfl ⟨Zf (Za rfl), Zf (Za rfl), Zf (Za rfl), trivial⟩)|(refine wkB ?_ ?_<;>intro hg_<;>try exact wkX)|fail)
        all_goals first
          | exact Zx [] rfl sbH (Zbp rfl rfl rfl)
          | (exfalso; omega)
      · rw [hF1 _ _ hll]
        clear hF0 hF1
        repeat' (first|refine wk ?_|((first|refine' w_q rfl rfl ?xa rfl ?_|refine' v_q rfl rfl ?xa rfl ?_|refine' Zm rfl rfl (Zd rfl) rfl ?xa rfl ?_|refine' Zo rfl rfl (Zd rfl) rfl ?xa rfl ?_);case xa => first|exact Z5 tbOk rfl rfl rfl rfl oM (by first|exact hx|exact hx0|exact hx1|exact hx2)|exact Zg KN rfl ⟨Zf (Za rfl), Zf (Za rfl), Zf (Za rfl), trivial⟩)|(refine wkB ?_ ?_<;>intro hg_<;>try exact wkX)|fail)
        all_goals first
          | exact Zx [] rfl sbH (Zbp rfl rfl rfl)
          | (exfalso; omega)
    · rw [e1] at KN
      rw [e2] at hE
      have hx0 : (ints [a, c, d])[(0 : Int).toNat]? = some (iP a) := rfl
      have hx1 : (ints [a, c, d])[(1 : Int).toNat]? = some (iP c) := rfl
      have hx2 : (ints [a, c, d])[(2 : Int).toNat]? = some (iP d) := rfl
      have hE2 : rdAll rdM1 (bs.drop (k + 1)) = none := by
        cases h : rdAll rdM1 (bs.drop (k + 1)) with
        | none => rfl
        | some xs => rw [h] at hE; cases hE
      have hfin : ∀ s' : St, Weak s' (F (k + 1, l ++ [(a, c, d)])) → ∃ y' : Nat × List E3, (y'.1 ≤ bs.length ∧ y'.2.length = y'.1 ∧ rdAll rdM1 (bs.drop y'.1) = none) ∧ Weak s' (F y') ∧ bs.length - y'.1 < bs.length - k := fun s' h => ⟨(k + 1, l ++ [(a, c, d)]), ⟨by dsimp only; omega, by simp; omega, hE2⟩, h, by dsimp only; omega⟩
      have happ : edges (l ++ [(a, c, d)]) = edges l ++ [edgeP (a, c, d)] := by unfold edges; simp
      rw [hF1 _ _ (by simp), happ] at hfin
      clear hE hE2 e1 e2 happ
      by_cases hll : l = []
      · subst hll
        rw [hF0]
        clear hF0 hF1
        repeat' (first|refine wk ?_|((first|refine' w_q rfl rfl ?xa rfl ?_|refine' v_q rfl rfl ?xa rfl ?_|refine' Zm rfl rfl (Zd rfl) rfl ?xa rfl ?_|refine' Zo rfl rfl (Zd rfl) rfl ?xa rfl ?_);case xa => first|exact Z5 tbOk rfl rfl rfl rfl oM (by first|exact hx|exact hx0|exact hx1|exact hx2)|exact Zg KN rfl ⟨Zf (Za rfl), Zf (Za rfl), Zf (Za rfl), trivial⟩)|((first|refine' w_e rfl ?xa ?xb ?xc ?xe ?_|refine' v_e rfl ?xa ?xb ?xc ?xe ?_);(case xa => first|exact Zp [.tmp 36] tlOk rfl rfl rfl rfl rfl rfl (Z7 rfl) (by simp)|exact Ze 38 rfl (Za0 tlOk rfl rfl rfl rfl rfl (Z4 (Z6 (Zk rfl) rfl) (Zbd _ _ _)) (by simp) (by simp [maxLen]) (by simp)));(case xb|xc|xe=>rfl);try refine wkD ?_)|(refine wkB ?_ ?_<;>intro hg_<;>try exact wkX)|fail)
        all_goals first
          | (refine hfin _ ?_
             (refine Zn [(103, 38)] rfl ?_ ?_ <;> repeat' (first|refine wkS ?_ ?_|exact wkE|exact Zu hwk|exact Zv rfl rfl|exact var4 rfl rfl rfl (cown (by simp only [List.length_append, List.length_cons, List.length_nil, Zq])))))
          | (exfalso; omega)
      · rw [hF1 _ _ hll]
        clear hF0 hF1
        repeat' (first|refine wk ?_|((first|refine' w_q rfl rfl ?xa rfl ?_|refine' v_q rfl rfl ?xa rfl ?_|refine' Zm rfl rfl (Zd rfl) rfl ?xa rfl ?_|refine' Zo rfl rfl (Zd rfl) rfl ?xa rfl ?_);case xa => first|exact Z5 tbOk rfl rfl rfl rfl oM (by first|exact hx|exact hx0|exact hx1|exact hx2)|exact Zg KN rfl ⟨Zf (Za rfl), Zf (Za rfl), Zf (Za rfl), trivial⟩)|((first|refine' w_e rfl ?xa ?xb ?xc ?xe ?_|refine' v_e rfl ?xa ?xb ?xc ?xe ?_);(case xa => first|exact Zp [.tmp 36] tlOk rfl rfl rfl rfl rfl rfl (Z7 rfl) (by simp)|exact Ze 38 rfl (Zw tlOk rfl rfl rfl rfl rfl rfl (Z4 (Z6 (Zk rfl) rfl) (Zbd _ _ _)) hmi (by simp only [maxLen, List.length_cons, List.length_nil];omega) (by simp only [List.length_cons, List.length_nil];omega)));(case xb|xc|xe=>rfl);try refine wkD ?_)|(refine wkB ?_ ?_<;>intro hg_<;>try exact wkX)|fail)
        all_goals first
          | (refine hfin _ ?_
             (refine Zn [(103, 38)] rfl ?_ ?_ <;> repeat' (first|refine wkS ?_ ?_|exact wkE|exact Zu hwk|exact Zv rfl rfl|exact var4 rfl rfl rfl (cown (by simp only [List.length_append, List.length_cons, List.length_nil, Zq])))))
          | (exfalso; omega)
  · exfalso
    rw [List.drop_of_length_le oM] at hE
    cases hE
theorem f_readMsYesO (nil : Bool) (bs : List (List Int)) (r : Int) (vs : List Int) (gs : List Bool) (hl : bs.length ≤ 2000) (L : List E3) (hn : rdAll rdM1 bs = some L) (hLn : L ≠ []) :
    FnS Tryz.prog 66 [.one (.ptr 1000000000 0 0 0), .one (.r false (row nil 1 (rowsI bs)))] [(1000000000, .var 34 [.r true (int r), .own 1000000001 0 vs.length 1, .own 1000000002 0 gs.length 1, Zc]), (1000000001, .sl 3 1 true (ints vs)), (1000000002, .sl 4 1 true (bools gs))] (.one (.r true (bool true))) [(1000000000, .var 34 [.r true (int r), .own 1000000001 0 vs.length 1, .own 1000000002 0 gs.length 1, .own 2000001 0 (L).length 3]), (1000000001, .sl 3 1 true (ints vs)), (1000000002, .sl 4 1 true (bools gs)), (2000001, .sl 87 3 true (edges (L)))] := by
  have hlen := Zax bs
  refine Zab (l := [.tmp 4]) Tryz.func66 kRf rfl Tryz.ntmps66 rfl rfl ?_; simp only [dEnv, Nat.reduceAdd]
  repeat' (first|refine wk ?_|(refine wkB ?_ ?_<;>intro hg_<;>try exact wkX)|fail)
  obtain ⟨F, hF0, hF1⟩ : ∃ F : Nat × List E3 → St, (∀ k, F (k, []) = mkS 42 [(11, .one (.r true (int (k : Int)))), (10, .one (.r true (int (bs.length : Int)))), (9, .one (.r false (row nil 1 (rowsI bs)))), (0, .one (.ptr 1000000000 0 0 0))] [(1000000000, .var 34 [.r true (int r), .own 1000000001 0 vs.length 1, .own 1000000002 0 gs.length 1, Zc]), (1000000001, .sl 3 1 true (ints vs)), (1000000002, .sl 4 1 true (bools gs))]) ∧
      (∀ k l, l ≠ [] → F (k, l) = mkS 42 [(11, .one (.r true (int (k : Int)))), (10, .one (.r true (int (bs.length : Int)))), (9, .one (.r false (row nil 1 (rowsI bs)))), (0, .one (.ptr 1000000000 0 0 0))] [(1000000000, .var 34 [.r true (int r), .own 1000000001 0 vs.length 1, .own 1000000002 0 gs.length 1, .own 103 0 (l).length 3]), (1000000001, .sl 3 1 true (ints vs)), (1000000002, .sl 4 1 true (bools gs)), (103, .sl 87 3 true (edges (l)))]) := by
    refine ⟨fun y => if y.2.isEmpty then mkS 42 [(11, .one (.r true (int (y.1 : Int)))), (10, .one (.r true (int (bs.length : Int)))), (9, .one (.r false (row nil 1 (rowsI bs)))), (0, .one (.ptr 1000000000 0 0 0))] [(1000000000, .var 34 [.r true (int r), .own 1000000001 0 vs.length 1, .own 1000000002 0 gs.length 1, Zc]), (1000000001, .sl 3 1 true (ints vs)), (1000000002, .sl 4 1 true (bools gs))] else mkS 42 [(11, .one (.r true (int (y.1 : Int)))), (10, .one (.r true (int (bs.length : Int)))), (9, .one (.r false (row nil 1 (rowsI bs)))), (0, .one (.ptr 1000000000 0 0 0))] [(1000000000, .var 34 [.r true (int r), .own 1000000001 0 vs.length 1, .own 1000000002 0 gs.length 1, .own 103 0 (y.2).length 3]), (1000000001, .sl 3 1 true (ints vs)), (1000000002, .sl 4 1 true (bools gs)), (103, .sl 87 3 true (edges (y.2)))], fun k => rfl, fun k l h => ?_⟩
    cases l with
    | nil => exact absurd rfl h
    | cons v l => rfl
  refine Zac (fun y : Nat × List E3 => y.1 ≤ bs.length ∧ y.2.length = y.1 ∧ ∃ xs, rdAll rdM1 (bs.drop y.1) = some xs ∧ y.2 ++ xs = L) F (fun y => bs.length - y.1) (0, []) ⟨Nat.zero_le _, rfl, L, hn, rfl⟩ (by
    rw [hF0]
    (refine Zn [] rfl ?_ ?_ <;> repeat' (first|refine wkS ?_ ?_|exact wkE|exact Zu (by rw [hlen])))) ?_
  rintro ⟨k, l⟩ ⟨hk, hkl, xs, hE, hxs⟩
  dsimp only at hk hkl hE hxs
  by_cases hlt : k < bs.length
  · have hx := Zb0 hlt
    rw [Zdd hlt] at hE
    have KN := Zbk false bs[k] 3 3 oM
    have hform := rdM1_form bs[k]
    generalize bs[k] = b at *
    have hwk : IntKind.i64.wrap ((k : Int) + 1) = ((k + 1 : Nat) : Int) := by rw [IntWalk.i64_in _ oM]; omega
    have hmi := (Zq l).symm
    rcases hform with ⟨nn, ns, e1, e2⟩ | ⟨a, c, d, e1, e2⟩
    · rw [e2] at hE
      cases hE
    · rw [e1] at KN
      rw [e2] at hE
      have hx0 : (ints [a, c, d])[(0 : Int).toNat]? = some (iP a) := rfl
      have hx1 : (ints [a, c, d])[(1 : Int).toNat]? = some (iP c) := rfl
      have hx2 : (ints [a, c, d])[(2 : Int).toNat]? = some (iP d) := rfl
      have hE2 : ∃ ys, rdAll rdM1 (bs.drop (k + 1)) = some ys ∧ (l ++ [(a, c, d)]) ++ ys = L := by
        cases h : rdAll rdM1 (bs.drop (k + 1)) with
        | none => rw [h] at hE; cases hE
        | some ys =>
          rw [h] at hE
          injection hE with hE
          exact ⟨ys, rfl, by rw [← hxs, ← hE]; simp⟩
      have hfin : ∀ s' : St, Weak s' (F (k + 1, l ++ [(a, c, d)])) → ∃ y' : Nat × List E3, (y'.1 ≤ bs.length ∧ y'.2.length = y'.1 ∧ ∃ xs, rdAll rdM1 (bs.drop y'.1) = some xs ∧ y'.2 ++ xs = L) ∧ Weak s' (F y') ∧ bs.length - y'.1 < bs.length - k := fun s' h => ⟨(k + 1, l ++ [(a, c, d)]), ⟨by dsimp only; omega, by simp; omega, hE2⟩, h, by dsimp only; omega⟩
      have happ : edges (l ++ [(a, c, d)]) = edges l ++ [edgeP (a, c, d)] := by unfold edges; simp
      rw [hF1 _ _ (by simp), happ] at hfin
      clear hE hE2 e1 e2 happ
      by_cases hll : l = []
      · subst hll
        rw [hF0]
        clear hF0 hF1
        repeat' (first|refine wk ?_|((first|refine' w_q rfl rfl ?xa rfl ?_|refine' v_q rfl rfl ?xa rfl ?_|refine' Zm rfl rfl (Zd rfl) rfl ?xa rfl ?_|refine' Zo rfl rfl (Zd rfl) rfl ?xa rfl ?_);case xa => first|exact Z5 tbOk rfl rfl rfl rfl oM (by first|exact hx|exact hx0|exact hx1|exact hx2)|exact Zg KN rfl ⟨Zf (Za rfl), Zf (Za rfl), Zf (Za rfl), trivial⟩)|((first|refine' w_e rfl ?xa ?xb ?xc ?xe ?_|refine' v_e rfl ?xa ?xb ?xc ?xe ?_);(case xa => first|exact Zp [.tmp 36] tlOk rfl rfl rfl rfl rfl rfl (Z7 rfl) (by simp)|exact Ze 38 rfl (Za0 tlOk rfl rfl rfl rfl rfl (Z4 (Z6 (Zk rfl) rfl) (Zbd _ _ _)) (by simp) (by simp [maxLen]) (by simp)));(case xb|xc|xe=>rfl);try refine wkD ?_)|(refine wkB ?_ ?_<;>intro hg_<;>try exact wkX)|fail)
        all_goals first
          | (refine hfin _ ?_
             (refine Zn [(103, 38)] rfl ?_ ?_ <;> repeat' (first|refine wkS ?_ ?_|exact wkE|exact Zu hwk|exact Zv rfl rfl|exact var4 rfl rfl rfl (cown (by simp only [List.length_append, List.length_cons, List.length_nil, Zq])))))
          | (exfalso; omega)
      · rw [hF1 _ _ hll]
        clear hF0 hF1
        repeat' (first|refine wk ?_|((first|refine' w_q rfl rfl ?xa rfl ?_|refine' v_q rfl rfl ?xa rfl ?_|refine' Zm rfl rfl (Zd rfl) rfl ?xa rfl ?_|refine' Zo rfl rfl (Zd rfl) rfl ?xa rfl ?_);case xa => first|exact Z5 tbOk rfl rfl rfl rfl oM (by first|exact hx|exact hx0|exact hx1|exact hx2)|exact Zg KN rfl ⟨Zf (Za rfl), Zf (Za rfl), Zf (Za rfl), trivial⟩)|((first|refine' w_e rfl ?xa ?xb ?xc ?xe ?_|refine' v_e rfl ?xa ?xb ?xc ?xe ?_);(case xa => first|exact Zp [.tmp 36] tlOk rfl rfl rfl rfl rfl rfl (Z7 rfl) (by simp)|exact Ze 38 rfl (Zw tlOk rfl rfl rfl rfl rfl rfl (Z4 (Z6 (Zk rfl) rfl) (Zbd _ _ _)) hmi (by simp only [maxLen, List.length_cons, List.length_nil];omega) (by simp only [List.length_cons, List.length_nil];omega)));(case xb|xc|xe=>rfl);try refine wkD ?_)|(refine wkB ?_ ?_<;>intro hg_<;>try exact wkX)|fail)
        all_goals first
          | (refine hfin _ ?_
             (refine Zn [(103, 38)] rfl ?_ ?_ <;> repeat' (first|refine wkS ?_ ?_|exact wkE|exact Zu hwk|exact Zv rfl rfl|exact var4 rfl rfl rfl (cown (by simp only [List.length_append, List.length_cons, List.length_nil, Zq])))))
          | (exfalso; omega)
  · rw [List.drop_of_length_le oM, rdAll] at hE
    injection hE with hE
    rw [← hE, List.append_nil] at hxs
    subst hxs
    rw [hF1 _ _ hLn]
    clear hF0 hF1
    repeat' (first|refine wk ?_|(refine wkB ?_ ?_<;>intro hg_<;>try exact wkX)|fail)
    all_goals first
      | exact Zx [(2000001, 103)] rfl sbH (Zbp rfl rfl rfl)
      | (exfalso; omega)
theorem f_readMsNilO (nil : Bool) (r : Int) (vs : List Int) (gs : List Bool) :
  FnS Tryz.prog 66 [.one (.ptr 1000000000 0 0 0),.one (.r false (row nil 1 (rowsI [])))] [(1000000000,.var 34 [.r true (int r),.own 1000000001 0 vs.length 1,.own 1000000002 0 gs.length 1,Zc]),(1000000001,.sl 3 1 true (ints vs)),(1000000002,.sl 4 1 true (bools gs))] (.one (.r true (bool true))) [(1000000000,.var 34 [.r true (int r),.own 1000000001 0 vs.length 1,.own 1000000002 0 gs.length 1,Zc]),(1000000001,.sl 3 1 true (ints vs)),(1000000002,.sl 4 1 true (bools gs))]:=by
 have hlen : (rowsI []).length = 0:=rfl
 refine Zab (l:=[.tmp 4]) Tryz.func66 kRf rfl Tryz.ntmps66 rfl rfl ?_; simp only [dEnv,Nat.reduceAdd]
 repeat' (first|refine wk ?_|(refine wkB ?_ ?_<;>intro hg_<;>try exact wkX)|fail)
 refine Zac (fun y : Nat=>y = 0) (fun y=>mkS 42 [(11,.one (.r true (int (y : Int)))),(10,.one (.r true (int 0))),(9,.one (.r false (row nil 1 (rowsI [])))),(0,.one (.ptr 1000000000 0 0 0))] [(1000000000,.var 34 [.r true (int r),.own 1000000001 0 vs.length 1,.own 1000000002 0 gs.length 1,Zc]),(1000000001,.sl 3 1 true (ints vs)),(1000000002,.sl 4 1 true (bools gs))]) (fun y=>y) 0 rfl (by (refine Zn [] rfl ?_ ?_ <;>exact wkW)) ?_
 rintro y rfl
 repeat' (first|refine wk ?_|(refine wkB ?_ ?_<;>intro hg_<;>try exact wkX)|fail)
 all_goals first
  | exact Zx [] rfl sbH (Zbp rfl rfl rfl)
  | (exfalso; omega)
end Go.Proofs.YtmkijbfiilpccaaGreat.Abs
set_option linter.unusedSimpArgs false
set_option linter.unusedVariables false
namespace Go.Proofs.YtmkijbfiilpccaaGreat.Abs
open Go.RowKit
open R (val row ref)
theorem Zb6 {α : Type} {f : List Int → Option α} : ∀ {bs : List (List Int)} {xs : List α},rdAll f bs = some xs → xs.length = bs.length
 | [],xs,h=>by rw [rdAll] at h; injection h with h; rw [← h]; rfl
 | b :: bs,xs,h=>by
  rw [rdAll] at h
  cases hb : f b with
  | none=>rw [hb] at h; cases h
  | some x =>
   rw [hb] at h
   cases hr : rdAll f bs with
   | none=>rw [hr] at h; cases h
   | some ys =>
    rw [hr] at h
    injection h with h
    rw [← h,List.length_cons,List.length_cons,Zb6 hr]
theorem b01_enc {g : Int} (h0 : 0 ≤ g) (h1 : g ≤ 1) : enc g = [b01 (g == 1)]:=by
 rw [enc_last h0 oM]
 unfold b01
 by_cases h : g = 1
 ·subst h; rfl
 ·have : g = 0:=by omega
  subst this; rfl
theorem rdV1_rcV {b : List Int} {v : Int} {g : Bool} (h : rdV1 b = some (v,g)) : b = rcV v g:=by
 unfold rdV1 at h
 rcases hn : nbF 2 2 b with ⟨o,q⟩
 rw [hn] at h
 cases o with
 | none=>cases h
 | some ns =>
  match ns,nbF_len hn with
  | [a,c],_ =>
   cases q
   ·cases h
   ·dsimp only at h
    obtain ⟨e1,e2,e3⟩:=nbF_yes hn
    split at h
    ·rename_i hc
     injection h with h
     injection h with h1 h2
     rw [e1,← h1,← h2]
     unfold rcV
     rw [show a - 1 + 1 = a by omega]
     have:=(e3 c (by simp)).1
     simp [b01_enc this hc]
    ·cases h
theorem rcV_rdV1 {v : Int} {g : Bool} (h0 : -1 ≤ v) (h1 : v ≤ 999999) : rdV1 (rcV v g) = some (v,g):=by
 have hg : 0 ≤ b01 g ∧ b01 g ≤ 1:=by unfold b01; split<;>omega
 have e : rcV v g = 2 :: [v + 1,b01 g].flatMap enc:=by
  unfold rcV
  have:=b01_enc hg.1 hg.2
  have h2 : b01 (b01 g == 1) = b01 g:=by cases g<;>rfl
  simp [this,h2]
 have hN:=nbF_enc (tag:=2) (ns:=[v + 1,b01 g]) oM (by simp) (fun n hn=>by
  simp only [List.mem_cons,List.not_mem_nil,or_false] at hn
  rcases hn with rfl | rfl<;>omega)
 unfold rdV1
 rw [e]
 rw [show [v + 1,b01 g].length = 2 from rfl] at hN
 rw [hN]
 dsimp only
 rw [if_pos hg.2,show v + 1 - 1 = v by omega]
 cases g<;>rfl
theorem rdM1_rcM {b : List Int} {e : E3} (h : rdM1 b = some e) : b = rcM e:=by
 unfold rdM1 at h
 rcases hn : nbF 3 3 b with ⟨o,q⟩
 rw [hn] at h
 cases o with
 | none=>cases h
 | some ns =>
  match ns,nbF_len hn with
  | [a,c,d],_ =>
   cases q
   ·cases h
   ·dsimp only at h
    obtain ⟨e1,e2,e3⟩:=nbF_yes hn
    injection h with h
    rw [e1,← h]
    unfold rcM edgeB
    have h1:=e3 a (by simp)
    have h2:=e3 c (by simp)
    have h3:=e3 d (by simp)
    rw [if_pos (by simp [fits,h1,h2,h3])]
    simp
theorem rcM_rdM1 {m : E3} (h1 : 0 ≤ m.1 ∧ m.1 ≤ 1000000) (h2 : 0 ≤ m.2.1 ∧ m.2.1 ≤ 1000000) (h3 : 0 ≤ m.2.2 ∧ m.2.2 ≤ 1000000) : rdM1 (rcM m) = some m:=by
 obtain ⟨a,c,d⟩:=m
 dsimp only at h1 h2 h3
 have e : rcM (a,c,d) = 3 :: [a,c,d].flatMap enc:=by
  unfold rcM edgeB
  rw [if_pos (by simp [fits,h1,h2,h3])]
  simp
 have hN:=nbF_enc (tag:=3) (ns:=[a,c,d]) oM (by simp) (fun n hn=>by
  simp only [List.mem_cons,List.not_mem_nil,or_false] at hn
  rcases hn with rfl | rfl | rfl<;>omega)
 unfold rdM1
 rw [e]
 rw [show [a,c,d].length = 3 from rfl] at hN
 rw [hN]
theorem rdAllV_eq : ∀ {bs : List (List Int)} {L : List (Int × Bool)},rdAll rdV1 bs = some L → bs = List.zipWith rcV (vsOf L) (gsOf L)
 | [],L,h=>by rw [rdAll] at h; injection h with h; rw [← h]; rfl
 | b :: bs,L,h=>by
  rw [rdAll] at h
  cases hb : rdV1 b with
  | none=>rw [hb] at h; cases h
  | some x =>
   rw [hb] at h
   cases hr : rdAll rdV1 bs with
   | none=>rw [hr] at h; cases h
   | some ys =>
    rw [hr] at h
    injection h with h
    obtain ⟨v,g⟩:=x
    rw [← h,rdV1_rcV hb]
    unfold vsOf gsOf
    rw [List.map_cons,List.map_cons,List.zipWith_cons_cons]
    congr 1
    exact rdAllV_eq hr
theorem rdAllM_eq : ∀ {bs : List (List Int)} {L : List E3},rdAll rdM1 bs = some L → bs = L.map rcM
 | [],L,h=>by rw [rdAll] at h; injection h with h; rw [← h]; rfl
 | b :: bs,L,h=>by
  rw [rdAll] at h
  cases hb : rdM1 b with
  | none=>rw [hb] at h; cases h
  | some x =>
   rw [hb] at h
   cases hr : rdAll rdM1 bs with
   | none=>rw [hr] at h; cases h
   | some ys =>
    rw [hr] at h
    injection h with h
    rw [← h,rdM1_rcM hb,List.map_cons]
    congr 1
    exact rdAllM_eq hr
theorem rdAllV_yes : ∀ {vs : List Int} {gs : List Bool},gs.length = vs.length → (∀ v ∈ vs,-1 ≤ v ∧ v ≤ 999999) → rdAll rdV1 (List.zipWith rcV vs gs) = some (vs.zip gs)
 | [],gs,_,_=>by simp [rdAll]
 | v :: vs,[],h,_=>by simp at h
 | v :: vs,g :: gs,h,hv=>by
  have h0:=hv v (List.mem_cons_self ..)
  rw [List.zipWith_cons_cons,rdAll,rcV_rdV1 h0.1 h0.2,rdAllV_yes (by simpa using h) (fun z hz=>hv z (List.mem_cons_of_mem _ hz))]
  rfl
theorem rdAllM_yes : ∀ {ms : List E3},(∀ m ∈ ms,(0 ≤ m.1 ∧ m.1 ≤ 1000000) ∧ (0 ≤ m.2.1 ∧ m.2.1 ≤ 1000000) ∧ (0 ≤ m.2.2 ∧ m.2.2 ≤ 1000000)) → rdAll rdM1 (ms.map rcM) = some ms
 | [],_=>rfl
 | m :: ms,h=>by
  have h0:=h m (List.mem_cons_self ..)
  rw [List.map_cons,rdAll,rcM_rdM1 h0.1 h0.2.1 h0.2.2,rdAllM_yes (fun z hz=>h z (List.mem_cons_of_mem _ hz))]
theorem nbF_end : nbF 4 0 [4] = (some [],true):=nbF_enc (tag:=4) (ns:=[]) oM (by simp) (fun n hn=>absurd hn (by simp))
structure CkI (D : List (List Int)) (r : Int) (m w : Nat) (L : List (Int × Bool)) (M : List E3) : Prop where
 head : ∃ b,D[0]? = some b ∧ nbF 1 3 b = (some [r,(m : Int),(w : Int)],true)
 len : m + w + 2 ≤ D.length
 vals : rdAll rdV1 ((D.drop 1).take m) = some L
 msgs : rdAll rdM1 ((D.drop (1 + m)).take w) = some M
 fin : ∃ b,D[1 + m + w]? = some b ∧ nbF 4 0 b = (some [],true)
theorem Ck.ckI {D : List (List Int)} {s : Sta} (h : Ck D s) : CkI D s.r s.vs.length s.ms.length (s.vs.zip s.gs) s.ms:=by
 have hF:=Sta.okF h.1
 have hgl:=hF.gl
 have h1:=hF.many
 have h2:=hF.ml
 have h3:=hF.r0
 have h4:=hF.r1
 have hz : (List.zipWith rcV s.vs s.gs).length = s.vs.length:=by simp; omega
 obtain ⟨t,ht⟩:=h.2
 refine ⟨⟨rcH s,h.get rfl,?_⟩,by have:=h.len; omega,?_,?_,⟨[4],h.get ?_,nbF_end⟩⟩
 ·have e : rcH s = 1 :: [s.r,(s.vs.length : Int),(s.ms.length : Int)].flatMap enc:=by unfold rcH; simp
  rw [e]
  exact nbF_enc (tag:=1) (ns:=[s.r,(s.vs.length : Int),(s.ms.length : Int)]) oM (by simp) (fun n hn=>by
   simp only [List.mem_cons,List.not_mem_nil,or_false] at hn
   rcases hn with rfl | rfl | rfl<;>omega)
 ·rw [← ht]
  unfold ckB
  rw [List.cons_append,List.drop_one,List.tail_cons,List.append_assoc,List.take_left' hz]
  exact rdAllV_yes hgl hF.vin
 ·rw [← ht]
  unfold ckB
  rw [List.cons_append,Nat.add_comm 1,List.drop_succ_cons,List.append_assoc,List.drop_left' hz,List.append_assoc,List.take_left' (by simp)]
  exact rdAllM_yes fun m hm=>by have:=hF.min m hm; omega
 ·unfold ckB
  rw [show 1 + s.vs.length + s.ms.length = (s.vs.length + s.ms.length) + 1 by omega,List.getElem?_cons_succ,List.getElem?_append_right oM,hz,List.getElem?_append_right (by simp)]
  simp
theorem CkI.ck {D : List (List Int)} {r : Int} {m w : Nat} {L : List (Int × Bool)} {M : List E3} (h : CkI D r m w L M) (hok : Sta.ok ⟨r,vsOf L,gsOf L,M⟩ = true) : Ck D ⟨r,vsOf L,gsOf L,M⟩:=by
 obtain ⟨⟨b,hb1,hb2⟩,hl,hv,hm,⟨c,hc1,hc2⟩⟩:=h
 have lv:=Zb6 hv
 have lm:=Zb6 hm
 have ev:=rdAllV_eq hv
 have em:=rdAllM_eq hm
 have eb:=(nbF_yes hb2).1
 have ec:=(nbF_yes hc2).1
 rw [List.length_take,List.length_drop] at lv lm
 have hLm : L.length = m:=by omega
 have hMw : M.length = w:=by omega
 refine ⟨hok,?_⟩
 have eH : rcH ⟨r,vsOf L,gsOf L,M⟩ = b:=by
  rw [eb]
  unfold rcH
  dsimp only
  rw [Zbw,hLm,hMw]
  simp
 unfold ckB
 rw [eH]
 dsimp only
 rw [← ev,← em]
 have ec' : c = [4]:=by rw [ec]; rfl
 subst ec'
 refine ⟨D.drop (1 + m + w + 1),?_⟩
 have hD0 : D = b :: D.drop 1:=by
  cases D with
  | nil=>cases hb1
  | cons x D=>simp only [List.getElem?_cons_zero,Option.some.injEq] at hb1; rw [hb1]; rfl
 have hDv : D.drop 1 = (D.drop 1).take m ++ D.drop (1 + m):=by
  conv=>lhs; rw [← List.take_append_drop m (D.drop 1),List.drop_drop]
 have hDm : D.drop (1 + m) = (D.drop (1 + m)).take w ++ D.drop (1 + m + w):=by
  conv=>lhs; rw [← List.take_append_drop w (D.drop (1 + m)),List.drop_drop]
 have hDe : D.drop (1 + m + w) = [4] :: D.drop (1 + m + w + 1):=by
  have hlt : 1 + m + w < D.length:=by omega
  rw [List.drop_eq_getElem_cons hlt]
  rw [List.getElem?_eq_getElem hlt] at hc1
  injection hc1 with hc1
  rw [hc1]
 conv=>rhs; rw [hD0,hDv,hDm,hDe]
 simp
end Go.Proofs.YtmkijbfiilpccaaGreat.Abs
