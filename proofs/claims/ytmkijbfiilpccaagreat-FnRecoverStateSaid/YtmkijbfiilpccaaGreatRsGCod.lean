/- Numbers, edges and frames as bytes: plain lemmas. No statement of the seat is proved here. -/
import Derived.Lib.Hide
import Derived.Test.YtmkijbfiilpccaaGreatRsTy
import Derived.Test.YtmkijbfiilpccaaGreatRsCodes3
import Derived.Test.YtmkijbfiilpccaaGreatRsFrames2
import Derived.Test.YtmkijbfiilpccaaGreatRsAGraph
import Derived.Test.YtmkijbfiilpccaaGreatRsHopsR
import Derived.Test.YtmkijbfiilpccaaGreatRsGAdd
import Derived.Test.YtmkijbfiilpccaaGreatRsEdges
set_option linter.unusedSimpArgs false
set_option linter.unusedVariables false
namespace Go.Proofs.YtmkijbfiilpccaaGreat.Abs
open Go.RowKit
open R (val row ref)
theorem dec_enc {n : Int} (h0 : 0 ≤ n) (h1 : n ≤ 1000000) (r : List Int) : dec (enc n ++ r) = some (n,(enc n).length):=by
 unfold enc dec
 rw [if_neg oM]
 split
 ·simp [decF]
  rw [if_neg oM,if_pos h1]
 ·split
  ·simp only [List.cons_append,List.nil_append,decF]
   rw [if_pos oM,if_neg oM,if_neg oM,if_pos oM]
   simp; omega
  ·simp only [List.cons_append,List.nil_append,decF]
   rw [if_pos oM,if_pos oM,if_neg oM,if_neg oM,if_pos oM]
   simp; omega
theorem Zcu (n : Int) : ∀ z ∈ enc n,0 ≤ z ∧ z ≤ 255:=by
 unfold enc
 split
 ·simp
 ·split
  ·intro z hz; simp at hz; omega
  ·split
   ·intro z hz; simp at hz; omega
   ·intro z hz; simp at hz; omega
theorem Zci {l : List Int} (h : ∀ z ∈ l,0 ≤ z ∧ z ≤ 255) (hl : l.length ≤ 2000) : bytesOk l = true:=by
 simp [bytesOk,hl,byteOk]
 intro z hz
 exact h z hz
theorem enc1 {n a : Int} (h : n = a) (h0 : 0 ≤ a) (h1 : a < 128) : enc n = [a]:=by
 subst h
 unfold enc
 rw [if_neg oM,if_pos oM]
theorem enc2 {n a b : Int} (h : n = a - 128 + b * 128) (h0 : 128 ≤ a) (h1 : a ≤ 255) (h2 : 0 < b) (h3 : b < 128) : enc n = [a,b]:=by
 unfold enc
 rw [if_neg oM,if_neg oM,if_pos oM,show n % 128 + 128 = a by omega,show n / 128 = b by omega]
theorem enc3 {n a b c : Int} (h : n = a - 128 + (b - 128) * 128 + c * 16384) (h0 : 128 ≤ a) (h1 : a ≤ 255) (h2 : 128 ≤ b) (h3 : b ≤ 255) (h4 : 0 < c) (h5 : n ≤ 1000000) : enc n = [a,b,c]:=by
 unfold enc
 rw [if_neg oM,if_neg oM,if_neg oM,show n % 128 + 128 = a by omega,show n / 128 % 128 + 128 = b by omega,show n / 128 / 128 = c by omega]
theorem dec_canon {l : List Int} {n : Int} {k : Nat} (hb : ∀ z ∈ l,0 ≤ z ∧ z ≤ 255) (h : dec l = some (n,k)) : l.take k = enc n ∧ k ≤ l.length ∧ 0 < k ∧ 0 ≤ n ∧ n ≤ 1000000:=by
 unfold dec at h
 rcases l with _ | ⟨a,l⟩
 ·simp [decF] at h
 have ha:=hb a (by simp)
 simp only [decF] at h
 by_cases h1 : 128 ≤ a
 ·rw [if_pos h1] at h
  rcases l with _ | ⟨b,l⟩
  ·simp [decF] at h
  have hb':=hb b (by simp)
  simp only [decF] at h
  by_cases h2 : 128 ≤ b
  ·rw [if_pos h2] at h
   rcases l with _ | ⟨c,l⟩
   ·simp [decF] at h
   have hc:=hb c (by simp)
   simp only [decF] at h
   by_cases h3 : 128 ≤ c
   ·rw [if_pos h3] at h; cases h
   rw [if_neg h3] at h
   split at h
   ·cases h
   ·split at h
    ·injection h with h
     injection h with h4 h5
     subst h5
     rename_i hz hle
     refine ⟨?_,by simp,by omega,by omega,by omega⟩
     rw [enc3 (a:=a) (b:=b) (c:=c) oM h1 oM h2 oM oM oM]
     simp
    ·cases h
  ·rw [if_neg h2] at h
   split at h
   ·cases h
   ·split at h
    ·injection h with h
     injection h with h4 h5
     subst h5
     rename_i hz hle
     refine ⟨?_,by simp,by omega,by omega,by omega⟩
     rw [enc2 (a:=a) (b:=b) oM h1 oM oM oM]
     simp
    ·cases h
 ·rw [if_neg h1] at h
  split at h
  ·cases h
  ·split at h
   ·injection h with h
    injection h with h4 h5
    subst h5
    refine ⟨?_,by simp,by omega,by omega,by omega⟩
    rw [enc1 (a:=a) oM oM oM]
    simp
   ·cases h
theorem decAt_canon {xs : List Int} {i n j : Int} (h : decAt xs i = some (n,j)) : 0 ≤ i ∧ i < j ∧ j ≤ xs.length ∧ (xs.drop i.toNat).take (j.toNat - i.toNat) = enc n:=by
 unfold decAt at h
 split at h
 ·rename_i hc
  obtain ⟨h1,h2,h3⟩:=hc
  cases hd : dec (xs.drop i.toNat) with
  | none=>rw [hd] at h; cases h
  | some p =>
   obtain ⟨m,k⟩:=p
   rw [hd] at h
   simp at h
   obtain ⟨rfl,rfl⟩:=h
   have hb : ∀ z ∈ xs.drop i.toNat,0 ≤ z ∧ z ≤ 255:=fun z hz=>by
    obtain ⟨q,hq,rfl⟩:=List.getElem_of_mem (List.mem_of_mem_drop hz)
    exact Zbt h1 q hq
   obtain ⟨c1,c2,c3,c4,c5⟩:=dec_canon hb hd
   rw [List.length_drop] at c2
   refine ⟨h2,by omega,by omega,?_⟩
   rw [show (i + (k : Int)).toNat - i.toNat = k by omega]
   exact c1
 ·cases h
def fits (n : Int) : Bool:=decide (0 ≤ n ∧ n ≤ 1000000)
def edgeB (a b c : Int) : List Int:=if fits a && fits b && fits c then enc a ++ enc b ++ enc c else []
theorem decAt_canon2 {xs : List Int} {i n j : Int} (h : decAt xs i = some (n,j)) : 0 ≤ i ∧ i < j ∧ j ≤ xs.length ∧ (xs.drop i.toNat).take (j.toNat - i.toNat) = enc n ∧ fits n = true:=by
 obtain ⟨h1,h2,h3,h4⟩:=decAt_canon h
 refine ⟨h1,h2,h3,h4,?_⟩
 by_cases hf : 0 ≤ n ∧ n ≤ 1000000
 ·simp [fits,hf]
 ·exfalso
  rw [enc_no oM] at h4
  have:=congrArg List.length h4
  simp at this
  omega
theorem enc_one {n : Int} (h0 : 0 ≤ n) (h1 : n ≤ 1000000) {l r : List Int} (hb : bytesOk (l ++ (enc n ++ r)) = true) : decAt (l ++ (enc n ++ r)) (l.length : Int) = some (n,((l.length + (enc n).length : Nat) : Int)):=by
 have hp:=enc_pos h0 h1
 rw [decAt_yes hb (by simp; omega),List.drop_left,dec_enc h0 h1 r]
 simp
theorem readE_edgeB {a b c : Int} (ha : fits a = true) (hb : fits b = true) (hc : fits c = true) : readE (enc a ++ enc b ++ enc c) = some (a,b,c):=by
 simp only [fits,decide_eq_true_eq] at ha hb hc
 have h1:=Zbj a
 have h2:=Zbj b
 have h3:=Zbj c
 have hok : bytesOk (enc a ++ enc b ++ enc c) = true:=Zci (fun z hz=>by
  simp only [List.mem_append] at hz
  rcases hz with (hz | hz) | hz
  ·exact Zcu a z hz
  ·exact Zcu b z hz
  ·exact Zcu c z hz) (by simp; omega)
 have d1:=enc_one (l:=[]) (r:=enc b ++ enc c) ha.1 ha.2 (by simpa using hok)
 have d2:=enc_one (l:=enc a) (r:=enc c) hb.1 hb.2 (by simpa using hok)
 have d3:=enc_one (l:=enc a ++ enc b) (r:=[]) hc.1 hc.2 (by simpa using hok)
 simp only [List.nil_append,List.append_nil,List.length_nil,List.append_assoc,Nat.zero_add,List.length_append] at d1 d2 d3
 unfold readE
 rw [List.append_assoc,show (0 : Int) = ((0 : Nat) : Int) from rfl,d1]
 simp only []
 rw [d2]
 simp only []
 rw [d3]
 simp only []
 rw [if_pos (by simp; omega)]
theorem edgeB_len (a b c : Int) : (edgeB a b c).length ≤ 9:=by
 have h1:=Zbj a
 have h2:=Zbj b
 have h3:=Zbj c
 unfold edgeB
 split<;>simp<;>omega
theorem sumOf_bd {xs : List Int} (h : bytesOk xs = true) : 0 ≤ sumOf xs ∧ sumOf xs ≤ 250:=by
 unfold sumOf
 rw [if_pos h]
 have : ∀ (l : List Int) (s : Int),0 ≤ s ∧ s ≤ 250 → 0 ≤ l.foldl sumStep s ∧ l.foldl sumStep s ≤ 250:=by
  intro l
  induction l with
  | nil=>intro s hs; exact hs
  | cons z l ih=>intro s _; exact ih _ (Zdm s z)
 exact this xs 7 oM
theorem bytesOk_sub {xs ys : List Int} (h : bytesOk xs = true) (hs : ∀ z ∈ ys,z ∈ xs) (hl : ys.length ≤ xs.length) : bytesOk ys = true:=by
 have h1:=Zb2 h
 refine Zci (fun z hz=>?_) oM
 obtain ⟨k,hk,rfl⟩:=List.getElem_of_mem (hs z hz)
 exact Zbt h k hk
theorem Zdn {xs : List Int} (h : bytesOk xs = true) {z : Int} (hz : z ∈ xs) : 0 ≤ z ∧ z ≤ 255:=by
 obtain ⟨k,hk,rfl⟩:=List.getElem_of_mem hz
 exact Zbt h k hk
theorem bodyOk_len {b : List Int} (h : bodyOk b = true) : 1 ≤ b.length ∧ b.length ≤ 100:=by
 unfold bodyOk at h
 simp only [Bool.and_eq_true,decide_eq_true_eq] at h
 exact ⟨h.1.2,h.2⟩
theorem bodyOk_bytes {b : List Int} (h : bodyOk b = true) : bytesOk b = true:=by
 unfold bodyOk at h
 simp only [Bool.and_eq_true,decide_eq_true_eq] at h
 exact h.1.1
theorem frame_eq {b : List Int} (h : bodyOk b = true) : frameOf b = (b.length : Int) :: b ++ [sumOf b]:=by
 unfold frameOf; rw [if_pos h]
theorem frame_bytes (b : List Int) : ∀ z ∈ frameOf b,0 ≤ z ∧ z ≤ 255:=by
 intro z hz
 cases h : bodyOk b with
 | false=>unfold frameOf at hz; rw [if_neg (by rw [h]; simp)] at hz; cases hz
 | true =>
  rw [frame_eq h] at hz
  have h1:=bodyOk_len h
  have h2:=sumOf_bd (bodyOk_bytes h)
  simp only [List.cons_append,List.mem_cons,List.mem_append,List.not_mem_nil,or_false] at hz
  rcases hz with rfl | hz | rfl
  ·omega
  ·exact Zdn (bodyOk_bytes h) hz
  ·omega
def frHd : List Int → Option (List Int)
 | []=>none
 | n :: r=>if 1 ≤ n ∧ n ≤ 100 ∧ n < (r.length : Int) ∧ r.getD n.toNat 0 = sumOf (r.take n.toNat) then some (r.take n.toNat) else none
theorem frHd_some {xs b : List Int} (hx : bytesOk xs = true) (h : frHd xs = some b) : bodyOk b = true ∧ ∃ r,xs = frameOf b ++ r:=by
 cases xs with
 | nil=>cases h
 | cons n r =>
  simp only [frHd] at h
  split at h
  ·rename_i hc
   obtain ⟨h1,h2,h3,h4⟩:=hc
   injection h with h
   subst h
   obtain ⟨N,rfl⟩:=Int.eq_ofNat_of_zero_le (show 0 ≤ n by omega)
   simp only [Int.toNat_natCast] at h4 ⊢
   have hN : N < r.length:=by omega
   have hl : (r.take N).length = N:=by rw [List.length_take]; omega
   have hb : bytesOk (r.take N) = true:=bytesOk_sub hx (fun z hz=>List.mem_cons_of_mem _ (List.mem_of_mem_take hz)) (by rw [hl,List.length_cons]; omega)
   have ho : bodyOk (r.take N) = true:=by unfold bodyOk; rw [hb,hl]; simp; omega
   refine ⟨ho,r.drop (N + 1),?_⟩
   rw [frame_eq ho,hl,← h4]
   rw [List.getD_eq_getElem?_getD,List.getElem?_eq_getElem hN,Option.getD_some]
   simp only [List.cons_append,List.append_assoc,List.nil_append,List.cons.injEq,true_and]
   rw [← List.drop_eq_getElem_cons hN,List.take_append_drop]
  ·cases h
def scan : Nat → List Int → List (List Int) × Nat
 | 0,_=>([],0)
 | f + 1,xs=>match frHd xs with
  | none=>([],0)
  | some b=>(b :: (scan f (xs.drop (b.length + 2))).1,b.length + 2 + (scan f (xs.drop (b.length + 2))).2)
def scanF (xs : List Int) : List (List Int) × Nat:=scan (xs.length + 1) xs
theorem scan_fuel : ∀ (f : Nat) (xs : List Int),xs.length < f → scan f xs = scan (xs.length + 1) xs
 | 0,xs,h=>by omega
 | f + 1,xs,h=>by
  simp only [scan]
  cases hh : frHd xs with
  | none=>rfl
  | some b =>
   simp only
   have hd : (xs.drop (b.length + 2)).length < xs.length:=by
    cases xs with
    | nil=>cases hh
    | cons n r=>simp; omega
   rw [scan_fuel f _ oM,scan_fuel xs.length _ hd]
theorem scanF_none {xs : List Int} (h : frHd xs = none) : scanF xs = ([],0):=by unfold scanF; simp only [scan,h]
theorem scanF_some {xs b : List Int} (h : frHd xs = some b) : scanF xs = (b :: (scanF (xs.drop (b.length + 2))).1,b.length + 2 + (scanF (xs.drop (b.length + 2))).2):=by
 have hd : (xs.drop (b.length + 2)).length < xs.length:=by
  cases xs with
  | nil=>cases h
  | cons n r=>simp; omega
 have e:=scan_fuel xs.length _ hd
 unfold scanF
 rw [← e]
 simp only [scan,h]
def joined (bs : List (List Int)) : List Int:=bs.flatMap frameOf
theorem joined_cons (b : List Int) (bs : List (List Int)) : joined (b :: bs) = frameOf b ++ joined bs:=rfl
theorem scanF_inv : ∀ (n : Nat) (xs : List Int),xs.length ≤ n → bytesOk xs = true → (∀ b ∈ (scanF xs).1,bodyOk b = true) ∧ (scanF xs).2 = (joined (scanF xs).1).length ∧ ∃ r,xs = joined (scanF xs).1 ++ r ∧ frHd r = none
 | n,xs,hn,hx=>by
  cases hh : frHd xs with
  | none=>rw [scanF_none hh]; exact ⟨by simp,rfl,xs,rfl,hh⟩
  | some b =>
   obtain ⟨hb,r,hr⟩:=frHd_some hx hh
   have hf:=frame_pos hb
   have hd : xs.drop (b.length + 2) = r:=by rw [hr,← hf,List.drop_left]
   have hlen : xs.length = b.length + 2 + r.length:=by rw [hr,List.length_append,hf]
   cases n with
   | zero=>omega
   | succ n =>
    obtain ⟨i1,i2,r',i3,i4⟩:=scanF_inv n r oM (bytesOk_sub hx (fun z hz=>by rw [hr]; simp [hz]) oM)
    rw [scanF_some hh,hd]
    refine ⟨?_,?_,r',?_,i4⟩
    ·intro z hz
     simp only [List.mem_cons] at hz
     rcases hz with rfl | hz
     ·exact hb
     ·exact i1 z hz
    ·simp only [joined_cons,List.length_append,hf,i2]
    ·conv=>lhs; rw [hr]
     simp only [joined_cons,List.append_assoc]
     rw [← i3]
theorem scanF_le {xs : List Int} (hx : bytesOk xs = true) : (scanF xs).2 ≤ xs.length:=by
 obtain ⟨h1,h2,r,h3,h4⟩:=scanF_inv xs.length xs (Nat.le_refl _) hx
 have h5:=congrArg List.length h3
 rw [List.length_append] at h5
 omega
theorem gOk_mC {m : Int} {es : List E3} (h : gOk m es = true) : 0 ≤ m ∧ m ≤ 16 ∧ es.length ≤ 40:=by
 unfold gOk at h; simp at h; omega
end Go.Proofs.YtmkijbfiilpccaaGreat.Abs
