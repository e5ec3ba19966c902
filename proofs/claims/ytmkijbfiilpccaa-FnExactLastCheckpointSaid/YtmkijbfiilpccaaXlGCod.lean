/- Numbers, edges and frames as bytes: plain lemmas. No statement of the seat is proved here. -/
import Derived.Lib.Hide
import Derived.Test.YtmkijbfiilpccaaXlTy
import Derived.Test.YtmkijbfiilpccaaXlCodes3
import Derived.Test.YtmkijbfiilpccaaXlFrames2
import Derived.Test.YtmkijbfiilpccaaXlGValid
import Derived.Test.YtmkijbfiilpccaaXlAGraph
import Derived.Test.YtmkijbfiilpccaaXlHopsR
import Derived.Test.YtmkijbfiilpccaaXlEdges
set_option linter.unusedSimpArgs false
set_option linter.unusedVariables false
namespace Go.Proofs.Ytmkijbfiilpccaa.Abs
open Go.RowKit
open R (val row ref)
theorem dec_enc {n : Int} (h0 : 0 ≤ n) (h1 : n ≤ 1000000) (r : List Int) : dec (enc n ++ r) = some (n,(enc n).length):=by
 unfold enc dec
 rw [if_neg oM]
 split
 ·simp [decF]
  rw [if_neg oM,if_pos h1]
 ·split
  ·simp only [List.cons_append,List.nil_append,decF]
   rw [if_pos oM,if_neg oM,if_neg oM,if_pos oM]
   simp; omega
  ·simp only [List.cons_append,List.nil_append,decF]
   rw [if_pos oM,if_pos oM,if_neg oM,if_neg oM,if_pos oM]
   simp; omega
theorem Zbg (n : Int) : ∀ z ∈ enc n,0 ≤ z ∧ z ≤ 255:=by
 unfold enc
 split
 ·simp
 ·split
  ·intro z hz; simp at hz; omega
  ·split
   ·intro z hz; simp at hz; omega
   ·intro z hz; simp at hz; omega
theorem bytesOk_of {l : List Int} (h : ∀ z ∈ l,0 ≤ z ∧ z ≤ 255) (hl : l.length ≤ 2000) : bytesOk l = true:=by
 simp [bytesOk,hl,byteOk]
 intro z hz
 exact h z hz
theorem enc1 {n a : Int} (h : n = a) (h0 : 0 ≤ a) (h1 : a < 128) : enc n = [a]:=by
 subst h
 unfold enc
 rw [if_neg oM,if_pos oM]
theorem enc2 {n a b : Int} (h : n = a - 128 + b * 128) (h0 : 128 ≤ a) (h1 : a ≤ 255) (h2 : 0 < b) (h3 : b < 128) : enc n = [a,b]:=by
 unfold enc
 rw [if_neg oM,if_neg oM,if_pos oM,show n % 128 + 128 = a by omega,show n / 128 = b by omega]
theorem enc3 {n a b c : Int} (h : n = a - 128 + (b - 128) * 128 + c * 16384) (h0 : 128 ≤ a) (h1 : a ≤ 255) (h2 : 128 ≤ b) (h3 : b ≤ 255) (h4 : 0 < c) (h5 : n ≤ 1000000) : enc n = [a,b,c]:=by
 unfold enc
 rw [if_neg oM,if_neg oM,if_neg oM,show n % 128 + 128 = a by omega,show n / 128 % 128 + 128 = b by omega,show n / 128 / 128 = c by omega]
theorem dec_canon {l : List Int} {n : Int} {k : Nat} (hb : ∀ z ∈ l,0 ≤ z ∧ z ≤ 255) (h : dec l = some (n,k)) : l.take k = enc n ∧ k ≤ l.length ∧ 0 < k ∧ 0 ≤ n ∧ n ≤ 1000000:=by
 unfold dec at h
 rcases l with _ | ⟨a,l⟩
 ·simp [decF] at h
 have ha:=hb a (by simp)
 simp only [decF] at h
 by_cases h1 : 128 ≤ a
 ·rw [if_pos h1] at h
  rcases l with _ | ⟨b,l⟩
  ·simp [decF] at h
  have hb':=hb b (by simp)
  simp only [decF] at h
  by_cases h2 : 128 ≤ b
  ·rw [if_pos h2] at h
   rcases l with _ | ⟨c,l⟩
   ·simp [decF] at h
   have hc:=hb c (by simp)
   simp only [decF] at h
   by_cases h3 : 128 ≤ c
   ·rw [if_pos h3] at h; cases h
   rw [if_neg h3] at h
   split at h
   ·cases h
   ·split at h
    ·injection h with h
     injection h with h4 h5
     subst h5
     rename_i hz hle
     refine ⟨?_,by simp,by omega,by omega,by omega⟩
     rw [enc3 (a:=a) (b:=b) (c:=c) oM h1 oM h2 oM oM oM]
     simp
    ·cases h
  ·rw [if_neg h2] at h
   split at h
   ·cases h
   ·split at h
    ·injection h with h
     injection h with h4 h5
     subst h5
     rename_i hz hle
     refine ⟨?_,by simp,by omega,by omega,by omega⟩
     rw [enc2 (a:=a) (b:=b) oM h1 oM oM oM]
     simp
    ·cases h
 ·rw [if_neg h1] at h
  split at h
  ·cases h
  ·split at h
   ·injection h with h
    injection h with h4 h5
    subst h5
    refine ⟨?_,by simp,by omega,by omega,by omega⟩
    rw [enc1 (a:=a) oM oM oM]
    simp
   ·cases h
theorem decAt_canon {xs : List Int} {i n j : Int} (h : decAt xs i = some (n,j)) : 0 ≤ i ∧ i < j ∧ j ≤ xs.length ∧ (xs.drop i.toNat).take (j.toNat - i.toNat) = enc n:=by
 unfold decAt at h
 split at h
 ·rename_i hc
  obtain ⟨h1,h2,h3⟩:=hc
  cases hd : dec (xs.drop i.toNat) with
  | none=>rw [hd] at h; cases h
  | some p =>
   obtain ⟨m,k⟩:=p
   rw [hd] at h
   simp at h
   obtain ⟨rfl,rfl⟩:=h
   have hb : ∀ z ∈ xs.drop i.toNat,0 ≤ z ∧ z ≤ 255:=fun z hz=>by
    obtain ⟨q,hq,rfl⟩:=List.getElem_of_mem (List.mem_of_mem_drop hz)
    exact Zbq h1 q hq
   obtain ⟨c1,c2,c3,c4,c5⟩:=dec_canon hb hd
   rw [List.length_drop] at c2
   refine ⟨h2,by omega,by omega,?_⟩
   rw [show (i + (k : Int)).toNat - i.toNat = k by omega]
   exact c1
 ·cases h
def fits (n : Int) : Bool:=decide (0 ≤ n ∧ n ≤ 1000000)
def edgeB (a b c : Int) : List Int:=if fits a && fits b && fits c then enc a ++ enc b ++ enc c else []
theorem decAt_canon2 {xs : List Int} {i n j : Int} (h : decAt xs i = some (n,j)) : 0 ≤ i ∧ i < j ∧ j ≤ xs.length ∧ (xs.drop i.toNat).take (j.toNat - i.toNat) = enc n ∧ fits n = true:=by
 obtain ⟨h1,h2,h3,h4⟩:=decAt_canon h
 refine ⟨h1,h2,h3,h4,?_⟩
 by_cases hf : 0 ≤ n ∧ n ≤ 1000000
 ·simp [fits,hf]
 ·exfalso
  rw [enc_no oM] at h4
  have:=congrArg List.length h4
  simp at this
  omega
theorem enc_one {n : Int} (h0 : 0 ≤ n) (h1 : n ≤ 1000000) {l r : List Int} (hb : bytesOk (l ++ (enc n ++ r)) = true) : decAt (l ++ (enc n ++ r)) (l.length : Int) = some (n,((l.length + (enc n).length : Nat) : Int)):=by
 have hp:=enc_pos h0 h1
 rw [decAt_yes hb (by simp; omega),List.drop_left,dec_enc h0 h1 r]
 simp
theorem readE_edgeB {a b c : Int} (ha : fits a = true) (hb : fits b = true) (hc : fits c = true) : readE (enc a ++ enc b ++ enc c) = some (a,b,c):=by
 simp only [fits,decide_eq_true_eq] at ha hb hc
 have h1:=Zau a
 have h2:=Zau b
 have h3:=Zau c
 have hok : bytesOk (enc a ++ enc b ++ enc c) = true:=bytesOk_of (fun z hz=>by
  simp only [List.mem_append] at hz
  rcases hz with (hz | hz) | hz
  ·exact Zbg a z hz
  ·exact Zbg b z hz
  ·exact Zbg c z hz) (by simp; omega)
 have d1:=enc_one (l:=[]) (r:=enc b ++ enc c) ha.1 ha.2 (by simpa using hok)
 have d2:=enc_one (l:=enc a) (r:=enc c) hb.1 hb.2 (by simpa using hok)
 have d3:=enc_one (l:=enc a ++ enc b) (r:=[]) hc.1 hc.2 (by simpa using hok)
 simp only [List.nil_append,List.append_nil,List.length_nil,List.append_assoc,Nat.zero_add,List.length_append] at d1 d2 d3
 unfold readE
 rw [List.append_assoc,show (0 : Int) = ((0 : Nat) : Int) from rfl,d1]
 simp only []
 rw [d2]
 simp only []
 rw [d3]
 simp only []
 rw [if_pos (by simp; omega)]
theorem edgeB_len (a b c : Int) : (edgeB a b c).length ≤ 9:=by
 have h1:=Zau a
 have h2:=Zau b
 have h3:=Zau c
 unfold edgeB
 split<;>simp<;>omega
end Go.Proofs.Ytmkijbfiilpccaa.Abs
