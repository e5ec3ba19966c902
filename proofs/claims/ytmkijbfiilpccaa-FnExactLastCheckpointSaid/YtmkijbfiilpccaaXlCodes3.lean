/- Numbers as bytes: what the tests, the writers and the readers of codes return. No statement of the seat is proved here. -/
import Derived.Test.YtmkijbfiilpccaaRows
import Derived.WalkKit
import Derived.WalkSpells
import Derived.WalkLawsBesides
import Derived.Lib.Hide
import Derived.Handy
import Derived.BigQuiet
import Derived.Deep.QuietTactic
import Derived.Test.YtmkijbfiilpccaaXlLib
import Derived.Test.YtmkijbfiilpccaaXlOwn
import Derived.Test.YtmkijbfiilpccaaXlJobs
set_option linter.unusedSimpArgs false
set_option linter.unusedVariables false
set_option maxRecDepth 100000
set_option maxHeartbeats 1000000
namespace Go.Proofs.Ytmkijbfiilpccaa
open Go.RowKit
theorem sz_int (w : World) : (sizeOf 3).run Try.prog w = .ok 1 w:=by kernel_rfl
theorem el_int : El Try.prog 24 3 1 8 (.int .i64 0):=⟨Try.underlying24,info_parts (by kernel_rfl),rfl,by omega⟩
def byteOk (z : Int) : Bool:=decide (0 ≤ z) && decide (z ≤ 255)
def bytesOk (l : List Int) : Bool:=decide (l.length ≤ 2000) && l.all byteOk
theorem implBytesValid (ao : Option Addr) (b o c : Nat) (xs : List Int) (w : World) (hl : xs.length ≤ maxLen) (ha : At ao b o xs.length) (h : Ints w b o xs) :
  Calls Try.prog 77 #[.slice ao xs.length c] w fun e w'=>e = .returned (.bool (bytesOk xs)) ∧ w = w':=by
 unfold maxLen at hl
 have hix:=ha.ix (c:=c) Try.underlying24 sz_int
 by_cases h2 : xs.length ≤ 2000
 ·have HR : Hid (bytesOk xs = (xs.drop 0).all byteOk):=by simp [Hid,bytesOk,h2]
  go_enter Try.func77,Try.ntmps77
  go_wp2
  go_loop [4,10] (fun _ i=>∃ k : Nat,k ≤ xs.length ∧ i = .int .i64 k ∧ Hid (bytesOk xs = (xs.drop k).all byteOk)) (fun _ i=>xs.length - (intOf i).toNat)
  case atStart=>exact ⟨0,Nat.zero_le _,rfl,HR⟩
  case round =>
   obtain ⟨k,hk,rfl,HP⟩:=hrel
   clear HR
   by_cases hlt : k < xs.length
   ·have hc:=h k hlt
    have HD : Hid (xs.drop k = xs[k] :: xs.drop (k + 1)):=List.drop_eq_getElem_cons hlt
    go_wp2
    ·go_ret
     have HB : byteOk xs[k] = false:=by simp [byteOk]; intros; omega
     exact ⟨Zbb (by rw [HP.out,HD.out,List.all_cons,HB,Bool.false_and]),rfl⟩
    ·go_round
     case rel =>
      have HB : byteOk xs[k] = true:=by simp [byteOk]; omega
      exact ⟨k + 1,by omega,by go_num,by have h1:=HP.out; rw [HD.out,List.all_cons,HB,Bool.true_and] at h1; exact h1⟩
     case measure=>simp [intOf]; omega
    ·go_ret
     have HB : byteOk xs[k] = false:=by simp [byteOk]; intros; omega
     exact ⟨Zbb (by rw [HP.out,HD.out,List.all_cons,HB,Bool.false_and]),rfl⟩
   ·go_wp2
    go_ret
    exact ⟨Zbb (by rw [HP.out,List.drop_of_length_le (by omega)]; rfl),rfl⟩
 ·go_enter Try.func77,Try.ntmps77
  go_wp2
  go_ret
  exact ⟨Zbb (by simp [bytesOk,h2]),rfl⟩
theorem specBytesValid (ao : Option Addr) (b o c : Nat) (xs : List Int) (w : World) (hl : xs.length ≤ maxLen) (ha : At ao b o xs.length) (h : Ints w b o xs) :
  Calls Try.prog 82 #[.slice ao xs.length c] w fun e w'=>e = .returned (.bool (bytesOk xs)) ∧ w = w':=by
 unfold maxLen at hl
 have hix:=ha.ix (c:=c) Try.underlying24 sz_int
 go_enter Try.func82,Try.ntmps82
 go_wp2
 go_loop [3] (fun i=>∃ k : Nat,k ≤ xs.length ∧ i = .int .i64 k ∧ Hid (xs.all byteOk = (xs.drop k).all byteOk)) (fun i=>xs.length - (intOf i).toNat)
 case atStart=>exact ⟨0,Nat.zero_le _,rfl,rfl⟩
 case round =>
  obtain ⟨k,hk,rfl,HP⟩:=hrel
  by_cases hlt : k < xs.length
  ·have hc:=h k hlt
   have HD : Hid (xs.drop k = xs[k] :: xs.drop (k + 1)):=List.drop_eq_getElem_cons hlt
   by_cases hb : 0 ≤ xs[k] ∧ xs[k] ≤ 255
   ·go_wp2_with (first|(go_at_call 49;refine (specL1In _ _ _ _).mono ?_;rintro e w1 ⟨rfl,rfl⟩))
    go_round
    case rel =>
     have HB : byteOk xs[k] = true:=by simp [byteOk]; omega
     exact ⟨k + 1,by omega,by go_num,by have h1:=HP.out; rw [HD.out,List.all_cons,HB,Bool.true_and] at h1; exact h1⟩
    case measure=>simp [intOf]; omega
   ·go_wp2_with (first|(go_at_call 49;refine (specL1In _ _ _ _).mono ?_;rintro e w1 ⟨rfl,rfl⟩))
    go_ret
    have HB : byteOk xs[k] = false:=by simp [byteOk]; intros; omega
    exact ⟨Zbb (by unfold bytesOk; rw [HP.out,HD.out,List.all_cons,HB,Bool.false_and,Bool.and_false]),rfl⟩
  ·go_wp2
   all_goals
    go_ret
    exact ⟨Zbb (by unfold bytesOk; rw [HP.out,List.drop_of_length_le (by omega)]; simp; try omega),rfl⟩
theorem Zbq {l : List Int} (h : bytesOk l = true) (k : Nat) (hk : k < l.length) : 0 ≤ l[k] ∧ l[k] ≤ 255:=by
 simp [bytesOk] at h
 have:=h.2 l[k] (List.getElem_mem hk)
 simpa [byteOk] using this
theorem bytesOk_len {l : List Int} (h : bytesOk l = true) : l.length ≤ 2000:=by
 simp [bytesOk] at h
 exact h.1
def enc (n : Int) : List Int :=
 if n < 0 ∨ 1000000 < n then [] else if n < 128 then [n] else if n < 16384 then [n % 128 + 128,n / 128] else [n % 128 + 128,n / 128 % 128 + 128,n / 128 / 128]
theorem enc_step {m : Int} (h0 : 128 ≤ m) (h1 : m ≤ 1000000) : enc m = (m % 128 + 128) :: enc (m / 128):=by
 unfold enc
 by_cases h : m < 16384
 ·rw [if_neg (by omega),if_neg (by omega),if_pos h,if_neg (by omega),if_pos (by omega)]
 ·rw [if_neg (by omega),if_neg (by omega),if_neg h,if_neg (by omega),if_neg (by omega),if_pos (by omega)]
theorem enc_last {m : Int} (h0 : 0 ≤ m) (h1 : m < 128) : enc m = [m]:=by
 unfold enc
 rw [if_neg (by omega),if_pos h1]
theorem enc_no {m : Int} (h : m < 0 ∨ 1000000 < m) : enc m = []:=by unfold enc; rw [if_pos h]
theorem Zau (n : Int) : (enc n).length ≤ 3:=by
 unfold enc
 split
 ·simp
 ·split
  ·simp
  ·split<;>simp
theorem enc_pos {n : Int} (h0 : 0 ≤ n) (h1 : n ≤ 1000000) : 0 < (enc n).length:=by
 unfold enc
 rw [if_neg (by omega)]
 split
 ·simp
 ·split<;>simp
def decF : Nat → Nat → Int → Int → List Int → Option (Int × Nat)
 | 0,_,_,_,_=>none
 | _ + 1,_,_,_,[]=>none
 | f + 1,d,n,s,b :: t=>if 128 ≤ b then decF f (d + 1) (n + (b - 128) * s) (s * 128) t else if b = 0 ∧ 0 < d then none else if n + b * s ≤ 1000000 then some (n + b * s,d + 1) else none
def dec (l : List Int) : Option (Int × Nat):=decF 3 0 0 1 l
structure Rdr (w : World) (rb : Nat) (s : Value) (at_ : Int) : Prop where
 c0 : w.cell? ⟨rb,0,none⟩ = some s
 c1 : w.cell? ⟨rb,1,none⟩ = some (.int .i64 at_)
 f1 : w.frozen? ⟨rb,1,none⟩ = false
def decAt (xs : List Int) (i : Int) : Option (Int × Int) :=
 if bytesOk xs = true ∧ 0 ≤ i ∧ i < xs.length then (dec (xs.drop i.toNat)).map fun p=>(p.1,i + p.2) else none
def decVal : Option (Int × Int) → Value
 | some (n,j)=>.tuple #[.int .i64 n,.int .i64 j,.bool true]
 | none=>.tuple #[.int .i64 0,.int .i64 0,.bool false]
theorem tup3 {a a' b b' : Int} (h : a = a') (h' : b = b') : Value.tuple #[.int .i64 a,.int .i64 b,.bool true] = .tuple #[.int .i64 a',.int .i64 b',.bool true]:=by rw [h,h']
theorem specL1Decode (ao : Option Addr) (c b o : Nat) (xs : List Int) (i : Nat) (w : World) (hi : i < xs.length) (hl : xs.length ≤ 2000) (ha : At ao b o xs.length) (hin : Ints w b o xs)
  (hby : ∀ k (h : k < xs.length),0 ≤ xs[k] ∧ xs[k] ≤ 255) :
  Calls Try.prog 83 #[.slice ao xs.length c,.int .i64 i] w fun e w'=>e = .returned (decVal ((dec (xs.drop i)).map fun p=>(p.1,(i : Int) + p.2))) ∧ w = w':=by
 have hix:=ha.ix (c:=c) Try.underlying24 sz_int
 go_enter Try.func83,Try.ntmps83
 go_wp2
 go_loop [7,8,9] (fun n s k =>
   (∃ N : Int,N = 0 ∧ n = .int .i64 N ∧ s = .int .i64 1 ∧ k = .int .i64 i ∧ Hid (dec (xs.drop i) = decF 3 0 N 1 (xs.drop i))) ∨
   (∃ N : Int,0 ≤ N ∧ N ≤ 127 ∧ i + 1 ≤ xs.length ∧ n = .int .i64 N ∧ s = .int .i64 128 ∧ k = .int .i64 ((i + 1 : Nat) : Int) ∧ Hid (dec (xs.drop i) = decF 2 1 N 128 (xs.drop (i + 1)))) ∨
   (∃ N : Int,0 ≤ N ∧ N ≤ 16383 ∧ i + 2 ≤ xs.length ∧ n = .int .i64 N ∧ s = .int .i64 16384 ∧ k = .int .i64 ((i + 2 : Nat) : Int) ∧ Hid (dec (xs.drop i) = decF 1 2 N 16384 (xs.drop (i + 2)))) ∨
   (∃ N S : Int,i + 3 ≤ xs.length ∧ n = .int .i64 N ∧ s = .int .i64 S ∧ k = .int .i64 ((i + 3 : Nat) : Int) ∧ Hid (dec (xs.drop i) = none)))
  (fun _ _ k=>(i + 3 - (intOf k).toNat))
 case atStart=>exact .inl ⟨0,rfl,rfl,rfl,rfl,rfl⟩
 case round =>
  rcases hrel with ⟨N,rfl,rfl,rfl,rfl,HP⟩ | ⟨N,hN0,hN1,hN2,rfl,rfl,rfl,HP⟩ | ⟨N,hN0,hN1,hN2,rfl,rfl,rfl,HP⟩ | ⟨N,S,h3,rfl,rfl,rfl,HP⟩
  ·by_cases hlt : i < xs.length
   ·obtain ⟨hb0,hb1⟩:=hby (i) hlt
    have HD : Hid (xs.drop (i) = xs[i] :: xs.drop (i + 1)):=List.drop_eq_getElem_cons hlt
    have hc:=hin (i) hlt
    rw [List.getD_eq_getElem?_getD,List.getElem?_eq_getElem hlt,Option.getD_some] at hc
    generalize xs[i] = z at *
    by_cases hbig : 128 ≤ z
    ·have hbig' : ¬ z < 128:=by omega
     have hrem : z.tmod 128 = z - 128:=by rw [Int.tmod_eq_emod_of_nonneg hb0]; omega
     go_wp2
     go_round
     case rel=>exact .inr (.inl ⟨0 + (z - 128) * 1,by omega,by omega,by omega,by congr 1; omega,rfl,by go_num,by unfold Hid; rw [HP.out,HD.out,decF,if_pos hbig]; rfl⟩)
     case measure=>simp [intOf]; try omega
    ·have hsm : z < 128:=by omega
     have hrem : z.tmod 128 = z:=by rw [Int.tmod_eq_emod_of_nonneg hb0]; omega
     go_wp2
     all_goals
      go_ret3
      exact ⟨by rw [HP.out,HD.out,decF,if_neg (show ¬ 128 ≤ z by omega),if_neg (by omega),if_pos (by omega)]; exact congrArg Ending.returned (tup3 (by omega) (by simp; try omega)),rfl⟩
   ·omega
  ·by_cases hlt : i + 1 < xs.length
   ·obtain ⟨hb0,hb1⟩:=hby (i + 1) hlt
    have HD : Hid (xs.drop (i + 1) = xs[i + 1] :: xs.drop (i + 2)):=List.drop_eq_getElem_cons hlt
    have hc:=hin (i + 1) hlt
    rw [List.getD_eq_getElem?_getD,List.getElem?_eq_getElem hlt,Option.getD_some] at hc
    generalize xs[i + 1] = z at *
    generalize hj : i + 1 = j at *
    have HJ:=Lib.hid hj
    have hj1 : i < j:=by omega
    have hj3 : (j : Int) < i + 3:=by omega
    clear hj
    by_cases hbig : 128 ≤ z
    ·have hbig' : ¬ z < 128:=by omega
     have hrem : z.tmod 128 = z - 128:=by rw [Int.tmod_eq_emod_of_nonneg hb0]; omega
     go_wp2
     go_round
     case rel=>exact .inr (.inr (.inl ⟨N + (z - 128) * 128,by omega,by omega,by omega,rfl,rfl,by have:=HJ.out; congr 1; omega,by unfold Hid; rw [HP.out,HD.out,decF,if_pos hbig]; rfl⟩))
     case measure=>simp [intOf]; try omega
    ·have hsm : z < 128:=by omega
     have hrem : z.tmod 128 = z:=by rw [Int.tmod_eq_emod_of_nonneg hb0]; omega
     by_cases hm : N + z * 128 ≤ 1000000
     ·by_cases hzero : z = 0
      ·subst hzero
       go_wp2
       all_goals
        go_ret3
        exact ⟨by rw [HP.out,HD.out,decF,if_neg (by omega),if_pos ⟨rfl,by omega⟩]; rfl,rfl⟩
      ·have hzb : (z == 0) = false:=by simp [hzero]
       go_wp2
       all_goals
        go_ret3
        exact ⟨by rw [HP.out,HD.out,decF,if_neg (show ¬ 128 ≤ z by omega),if_neg (by omega),if_pos (by omega)]; exact congrArg Ending.returned (tup3 (by omega) (by have:=HJ.out; simp; omega)),rfl⟩
     ·exfalso; omega
   ·go_wp2
    go_ret3
    exact ⟨by rw [HP.out,List.drop_of_length_le (by omega)]; rfl,rfl⟩
  ·by_cases hlt : i + 2 < xs.length
   ·obtain ⟨hb0,hb1⟩:=hby (i + 2) hlt
    have HD : Hid (xs.drop (i + 2) = xs[i + 2] :: xs.drop (i + 3)):=List.drop_eq_getElem_cons hlt
    have hc:=hin (i + 2) hlt
    rw [List.getD_eq_getElem?_getD,List.getElem?_eq_getElem hlt,Option.getD_some] at hc
    generalize xs[i + 2] = z at *
    generalize hj : i + 2 = j at *
    have HJ:=Lib.hid hj
    have hj1 : i < j:=by omega
    have hj3 : (j : Int) < i + 3:=by omega
    clear hj
    by_cases hbig : 128 ≤ z
    ·have hbig' : ¬ z < 128:=by omega
     have hrem : z.tmod 128 = z - 128:=by rw [Int.tmod_eq_emod_of_nonneg hb0]; omega
     go_wp2
     go_round
     case rel=>exact .inr (.inr (.inr ⟨N + (z - 128) * 16384,_,by have:=HJ.out; omega,rfl,rfl,by have:=HJ.out; congr 1; omega,by unfold Hid; rw [HP.out,HD.out,decF,if_pos hbig]; rfl⟩))
     case measure=>simp [intOf]; try omega
    ·have hsm : z < 128:=by omega
     have hrem : z.tmod 128 = z:=by rw [Int.tmod_eq_emod_of_nonneg hb0]; omega
     by_cases hm : N + z * 16384 ≤ 1000000
     ·by_cases hzero : z = 0
      ·subst hzero
       go_wp2
       all_goals
        go_ret3
        exact ⟨by rw [HP.out,HD.out,decF,if_neg (by omega),if_pos ⟨rfl,by omega⟩]; rfl,rfl⟩
      ·have hzb : (z == 0) = false:=by simp [hzero]
       go_wp2
       all_goals
        go_ret3
        exact ⟨by rw [HP.out,HD.out,decF,if_neg (show ¬ 128 ≤ z by omega),if_neg (by omega),if_pos (by omega)]; exact congrArg Ending.returned (tup3 (by omega) (by have:=HJ.out; simp; omega)),rfl⟩
     ·have hgt : ¬ z = 0:=by omega
      go_wp2
      all_goals
       go_ret3
       exact ⟨by rw [HP.out,HD.out,decF,if_neg (show ¬ 128 ≤ z by omega),if_neg (by omega),if_neg (by omega)]; rfl,rfl⟩
   ·go_wp2
    go_ret3
    exact ⟨by rw [HP.out,List.drop_of_length_le (by omega)]; rfl,rfl⟩
  ·by_cases hlt : i + 3 < xs.length
   all_goals
    go_wp2
    go_ret3
    exact ⟨by rw [HP.out]; rfl,rfl⟩
theorem decAt_no {xs : List Int} {i : Int} (h : bytesOk xs = false ∨ i < 0 ∨ xs.length ≤ i) : decAt xs i = none:=by
 unfold decAt
 rw [if_neg]
 rintro ⟨h1,h2,h3⟩
 rcases h with h | h | h
 ·rw [h] at h1; cases h1
 ·omega
 ·omega
theorem decAt_yes {xs : List Int} {i : Nat} (h : bytesOk xs = true) (hi : i < xs.length) : decAt xs i = (dec (xs.drop i)).map fun p=>(p.1,(i : Int) + p.2):=by
 unfold decAt
 rw [if_pos ⟨h,by omega,by omega⟩,Int.toNat_natCast]
theorem specL1DecodeEnd (ao : Option Addr) (c n : Nat) (i : Int) (w : World) (hn : n ≤ 2000) (hi : (n : Int) ≤ i) :
  Calls Try.prog 83 #[.slice ao n c,.int .i64 i] w fun e w'=>e = .returned (decVal none) ∧ w = w':=by
 have hlt : ¬ i < n:=by omega
 go_enter Try.func83,Try.ntmps83
 go_wp2
 refine wp_loop_rounds 1 ?_
 rw [rounds_succ]
 go_wp2
 go_ret3
 exact ⟨rfl,rfl⟩
theorem specDecodeNumber (ao : Option Addr) (c b o : Nat) (xs : List Int) (i : Int) (w : World) (hl : xs.length ≤ maxLen) (ha : At ao b o xs.length) (hin : Ints w b o xs) :
  Calls Try.prog 59 #[.slice ao xs.length c,.int .i64 i] w fun e w'=>e = .returned (decVal (decAt xs i)) ∧ w = w':=by
 have HV:=Lib.hid (specBytesValid ao b o c xs w hl ha hin)
 cases hv : bytesOk xs
 ·have HN:=Lib.hid (decAt_no (i:=i) (.inl hv))
  rw [hv] at HV
  clear hv
  go_enter Try.func59,Try.ntmps59
  go_wp2_with (first|(go_at_call 82;refine HV.out.mono ?_;rintro e w1 ⟨rfl,rfl⟩))
  go_ret3
  exact ⟨by rw [HN.out]; rfl,rfl⟩
 ·have hl2:=bytesOk_len hv
  have hby:=Zbq hv
  by_cases h0 : i < 0
  ·have HN:=Lib.hid (decAt_no (xs:=xs) (.inr (.inl h0)))
   rw [hv] at HV
   clear hv
   go_enter Try.func59,Try.ntmps59
   go_wp2_with (first|(go_at_call 82;refine HV.out.mono ?_;rintro e w1 ⟨rfl,rfl⟩))
   go_ret3
   exact ⟨by rw [HN.out]; rfl,rfl⟩
  ·have HD : Hid (Calls Try.prog 83 #[.slice ao xs.length c,.int .i64 i] w fun e w'=>e = .returned (decVal (decAt xs i)) ∧ w = w'):=by
    apply Lib.hid
    by_cases hk : i < xs.length
    ·obtain ⟨k,rfl⟩:=Int.eq_ofNat_of_zero_le (show 0 ≤ i by omega)
     rw [decAt_yes hv (by omega)]
     exact specL1Decode ao c b o xs k w (by omega) hl2 ha hin hby
    ·rw [decAt_no (.inr (.inr (by omega)))]
     exact specL1DecodeEnd ao c xs.length i w hl2 (by omega)
   rw [hv] at HV
   clear hv hby
   generalize decAt xs i = r at *
   cases r with
   | none =>
    go_enter Try.func59,Try.ntmps59
    go_wp2_with (first|(go_at_call 82;refine HV.out.mono ?_;rintro e w1 ⟨rfl,rfl⟩)|(go_at_call 83;refine HD.out.mono ?_;rintro e w1 ⟨rfl,rfl⟩;unfold decVal))
    go_ret3
    exact ⟨rfl,rfl⟩
   | some p =>
    obtain ⟨n,j⟩:=p
    go_enter Try.func59,Try.ntmps59
    go_wp2_with (first|(go_at_call 82;refine HV.out.mono ?_;rintro e w1 ⟨rfl,rfl⟩)|(go_at_call 83;refine HD.out.mono ?_;rintro e w1 ⟨rfl,rfl⟩;unfold decVal))
    go_ret3
    exact ⟨rfl,rfl⟩
theorem lawsToIntS (ao : Option Addr) (c b o : Nat) (xs : List Int) (w : World) (hl : xs.length ≤ 1048576) (ha : At ao b o xs.length) (h : Ints w b o xs) :
  Calls Try.prog 28 #[.slice ao xs.length c] w fun e w'=>∃ ao' c',e = .returned (.slice ao' xs.length c') ∧ Own w' w.heap.size 3 1 ao' xs.length c' (iv xs) ∧ Below w.heap.size w w' ∧ ao' ≠ none:=by
 have hix:=ha.ix (c:=c) Try.underlying24 sz_int
 go_enter Try.func28,Try.ntmps28
 go_wp2_with (first|(at_make;refine wp_make _ el_int rfl _ _ rfl w.heap.size xs.length rfl rfl (by omega) (by simp only [maxLen];omega) (Nat.le_refl _) ?_;intro w1 hown hg))
 have hb1 : Below w.heap.size w w1:=(Below.refl _ _).grown hg (Nat.le_refl _) (by simp)
 rw [show (Value.int IntKind.i64 0).cells = #[.int .i64 0] from rfl,madeCells_one] at hown
 go_loopw [4] (fun i wr=>∃ k : Nat,k ≤ xs.length ∧ i = .int .i64 k ∧ Own wr w.heap.size 3 1 (some ⟨w.heap.size,0,none⟩) xs.length xs.length ((iv xs).take k ++ List.replicate ((iv xs).length - k) (.int .i64 0)) ∧ Below w.heap.size w wr) (fun i _=>xs.length - (intOf i).toNat)
 case atStart=>exact ⟨0,Nat.zero_le _,rfl,by simpa using hown,hb1⟩
 case round =>
  obtain ⟨k,hk,rfl,hown2,hb⟩:=hrel
  have HO:=Lib.hid hown
  clear hown hg
  by_cases hlt : k < xs.length
  ·have hc:=h.below hb (Nat.le_refl _) k hlt
   have hc2 : wr.cell? ⟨w.heap.size,k,none⟩ = some (.int .i64 0):=by rw [hown2.cell_at k (by omega)]; exact fill_get _ _ _ (by simpa using hlt)
   have hf2:=hown2.frozen_at k
   have HO2:=Lib.hid hown2
   clear hown2
   go_wp2
   go_roundw
   case rel =>
    refine ⟨k + 1,by omega,by go_num,?_,(by repeat' (first|(with_reducible exact Below.refl _ _)|(with_reducible assumption)|(with_reducible refine Below.alloc ?_ ?_ _)|(with_reducible refine Below.drew ?_)|(with_reducible refine below_drewN ?_ _)|(with_reducible refine Below.setCell ?_ ?_ _)|(refine bstep (by with_reducible assumption) ?_)|(refine bstep2 (by with_reducible assumption) (by first|omega|(simp;done)|(simp;omega)) ?_)|go_size))⟩
    have h1:=HO2.out.set_at k (.int .i64 xs[k])
    have h2:=fill_step (iv xs) (.int .i64 0) k (by simpa using hlt)
    rw [show (iv xs)[k]'(by simpa using hlt) = .int .i64 xs[k] by simp] at h2
    rw [h2] at h1
    exact h1
   case measure=>simp [intOf]; omega
  ·go_wp2
   go_ret
   refine ⟨_,_,rfl,?_,hb,by simp⟩
   rw [fill_all _ _ _ (by simp; omega)] at hown2
   exact hown2
end Go.Proofs.Ytmkijbfiilpccaa
