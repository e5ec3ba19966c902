/- Numbers as bytes: what the tests, the writers and the readers of codes return. No statement of the seat is proved here. -/
import Derived.Test.YtmkijbfiilpccaaRows
import Derived.WalkKit
import Derived.WalkSpells
import Derived.WalkLawsBesides
import Derived.Lib.Hide
import Derived.Handy
import Derived.BigQuiet
import Derived.Deep.QuietTactic
import Derived.Test.YtmkijbfiilpccaaSbLib
import Derived.Test.YtmkijbfiilpccaaSbOwn
import Derived.Test.YtmkijbfiilpccaaSbJobs
set_option linter.unusedSimpArgs false
set_option linter.unusedVariables false
set_option maxRecDepth 100000
set_option maxHeartbeats 400000
namespace Go.Proofs.Ytmkijbfiilpccaa
open Go.RowKit
theorem sz_int (w : World) : (sizeOf 3).run Try.prog w = .ok 1 w:=by kernel_rfl
def byteOk (z : Int) : Bool:=decide (0 ≤ z) && decide (z ≤ 255)
def bytesOk (l : List Int) : Bool:=decide (l.length ≤ 2000) && l.all byteOk
theorem implBytesValid (ao : Option Addr) (b o c : Nat) (xs : List Int) (w : World) (hl : xs.length ≤ maxLen) (ha : At ao b o xs.length) (h : Ints w b o xs) :
  Calls Try.prog 77 #[.slice ao xs.length c] w fun e w'=>e = .returned (.bool (bytesOk xs)) ∧ w = w':=by
 unfold maxLen at hl
 have hix:=ha.ix (c:=c) Try.underlying24 sz_int
 by_cases h2 : xs.length ≤ 2000
 ·have HR : Hid (bytesOk xs = (xs.drop 0).all byteOk):=by simp [Hid,bytesOk,h2]
  go_enter Try.func77,Try.ntmps77
  go_wp2
  go_loop [4,10] (fun _ i=>∃ k : Nat,k ≤ xs.length ∧ i = .int .i64 k ∧ Hid (bytesOk xs = (xs.drop k).all byteOk)) (fun _ i=>xs.length - (intOf i).toNat)
  case atStart=>exact ⟨0,Nat.zero_le _,rfl,HR⟩
  case round =>
   obtain ⟨k,hk,rfl,HP⟩:=hrel
   clear HR
   by_cases hlt : k < xs.length
   ·have hc:=h k hlt
    have HD : Hid (xs.drop k = xs[k] :: xs.drop (k + 1)):=List.drop_eq_getElem_cons hlt
    go_wp2
    ·go_ret
     have HB : byteOk xs[k] = false:=by simp [byteOk]; intros; omega
     exact ⟨Zck (by rw [HP.out,HD.out,List.all_cons,HB,Bool.false_and]),rfl⟩
    ·go_round
     case rel =>
      have HB : byteOk xs[k] = true:=by simp [byteOk]; omega
      exact ⟨k + 1,by omega,by go_num,by have h1:=HP.out; rw [HD.out,List.all_cons,HB,Bool.true_and] at h1; exact h1⟩
     case measure=>simp [intOf]; omega
    ·go_ret
     have HB : byteOk xs[k] = false:=by simp [byteOk]; intros; omega
     exact ⟨Zck (by rw [HP.out,HD.out,List.all_cons,HB,Bool.false_and]),rfl⟩
   ·go_wp2
    go_ret
    exact ⟨Zck (by rw [HP.out,List.drop_of_length_le (by omega)]; rfl),rfl⟩
 ·go_enter Try.func77,Try.ntmps77
  go_wp2
  go_ret
  exact ⟨Zck (by simp [bytesOk,h2]),rfl⟩
theorem Zcu {l : List Int} (h : bytesOk l = true) (k : Nat) (hk : k < l.length) : 0 ≤ l[k] ∧ l[k] ≤ 255:=by
 simp [bytesOk] at h
 have:=h.2 l[k] (List.getElem_mem hk)
 simpa [byteOk] using this
theorem bytesOk_len {l : List Int} (h : bytesOk l = true) : l.length ≤ 2000:=by
 simp [bytesOk] at h
 exact h.1
def enc (n : Int) : List Int :=
 if n < 0 ∨ 1000000 < n then [] else if n < 128 then [n] else if n < 16384 then [n % 128 + 128,n / 128] else [n % 128 + 128,n / 128 % 128 + 128,n / 128 / 128]
theorem enc_step {m : Int} (h0 : 128 ≤ m) (h1 : m ≤ 1000000) : enc m = (m % 128 + 128) :: enc (m / 128):=by
 unfold enc
 by_cases h : m < 16384
 ·rw [if_neg (by omega),if_neg (by omega),if_pos h,if_neg (by omega),if_pos (by omega)]
 ·rw [if_neg (by omega),if_neg (by omega),if_neg h,if_neg (by omega),if_neg (by omega),if_pos (by omega)]
theorem enc_last {m : Int} (h0 : 0 ≤ m) (h1 : m < 128) : enc m = [m]:=by
 unfold enc
 rw [if_neg (by omega),if_pos h1]
theorem enc_no {m : Int} (h : m < 0 ∨ 1000000 < m) : enc m = []:=by unfold enc; rw [if_pos h]
theorem Zau (n : Int) : (enc n).length ≤ 3:=by
 unfold enc
 split
 ·simp
 ·split
  ·simp
  ·split<;>simp
theorem enc_pos {n : Int} (h0 : 0 ≤ n) (h1 : n ≤ 1000000) : 0 < (enc n).length:=by
 unfold enc
 rw [if_neg (by omega)]
 split
 ·simp
 ·split<;>simp
def decF : Nat → Nat → Int → Int → List Int → Option (Int × Nat)
 | 0,_,_,_,_=>none
 | _ + 1,_,_,_,[]=>none
 | f + 1,d,n,s,b :: t=>if 128 ≤ b then decF f (d + 1) (n + (b - 128) * s) (s * 128) t else if b = 0 ∧ 0 < d then none else if n + b * s ≤ 1000000 then some (n + b * s,d + 1) else none
def dec (l : List Int) : Option (Int × Nat):=decF 3 0 0 1 l
structure Rdr (w : World) (rb : Nat) (s : Value) (at_ : Int) : Prop where
 c0 : w.cell? ⟨rb,0,none⟩ = some s
 c1 : w.cell? ⟨rb,1,none⟩ = some (.int .i64 at_)
 f1 : w.frozen? ⟨rb,1,none⟩ = false
theorem Rdr.new (w : World) (s : Value) (n : Int) (T : Nat) : Rdr (w.alloc (.cells #[s,.int .i64 n] T)) w.heap.size s n :=
 ⟨by rw [World.cell?_alloc_at _ _ _ _ rfl]; rfl,by rw [World.cell?_alloc_at _ _ _ _ rfl]; rfl,frozen_new _ _ _ _⟩
def decAt (xs : List Int) (i : Int) : Option (Int × Int) :=
 if bytesOk xs = true ∧ 0 ≤ i ∧ i < xs.length then (dec (xs.drop i.toNat)).map fun p=>(p.1,i + p.2) else none
theorem decAt_yes {xs : List Int} {i : Nat} (h : bytesOk xs = true) (hi : i < xs.length) : decAt xs i = (dec (xs.drop i)).map fun p=>(p.1,(i : Int) + p.2):=by
 unfold decAt
 rw [if_pos ⟨h,by omega,by omega⟩,Int.toNat_natCast]
end Go.Proofs.Ytmkijbfiilpccaa
