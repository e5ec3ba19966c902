/- Frames: CheckSum (the model's), FrameOf, both texts. No statement of the seat is proved here. -/
import Derived.Lib.AppendZerosOnto
import Derived.LoopN
import Derived.Lib.SliceRun
import Derived.Test.YtmkijbfiilpccaaGreatRows
import Derived.WalkKit
import Derived.WalkSpells
import Derived.WalkLawsBesides
import Derived.Lib.Hide
import Derived.Handy
import Derived.BigQuiet
import Derived.Deep.QuietTactic
import Derived.Test.YtmkijbfiilpccaaGreatRsLib
import Derived.Test.YtmkijbfiilpccaaGreatRsOwn
import Derived.Test.YtmkijbfiilpccaaGreatRsJobs
import Derived.Test.YtmkijbfiilpccaaGreatRsCodes3
set_option linter.unusedSimpArgs false
set_option linter.unusedVariables false
set_option maxRecDepth 100000
set_option maxHeartbeats 600000
namespace Go.Proofs.YtmkijbfiilpccaaGreat
open Go.RowKit
theorem specCheckSum (ao : Option Addr) (b o c : Nat) (xs : List Int) (w : World) (hl : xs.length ≤ maxLen) (ha : At ao b o xs.length) (h : Ints w b o xs) :
  Calls Tryz.prog 100 #[.slice ao xs.length c] w fun e w'=>e = .returned (.int .i64 (sumOf xs)) ∧ w = w':=by
 have hix:=ha.ix (c:=c) Tryz.underlying26 sz_int
 cases hv : bytesOk xs
 ·go_enter Tryz.func100,Tryz.ntmps100
  go_wp2_with (first|(go_at_call 38;refine (specBytesValid ao b o c xs w hl ha h).mono ?_;rw [hv];rintro e w1 ⟨rfl,rfl⟩))
  go_ret
  exact ⟨Zcc (by simp [sumOf,hv]),rfl⟩
 ·have hl2:=Zb2 hv
  have HR : Hid (sumOf xs = (xs.drop 0).foldl sumStep 7):=by simp [Hid,sumOf,hv]
  have HV:=Lib.hid hv
  clear hv
  go_enter Tryz.func100,Tryz.ntmps100
  go_wp2_with fail
  refine (specBytesValid ao b o c xs w hl ha h).mono ?_
  rw [HV.out]
  rintro e w1 ⟨rfl,rfl⟩
  unfold maxLen at hl
  go_wp2
  go_loop [3,4] (fun s i=>∃ (k : Nat) (t : Int),k ≤ xs.length ∧ i = .int .i64 k ∧ s = .int .i64 t ∧ 0 ≤ t ∧ t ≤ 250 ∧ Hid (sumOf xs = (xs.drop k).foldl sumStep t)) (fun _ i=>xs.length - (intOf i).toNat)
  case atStart=>exact ⟨0,7,Nat.zero_le _,rfl,rfl,by omega,by omega,HR⟩
  case round =>
   obtain ⟨k,t,hk,rfl,rfl,ht0,ht1,HP⟩:=hrel
   clear HR
   by_cases hlt : k < xs.length
   ·have hc:=h k hlt
    have HD : Hid (xs.drop k = xs[k] :: xs.drop (k + 1)):=List.drop_eq_getElem_cons hlt
    obtain ⟨hb0,hb1⟩:=Zbt HV.out k hlt
    go_wp2
    go_round
    case rel=>exact ⟨k + 1,sumStep t xs[k],by omega,by go_num,rfl,(Zdm _ _).1,(Zdm _ _).2,by have h1:=HP.out; rw [HD.out,List.foldl_cons] at h1; exact h1⟩
    case measure=>simp [intOf]; omega
   ·go_wp2
    go_ret
    exact ⟨Zcc (by rw [HP.out,List.drop_of_length_le (by omega)]; rfl),rfl⟩
def bodyOk (xs : List Int) : Bool:=bytesOk xs && decide (1 ≤ xs.length) && decide (xs.length ≤ 100)
def frameOf (xs : List Int) : List Int:=if bodyOk xs then (xs.length : Int) :: xs ++ [sumOf xs] else []
theorem frame_len (xs : List Int) : (frameOf xs).length ≤ 102:=by
 unfold frameOf
 split
 ·rename_i h
  simp [bodyOk] at h
  simp; omega
 ·simp
theorem frame_pos {xs : List Int} (h : bodyOk xs = true) : (frameOf xs).length = xs.length + 2:=by
 unfold frameOf
 rw [if_pos h]
 simp
theorem implBodyValid (ao : Option Addr) (b o c : Nat) (xs : List Int) (w : World) (hl : xs.length ≤ maxLen) (ha : At ao b o xs.length) (h : Ints w b o xs) :
  Calls Tryz.prog 91 #[.slice ao xs.length c] w fun e w'=>e = .returned (.bool (bodyOk xs)) ∧ w = w':=by
 have hl':=hl
 unfold maxLen at hl'
 cases hv : bytesOk xs
 all_goals
  have HV:=Lib.hid hv
  have HB:=Lib.hid (implBytesValid ao b o c xs w hl ha h)
  rw [hv] at HB
  clear hv
  by_cases h1 : 1 ≤ xs.length
  ·by_cases h2 : xs.length ≤ 100
   ·have i1 : (1 : Int) ≤ xs.length:=by omega
    have i2 : (xs.length : Int) ≤ 100:=by omega
    have d1 : decide ((1 : Int) ≤ xs.length) = true:=by simp; omega
    have d2 : decide ((xs.length : Int) ≤ 100) = true:=by simp; omega
    go_enter Tryz.func91,Tryz.ntmps91
    go_wp2_with (first|(go_at_call 58;refine HB.out.mono ?_;rintro e w1 ⟨rfl,rfl⟩))
    go_ret
    exact ⟨Zbb (by simp [bodyOk,HV.out,h1,h2]),rfl⟩
   ·have i1 : (1 : Int) ≤ xs.length:=by omega
    have i2 : ¬ (xs.length : Int) ≤ 100:=by omega
    have i3 : (100 : Int) < xs.length:=by omega
    go_enter Tryz.func91,Tryz.ntmps91
    go_wp2_with (first|(go_at_call 58;refine HB.out.mono ?_;rintro e w1 ⟨rfl,rfl⟩))
    go_ret
    exact ⟨Zbb (by simp [bodyOk,HV.out,h1,h2]),rfl⟩
  ·have i1 : ¬ (1 : Int) ≤ xs.length:=by omega
   have i3 : (xs.length : Int) < 1:=by omega
   go_enter Tryz.func91,Tryz.ntmps91
   go_wp2_with (first|(go_at_call 58;refine HB.out.mono ?_;rintro e w1 ⟨rfl,rfl⟩))
   go_ret
   exact ⟨Zbb (by simp [bodyOk,h1]),rfl⟩
abbrev Sl (w : World) (ao : Option Addr) (xs : List Int) : Prop:=Src w ao xs.length 1 (iv xs)
theorem Own.sl {w : World} {base n c : Nat} {ao : Option Addr} {xs : List Int} (h : Own w base 3 1 ao n c (iv xs)) : Sl w ao xs:=by
 have hn : n = xs.length:=by have:=h.length_; simp at this; omega
 subst hn
 exact h.src
theorem own_cap {E G : Nat} (w : World) (X : Array Value) (hX : X.size = G) (hG : G ≤ maxLen) : Own (w.alloc (.cells X E)).drew w.heap.size E 1 (some ⟨w.heap.size,0,none⟩) 0 G [] :=
 ⟨by simp,.inr ⟨w.heap.size,G,X,rfl,Nat.le_refl _,heap_alloc_new w _,Nat.zero_le _,hG,by omega,by simp⟩⟩
theorem sz_ints (w : World) : (sizeOf 26).run Tryz.prog w = .ok 1 w:=by kernel_rfl
end Go.Proofs.YtmkijbfiilpccaaGreat
