/- Disks: validity, both texts (the first part of Disks). No statement of the seat is proved here. -/
import Derived.Deep.RegionHeld3
import Derived.Deep.RegionLaw
import Derived.Test.YtmkijbfiilpccaaGreatRows
import Derived.WalkKit
import Derived.WalkSpells
import Derived.WalkLawsBesides
import Derived.Lib.Hide
import Derived.Handy
import Derived.BigQuiet
import Derived.Deep.QuietTactic
import Derived.Test.YtmkijbfiilpccaaGreatRsLib
import Derived.Test.YtmkijbfiilpccaaGreatRsOwn
import Derived.Test.YtmkijbfiilpccaaGreatRsJobs
import Derived.Test.YtmkijbfiilpccaaGreatRsCodes3
import Derived.Test.YtmkijbfiilpccaaGreatRsFrames2
set_option linter.unusedSimpArgs false
set_option linter.unusedVariables false
set_option maxRecDepth 100000
set_option maxHeartbeats 1000000
namespace Go.Proofs.YtmkijbfiilpccaaGreat
open Go.RowKit
theorem bvI (ao : Option Addr) (c : Nat) (xs : List Int) (w : World) (hl : xs.length ≤ 1048576) (h : Sl w ao xs) :
  Calls Tryz.prog 58 #[.slice ao xs.length c] w fun e w'=>e = .returned (.bool (bytesOk xs)) ∧ w = w':=by
 obtain ⟨b,o,ha,hi⟩:=h.ints
 exact implBytesValid ao b o c xs w (by simp only [maxLen]; omega) ha hi
theorem bvS (ao : Option Addr) (c : Nat) (xs : List Int) (w : World) (hl : xs.length ≤ 4194304) (h : Sl w ao xs) :
  Calls Tryz.prog 38 #[.slice ao xs.length c] w fun e w'=>e = .returned (.bool (bytesOk xs)) ∧ w = w':=by
 obtain ⟨b,o,ha,hi⟩:=h.ints
 exact specBytesValid ao b o c xs w (by simp only [maxLen]; omega) ha hi
abbrev dk (a1 : Option Addr) (n1 c1 : Nat) (a2 : Option Addr) (n2 c2 : Nat) : Value:=.agg #[.slice a1 n1 c1,.slice a2 n2 c2]
def diskOk (xs ys : List Int) : Bool:=bytesOk xs && bytesOk ys && decide (xs.length + ys.length ≤ 2000)
theorem implDiskValid (a1 a2 : Option Addr) (c1 c2 : Nat) (xs ys : List Int) (w : World) (hl1 : xs.length ≤ 1048576) (hl2 : ys.length ≤ 1048576) (h1 : Sl w a1 xs) (h2 : Sl w a2 ys) :
  Calls Tryz.prog 25 #[dk a1 xs.length c1 a2 ys.length c2] w fun e w'=>e = .returned (.bool (diskOk xs ys)) ∧ Below w.heap.size w w':=by
 have B1:=fun o=>Lib.hid (bvI a1 c1 xs (w.alloc o) hl1 (h1.alloc o))
 have B2:=fun o=>Lib.hid (bvI a2 c2 ys (w.alloc o) hl2 (h2.alloc o))
 cases hx : bytesOk xs
 ·rw [hx] at B1
  have HE : Hid (diskOk xs ys = false):=by unfold Hid diskOk; rw [hx]; rfl
  clear hx
  have B1:=Lib.hid B1; have B2:=Lib.hid B2
  go_enter Tryz.func25,Tryz.ntmps25
  go_wp2_with (go_at_call 58; refine (B1.out _).out.mono ?_; rintro e w1 ⟨rfl,rfl⟩)
  go_ret
  exact ⟨Zbb HE.out.symm,(by repeat' (first|(with_reducible exact Below.refl _ _)|(with_reducible assumption)|(with_reducible refine Below.alloc ?_ ?_ _)|(with_reducible refine Below.drew ?_)|(with_reducible refine below_drewN ?_ _)|(with_reducible refine Below.setCell ?_ ?_ _)|(refine bstep (by with_reducible assumption) ?_)|(refine bstep2 (by with_reducible assumption) (by first|omega|(simp;done)|(simp;omega)) ?_)|go_size))⟩
 ·cases hy : bytesOk ys
  ·rw [hx] at B1
   rw [hy] at B2
   have HE : Hid (diskOk xs ys = false):=by unfold Hid diskOk; rw [hx,hy]; rfl
   clear hx hy
   have C1:=Lib.hid B1; have C2:=Lib.hid B2
   clear B1 B2
   go_enter Tryz.func25,Tryz.ntmps25
   go_wp2_with (go_at_call 58;first|((with_reducible refine (C1.out _).out.mono ?_);rintro e w1 ⟨rfl,rfl⟩)|((with_reducible refine (C2.out _).out.mono ?_);rintro e w1 ⟨rfl,rfl⟩))
   go_ret
   exact ⟨Zbb HE.out.symm,(by repeat' (first|(with_reducible exact Below.refl _ _)|(with_reducible assumption)|(with_reducible refine Below.alloc ?_ ?_ _)|(with_reducible refine Below.drew ?_)|(with_reducible refine below_drewN ?_ _)|(with_reducible refine Below.setCell ?_ ?_ _)|(refine bstep (by with_reducible assumption) ?_)|(refine bstep2 (by with_reducible assumption) (by first|omega|(simp;done)|(simp;omega)) ?_)|go_size))⟩
  ·rw [hx] at B1
   rw [hy] at B2
   have HE : Hid (diskOk xs ys = decide (((xs.length : Int) + ys.length) ≤ 2000)):=by unfold Hid diskOk; rw [hx,hy]; simp; omega
   clear hx hy
   have C1:=Lib.hid B1; have C2:=Lib.hid B2
   clear B1 B2
   go_enter Tryz.func25,Tryz.ntmps25
   go_wp2_with (go_at_call 58;first|((with_reducible refine (C1.out _).out.mono ?_);rintro e w1 ⟨rfl,rfl⟩)|((with_reducible refine (C2.out _).out.mono ?_);rintro e w1 ⟨rfl,rfl⟩))
   go_ret
   exact ⟨Zbb HE.out.symm,(by repeat' (first|(with_reducible exact Below.refl _ _)|(with_reducible assumption)|(with_reducible refine Below.alloc ?_ ?_ _)|(with_reducible refine Below.drew ?_)|(with_reducible refine below_drewN ?_ _)|(with_reducible refine Below.setCell ?_ ?_ _)|(refine bstep (by with_reducible assumption) ?_)|(refine bstep2 (by with_reducible assumption) (by first|omega|(simp;done)|(simp;omega)) ?_)|go_size))⟩
theorem specDiskValid (a1 a2 : Option Addr) (c1 c2 : Nat) (xs ys : List Int) (w : World) (hl1 : xs.length ≤ 1048576) (hl2 : ys.length ≤ 1048576) (h1 : Sl w a1 xs) (h2 : Sl w a2 ys) :
  Calls Tryz.prog 9 #[dk a1 xs.length c1 a2 ys.length c2] w fun e w'=>e = .returned (.bool (diskOk xs ys)) ∧ Below w.heap.size w w':=by
 by_cases hx : xs.length ≤ 2000
 ·by_cases hy : ys.length ≤ 2000
  ·have HE : Hid (diskOk xs ys = bytesOk (xs ++ ys)):=by
    unfold Hid diskOk bytesOk
    rw [Bool.eq_iff_iff]
    simp only [Bool.and_eq_true,decide_eq_true_eq,List.length_append,List.all_append]
    constructor
    ·rintro ⟨⟨⟨_,h1⟩,⟨_,h2⟩⟩,h3⟩; exact ⟨h3,h1,h2⟩
    ·rintro ⟨h3,h1,h2⟩; exact ⟨⟨⟨hx,h1⟩,⟨hy,h2⟩⟩,h3⟩
   have d1 : decide ((xs.length : Int) ≤ 2000) = true:=by simp; omega
   have d2 : decide ((ys.length : Int) ≤ 2000) = true:=by simp; omega
   have H1:=Lib.hid h1
   have H2:=Lib.hid h2
   clear h1 h2
   go_enter Tryz.func9,Tryz.ntmps9
   have HB : ∀ (W : World) (ao : Option Addr) (n c : Nat),n = xs.length + ys.length → Src W ao n 1 ([] ++ iv xs ++ iv ys) → Hid (Calls Tryz.prog 38 #[.slice ao n c] W fun e w'=>e = .returned (.bool (diskOk xs ys)) ∧ W = w'):=by
    intro W ao n c hn h
    subst hn
    rw [List.nil_append,← List.map_append] at h
    apply Lib.hid
    rw [HE.out,show xs.length + ys.length = (xs ++ ys).length by simp]
    exact bvS ao c (xs ++ ys) W (by simp; omega) (by rw [show xs.length + ys.length = (xs ++ ys).length by simp] at h; exact h)
   have HB:=Lib.hid HB
   go_wp2
   go_region_held3 (fun w'=>w'.cell? ⟨w.heap.size,0,none⟩ = some (.slice a1 xs.length c1) ∧ w'.cell? ⟨w.heap.size,1,none⟩ = some (.slice a2 ys.length c2)) (go_keep) (first|(go_simp;go_at_call 38;(with_reducible refine (HB.out w4 ao4 (xs.length + ys.length) c4 rfl O4.out.src).out.mono ?_);rintro e w5 ⟨rfl,rfl⟩)|(refine step_appG _ el_int (by simp [go_sem]) (.tmp 14) (.tmp 16) (by rfl) (w.heap.size + 1) (by rfl) (own_new0 (by simp) (by simp)) (by rfl) ((H1.out.alloc _).alloc _) (oneCell_iv _) (by simp only [maxLen];omega) (by omega) (by simp) ?_;intro ao3 c3 w3 hown3 hg3 hat3 hz3;obtain ⟨hcc3,hff3⟩:=gcell (rb:=w.heap.size + 1) hg3;have hb3 : Below w.heap.size w w3:=(by refine below_gb (g:=w.heap.size + 1) ?_ hg3 ?_ ?_<;>first|omega|(simp;done)|(simp;omega)|exact (by repeat' (first|(with_reducible exact Below.refl _ _)|(with_reducible assumption)|(with_reducible refine Below.alloc ?_ ?_ _)|(with_reducible refine Below.drew ?_)|(with_reducible refine below_drewN ?_ _)|(with_reducible refine Below.setCell ?_ ?_ _)|(refine bstep (by with_reducible assumption) ?_)|(refine bstep2 (by with_reducible assumption) (by first|omega|(simp;done)|(simp;omega)) ?_)|go_size)));have hzz3:=hg3.size;(try simp only [World.size_alloc] at hzz3);have hlt3 : w.heap.size < w3.heap.size:=(by simp at hzz3;omega);have O3:=Lib.hid hown3;clear hown3 hat3 hz3)|(refine step_appG _ el_int (by simp [go_sem]) (.tmp 17) (.tmp 19) (by rfl) (w.heap.size + 1) (by rfl) O3.out (by rfl) (H2.out.below hb3 (Nat.le_refl _)) (oneCell_iv _) (by simp only [maxLen];omega) (by omega) (by omega) ?_;intro ao4 c4 w4 hown4 hg4 hat4 hz4;obtain ⟨hcc4,hff4⟩:=O3.out.far hg4;have hb4 : Below w.heap.size w w4:=hb3.grown hg4 hb3.size (fun g hg=>by have:=(O3.out.lt_ g hg).1;omega);have O4:=Lib.hid (own_len hown4 (show 0 + xs.length + ys.length = xs.length + ys.length by omega) rfl);clear hown4 hat4 hz4))
   go_wp2
   go_ret
   exact ⟨rfl,(by repeat' (first|(with_reducible exact Below.refl _ _)|(with_reducible assumption)|(with_reducible refine Below.alloc ?_ ?_ _)|(with_reducible refine Below.drew ?_)|(with_reducible refine below_drewN ?_ _)|(with_reducible refine Below.setCell ?_ ?_ _)|(refine bstep (by with_reducible assumption) ?_)|(refine bstep2 (by with_reducible assumption) (by first|omega|(simp;done)|(simp;omega)) ?_)|go_size))⟩
  ·have d1 : decide ((xs.length : Int) ≤ 2000) = true:=by simp; omega
   have d2 : decide ((ys.length : Int) ≤ 2000) = false:=by simp; omega
   have HE : Hid (diskOk xs ys = false):=by unfold Hid diskOk; rw [Bool.and_eq_false_iff]; right; simp; omega
   clear h1 h2
   go_enter Tryz.func9,Tryz.ntmps9
   go_wp2
   go_quiet (fail)
   go_wp2
   go_ret
   exact ⟨Zbb HE.out.symm,(by repeat' (first|(with_reducible exact Below.refl _ _)|(with_reducible assumption)|(with_reducible refine Below.alloc ?_ ?_ _)|(with_reducible refine Below.drew ?_)|(with_reducible refine below_drewN ?_ _)|(with_reducible refine Below.setCell ?_ ?_ _)|(refine bstep (by with_reducible assumption) ?_)|(refine bstep2 (by with_reducible assumption) (by first|omega|(simp;done)|(simp;omega)) ?_)|go_size))⟩
 ·have d1 : decide ((xs.length : Int) ≤ 2000) = false:=by simp; omega
  have HE : Hid (diskOk xs ys = false):=by unfold Hid diskOk; rw [Bool.and_eq_false_iff]; right; simp; omega
  clear h1 h2
  go_enter Tryz.func9,Tryz.ntmps9
  go_wp2
  go_quiet (fail)
  go_wp2
  go_ret
  exact ⟨Zbb HE.out.symm,(by repeat' (first|(with_reducible exact Below.refl _ _)|(with_reducible assumption)|(with_reducible refine Below.alloc ?_ ?_ _)|(with_reducible refine Below.drew ?_)|(with_reducible refine below_drewN ?_ _)|(with_reducible refine Below.setCell ?_ ?_ _)|(refine bstep (by with_reducible assumption) ?_)|(refine bstep2 (by with_reducible assumption) (by first|omega|(simp;done)|(simp;omega)) ?_)|go_size))⟩
end Go.Proofs.YtmkijbfiilpccaaGreat
