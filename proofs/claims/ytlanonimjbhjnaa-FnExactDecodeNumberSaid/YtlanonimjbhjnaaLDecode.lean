/- The law FnExactDecodeNumber, walked: it returns true; nothing that was there turns. -/
import Derived.Test.YtlanonimjbhjnaaRows
import Derived.WalkKit
import Derived.WalkSpells
import Derived.WalkLawsBesides
import Derived.Lib.Hide
import Derived.Handy
import Derived.BigQuiet
import Derived.Deep.QuietTactic
import Derived.Test.YtlanonimjbhjnaaLib
import Derived.Test.YtlanonimjbhjnaaOwn
import Derived.Test.YtlanonimjbhjnaaJobs
import Derived.Test.YtlanonimjbhjnaaCodes
import Derived.Test.YtlanonimjbhjnaaCodes2
import Derived.Test.YtlanonimjbhjnaaCodes3
set_option linter.unusedSimpArgs false
set_option linter.unusedVariables false
namespace Go.Proofs.Ytlanonimjbhjnaa
open Go.RowKit

set_option maxHeartbeats 1000000 in
theorem fnExactDecodeNumber (ao : Option Addr) (c b o : Nat) (xs : List Int) (i : Int) (w : World) (hl : xs.length ≤ maxLen) (ha : At ao b o xs.length) (h : Ints w b o xs) :
    Calls Try.prog 4 #[.slice ao xs.length c, .int .i64 i] w fun e w' => e = .returned (.bool true) ∧ Below w.heap.size w w' := by
  by_cases hlen : xs.length ≤ 1048576
  · have hlen2 : ¬ (1048576 : Int) < xs.length := by omega
    have HS := fun b o ao c w ha hin => Lib.hid (specDecodeNumber ao c b o xs i w hl ha hin)
    have HI := fun b o ao c w ha hin => Lib.hid (implDecodeNumber ao c b o xs i w hl ha hin)
    generalize decAt xs i = r at *
    have HSH := Lib.hid HS
    have HIH := Lib.hid HI
    clear HS HI
    go_enter Try.func4, Try.ntmps4
    go_wp2_with fail
    refine (lawsToIntS ao c b o xs w hlen ha h).mono ?_
    rintro e w1 ⟨ao1, c1, rfl, hown1, hb1, _⟩
    obtain ⟨b1, o1, ha1, hi1⟩ := hown1.src.ints'
    have HO1 := Lib.hid hown1
    clear hown1
    go_wp2_with fail
    refine (HSH.out b1 o1 ao1 c1 w1 ha1 hi1).out.mono ?_
    rintro e w1' ⟨rfl, rfl⟩
    rcases r with _ | ⟨n, j⟩
    all_goals
      unfold decVal
      go_wp2_with fail
      refine (lawsToIntS ao c b o xs w1 hlen ha (h.below hb1 (Nat.le_refl _))).mono ?_
      rintro e w2 ⟨ao2, c2, rfl, hown2, hb2, _⟩
      obtain ⟨b2, o2, ha2, hi2⟩ := hown2.src.ints'
      clear hown2
      go_wp2_with fail
      refine (HIH.out b2 o2 ao2 c2 w2 ha2 hi2).out.mono ?_
      rintro e w3 ⟨rfl, hb3⟩
      unfold decVal
      go_wp2_with fail
      refine (lawsToIntS ao c b o xs w3 hlen ha (((h.below hb1 (Nat.le_refl _)).below hb2 (Nat.le_refl _)).below hb3 (Nat.le_refl _))).mono ?_
      rintro e w4 ⟨ao4, c4, rfl, hown4, hb4, _⟩
      obtain ⟨b4, o4, ha4, hi4⟩ := hown4.src.ints'
      clear hown4
      go_wp2_with fail
      refine (lawsEqIntS ao2 ao4 b2 o2 c2 b4 o4 c4 xs xs w4 hl hl ha2 ((hi2.below hb3 (Nat.le_refl _)).below hb4 (Nat.le_refl _)) ha4 hi4).mono ?_
      rw [decide_eq_true rfl]
      rintro e w5 ⟨rfl, hb5⟩
      go_wp2
      go_ret
      exact ⟨rfl, (by repeat' (first | (with_reducible exact Below.refl _ _) | (with_reducible assumption) | (with_reducible refine Below.alloc ?_ ?_ _) | (with_reducible refine Below.drew ?_) | (with_reducible refine below_drewN ?_ _) | (with_reducible refine Below.setCell ?_ ?_ _) | (refine bstep (by with_reducible assumption) ?_) | go_size))⟩
  · have hlen2 : (1048576 : Int) < xs.length := by omega
    go_enter Try.func4, Try.ntmps4
    go_wp2
    go_ret
    exact ⟨rfl, Below.refl _ _⟩
end Go.Proofs.Ytlanonimjbhjnaa
