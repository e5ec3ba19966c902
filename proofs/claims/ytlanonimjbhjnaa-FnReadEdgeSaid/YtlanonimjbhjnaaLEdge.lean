/- The law FnExactReadEdge, walked. -/
import Derived.Test.YtlanonimjbhjnaaRows
import Derived.WalkKit
import Derived.WalkSpells
import Derived.WalkLawsBesides
import Derived.Lib.Hide
import Derived.Handy
import Derived.BigQuiet
import Derived.Deep.QuietTactic
import Derived.Test.YtlanonimjbhjnaaLib
import Derived.Test.YtlanonimjbhjnaaOwn
import Derived.Test.YtlanonimjbhjnaaJobs
import Derived.Test.YtlanonimjbhjnaaCodes
import Derived.Test.YtlanonimjbhjnaaCodes2
import Derived.Test.YtlanonimjbhjnaaCodes3
import Derived.Test.YtlanonimjbhjnaaEdges
set_option linter.unusedSimpArgs false
set_option linter.unusedVariables false
namespace Go.Proofs.Ytlanonimjbhjnaa
open Go.RowKit

set_option maxRecDepth 100000 in
set_option maxHeartbeats 1000000 in
theorem eqEdge_same (a b c : Int) (w : World) :
    Calls Try.prog 30 #[.agg #[.int .i64 a, .int .i64 b, .int .i64 c], .agg #[.int .i64 a, .int .i64 b, .int .i64 c]] w fun e w' => e = .returned (.bool true) ∧ Below w.heap.size w w' := by
  go_enter Try.func30, Try.ntmps30
  go_wp2
  go_ret
  exact ⟨rfl, (by repeat' (first | (with_reducible exact Below.refl _ _) | (with_reducible assumption) | (with_reducible refine Below.alloc ?_ ?_ _) | (with_reducible refine Below.drew ?_) | (with_reducible refine below_drewN ?_ _) | (with_reducible refine Below.setCell ?_ ?_ _) | (refine bstep (by with_reducible assumption) ?_) | go_size))⟩

set_option maxRecDepth 100000 in
set_option maxHeartbeats 2000000 in
theorem fnExactReadEdge (ao : Option Addr) (c b o : Nat) (xs : List Int) (w : World) (hl : xs.length ≤ maxLen) (ha : At ao b o xs.length) (h : Ints w b o xs) :
    Calls Try.prog 8 #[.slice ao xs.length c] w fun e w' => e = .returned (.bool true) ∧ Below w.heap.size w w' := by
  by_cases hlen : xs.length ≤ 1048576
  · have hlen2 : ¬ (1048576 : Int) < xs.length := by omega
    have HS := fun b o ao c w ha hin => Lib.hid (specReadEdge ao c b o xs w hl ha hin)
    have HI := fun b o ao c w ha hin => Lib.hid (implReadEdge ao c b o xs w hl ha hin)
    generalize readE xs = r at *
    have HSH := Lib.hid HS
    have HIH := Lib.hid HI
    clear HS HI
    go_enter Try.func8, Try.ntmps8
    go_wp2_with fail
    refine (lawsToIntS ao c b o xs w hlen ha h).mono ?_
    rintro e w1 ⟨ao1, c1, rfl, hown1, hb1, _⟩
    have hz1 := hb1.size
    obtain ⟨b1, o1, ha1, hi1⟩ := hown1.src.ints'
    clear hown1
    go_wp2_with fail
    refine (HSH.out b1 o1 ao1 c1 w1 ha1 hi1).out.mono ?_
    rintro e w2 ⟨rfl, hb2⟩
    have hz2 := hb2.size
    rcases r with _ | ⟨x, y, z⟩
    all_goals
      unfold edgeVal
      go_wp2_with fail
      refine (lawsToIntS ao c b o xs _ hlen ha (((h.below hb1 (Nat.le_refl _)).below hb2 (Nat.le_refl _)).keep (keeps_alloc _ _))).mono ?_
      rintro e w3 ⟨ao3, c3, rfl, hown3, hb3, _⟩
      (obtain ⟨hc3, hf3⟩ := bcell hb3); have hz3 := hb3.size; (try simp only [World.size_alloc, World.size_setCell, World.size_drew, World.size_drewN] at hz3); have hl3_0 : w2.heap.size < w3.heap.size := (by omega)
      obtain ⟨b3, o3, ha3, hi3⟩ := hown3.src.ints'
      clear hown3
      go_wp2_with fail
      refine (HIH.out b3 o3 ao3 c3 w3 ha3 hi3).out.mono ?_
      rintro e w4 ⟨rfl, hb4⟩
      (obtain ⟨hc4, hf4⟩ := bcell hb4); have hz4 := hb4.size; (try simp only [World.size_alloc, World.size_setCell, World.size_drew, World.size_drewN] at hz4); have hl4_0 : w2.heap.size < w4.heap.size := (by omega)
      unfold edgeVal
      go_wp2_with fail
      refine (eqEdge_same _ _ _ _).mono ?_
      rintro e w5 ⟨rfl, hb5⟩
      (obtain ⟨hc5, hf5⟩ := bcell hb5); have hz5 := hb5.size; (try simp only [World.size_alloc, World.size_setCell, World.size_drew, World.size_drewN] at hz5); have hl5_0 : w2.heap.size < w5.heap.size := (by omega)
      go_wp2_with fail
      refine (lawsToIntS ao c b o xs _ hlen ha ((((((h.below hb1 (Nat.le_refl _)).below hb2 (Nat.le_refl _)).keep (keeps_alloc _ _)).below hb3 (Nat.le_refl _)).below hb4 (Nat.le_refl _)).keep (keeps_alloc _ _) |>.below hb5 (Nat.le_refl _))).mono ?_
      rintro e w6 ⟨ao6, c6, rfl, hown6, hb6, _⟩
      obtain ⟨b6, o6, ha6, hi6⟩ := hown6.src.ints'
      clear hown6
      go_wp2_with fail
      refine (lawsEqIntS ao3 ao6 b3 o3 c3 b6 o6 c6 xs xs w6 hl hl ha3 ((((hi3.below hb4 (Nat.le_refl _)).keep (keeps_alloc _ _)).below hb5 (Nat.le_refl _)).below hb6 (Nat.le_refl _)) ha6 hi6).mono ?_
      rw [decide_eq_true rfl]
      rintro e w7 ⟨rfl, hb7⟩
      go_wp2
      go_ret
      exact ⟨rfl, (by repeat' (first | (with_reducible exact Below.refl _ _) | (with_reducible assumption) | (with_reducible refine Below.alloc ?_ ?_ _) | (with_reducible refine Below.drew ?_) | (with_reducible refine below_drewN ?_ _) | (with_reducible refine Below.setCell ?_ ?_ _) | (refine bstep (by with_reducible assumption) ?_) | go_size))⟩
  · have hlen2 : (1048576 : Int) < xs.length := by omega
    go_enter Try.func8, Try.ntmps8
    go_wp2
    go_ret
    exact ⟨rfl, Below.refl _ _⟩
end Go.Proofs.Ytlanonimjbhjnaa
