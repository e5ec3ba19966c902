/- The law FnJobValid, walked. -/
import Derived.Test.YtlanonimjbhjnaaRows
import Derived.WalkKit
import Derived.WalkSpells
import Derived.WalkLawsBesides
import Derived.Lib.Hide
import Derived.Handy
import Derived.BigQuiet
import Derived.Deep.QuietTactic
import Derived.Test.YtlanonimjbhjnaaLib
import Derived.Test.YtlanonimjbhjnaaOwn
import Derived.Test.YtlanonimjbhjnaaJobs
import Derived.Test.YtlanonimjbhjnaaCodes
import Derived.Test.YtlanonimjbhjnaaCodes2
import Derived.Test.YtlanonimjbhjnaaDraw
import Derived.Test.YtlanonimjbhjnaaDrawJob
set_option linter.unusedSimpArgs false
set_option linter.unusedVariables false
namespace Go.Proofs.Ytlanonimjbhjnaa
open Go.RowKit

theorem jobOk_zero (k s r : Int) : jobOk k s r 0 = false := by simp [jobOk]
theorem progOk_of_jobOk {k s r n : Int} (h : jobOk k s r n = true) : progOk k s r = true := by simp [jobOk] at h; exact h.1

set_option maxRecDepth 100000 in
set_option maxHeartbeats 2000000 in
theorem fnJobValid (ao : Option Addr) (c b o : Nat) (bs : List Int) (w : World) (ha : At ao b o bs.length) (hin : Bytes w b o bs) (hby : ∀ z ∈ bs, 0 ≤ z ∧ z ≤ 255) (hl : bs.length ≤ c) (hc : c ≤ maxLen) :
    Calls Try.prog 5 #[.slice ao bs.length c] w fun e w' => e = .returned (.bool true) ∧ Below w.heap.size w w' := by
  have hc' := hc
  unfold maxLen at hc'
  by_cases hlen : bs.length ≤ 1048576
  · have hlen2 : ¬ (1048576 : Int) < bs.length := by omega
    go_enter Try.func5, Try.ntmps5
    go_wp2_with fail
    refine (drawJobValid ao c b o bs w ha hin hby hl hc).mono ?_
    rintro e w1 ⟨k, s, r, n, rfl, hb1⟩
    have hz1 := hb1.size
    go_wp2_with fail
    refine (implJobValid k s r n _).mono ?_
    rintro e w2 ⟨rfl, hb2⟩
    (obtain ⟨hc2, hf2⟩ := bcell hb2); have hz2 := hb2.size; (try simp only [World.size_alloc, World.size_setCell, World.size_drew, World.size_drewN] at hz2); have hl2_0 : w1.heap.size < w2.heap.size := (by omega)
    go_wp2_with fail
    refine (specJobValid k s r n _).mono ?_
    rintro e w3 ⟨rfl, hb3⟩
    (obtain ⟨hc3, hf3⟩ := bcell hb3); have hz3 := hb3.size; (try simp only [World.size_alloc, World.size_setCell, World.size_drew, World.size_drewN] at hz3); have hl3_0 : w1.heap.size < w3.heap.size := (by omega)
    have HI := fun w => Lib.hid (implJobValid k s r 0 w)
    rw [jobOk_zero] at HI
    have HI2 := Lib.hid HI
    clear HI
    have HP := fun h : jobOk k s r n = true => Lib.hid (progOk_of_jobOk h)
    have HP := Lib.hid HP
    cases hj : jobOk k s r n
    · have HJ := Lib.hid hj
      go_wp2_with (first | (go_at_call 16; refine (HI2.out _).out.mono ?_; rintro e w4 ⟨rfl, hb4⟩; (obtain ⟨hc4, hf4⟩ := bcell hb4); have hz4 := hb4.size; (try simp only [World.size_alloc, World.size_setCell, World.size_drew, World.size_drewN] at hz4); have hl4_0 : w1.heap.size < w4.heap.size := (by omega)) | (go_at_call 23; refine (alive _).mono ?_; rintro e w5 ⟨rfl, hb5⟩))
      all_goals
        go_ret
        exact ⟨rfl, (by repeat' (first | (with_reducible exact Below.refl _ _) | (with_reducible assumption) | (with_reducible refine Below.alloc ?_ ?_ _) | (with_reducible refine Below.drew ?_) | (with_reducible refine below_drewN ?_ _) | (with_reducible refine Below.setCell ?_ ?_ _) | (refine bstep (by with_reducible assumption) ?_) | go_size))⟩
    · have HQ := (HP.out hj).out
      have HJ := Lib.hid hj
      have HQ := Lib.hid HQ
      clear HP
      go_wp2_with (first | (go_at_call 16; refine (HI2.out _).out.mono ?_; rintro e w4 ⟨rfl, hb4⟩; (obtain ⟨hc4, hf4⟩ := bcell hb4); have hz4 := hb4.size; (try simp only [World.size_alloc, World.size_setCell, World.size_drew, World.size_drewN] at hz4); have hl4_0 : w1.heap.size < w4.heap.size := (by omega)) | (go_at_call 22; refine (implProgramValid _ _ _ _).mono ?_; rw [HQ.out]; rintro e w6 ⟨rfl, hb6⟩) | (go_at_call 23; refine (alive _).mono ?_; rintro e w5 ⟨rfl, hb5⟩))
      all_goals
        go_ret
        exact ⟨rfl, (by repeat' (first | (with_reducible exact Below.refl _ _) | (with_reducible assumption) | (with_reducible refine Below.alloc ?_ ?_ _) | (with_reducible refine Below.drew ?_) | (with_reducible refine below_drewN ?_ _) | (with_reducible refine Below.setCell ?_ ?_ _) | (refine bstep (by with_reducible assumption) ?_) | go_size))⟩
  · have hlen2 : (1048576 : Int) < bs.length := by omega
    go_enter Try.func5, Try.ntmps5
    go_wp2
    go_ret
    exact ⟨rfl, Below.refl _ _⟩
end Go.Proofs.Ytlanonimjbhjnaa
