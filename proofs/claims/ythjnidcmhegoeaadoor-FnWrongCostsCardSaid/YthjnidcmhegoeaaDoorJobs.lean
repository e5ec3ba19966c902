/- Jobs and programs: what the validity tests return. No statement of the seat is proved here. -/
import Derived.Test.YthjnidcmhegoeaaDoorRows
import Derived.WalkKit
import Derived.WalkSpells
import Derived.WalkLawsBesides
import Derived.Lib.Hide
import Derived.Handy
import Derived.BigQuiet
import Derived.Deep.QuietTactic
import Derived.Test.YthjnidcmhegoeaaDoorLib
set_option linter.unusedSimpArgs false
set_option linter.unusedVariables false
namespace Go.Proofs.YthjnidcmhegoeaaDoor
open Go.RowKit

def progOk (k s r : Int) : Bool :=
  if k = 1 ∨ k = 2 then decide (0 ≤ s ∧ s < 16 ∧ r = 0) else if k = 3 ∨ k = 5 then decide (s = 0 ∧ r = 0) else if k = 4 ∨ k = 6 then decide (s = 0 ∧ 1 ≤ r ∧ r ≤ 20) else false
def jobOk (k s r n : Int) : Bool := progOk k s r && decide (1 ≤ n ∧ n ≤ 6)

set_option maxRecDepth 100000 in
set_option maxHeartbeats 1000000 in
theorem implProgramValid (k s r : Int) (w : World) :
    Calls Tryd.prog 55 #[.agg #[.int .i64 k, .int .i64 s, .int .i64 r]] w fun e w' => e = .returned (.bool (progOk k s r)) ∧ Below w.heap.size w w' := by
  go_enter Tryd.func55, Tryd.ntmps55
  go_wp2
  all_goals (go_ret; exact ⟨ret_bool (bool_of_iff (by simp_all [progOk] <;> omega)), (by repeat' (first | (with_reducible exact Below.refl _ _) | (with_reducible assumption) | (with_reducible refine Below.alloc ?_ ?_ _) | (with_reducible refine Below.drew ?_) | (with_reducible refine below_drewN ?_ _) | (with_reducible refine Below.setCell ?_ ?_ _) | (refine bstep (by with_reducible assumption) ?_) | (refine bstep2 (by with_reducible assumption) (by first | omega | (simp; done) | (simp; omega)) ?_) | go_size))⟩)

set_option maxRecDepth 100000 in
set_option maxHeartbeats 1000000 in
theorem specL1In (a b c : Int) (w : World) :
    Calls Tryd.prog 51 #[.int .i64 a, .int .i64 b, .int .i64 c] w fun e w' => e = .returned (.bool (decide (b ≤ a ∧ a ≤ c))) ∧ w = w' := by
  go_enter Tryd.func51, Tryd.ntmps51
  go_wp2
  all_goals (go_ret; exact ⟨ret_bool (bool_of_iff (by simp_all <;> omega)), rfl⟩)

set_option maxRecDepth 100000 in
set_option maxHeartbeats 1000000 in
theorem implWorkersFit (a : Int) (w : World) :
    Calls Tryd.prog 56 #[.int .i64 a] w fun e w' => e = .returned (.bool (decide (1 ≤ a ∧ a ≤ 6))) ∧ w = w' := by
  go_enter Tryd.func56, Tryd.ntmps56
  go_wp2
  all_goals (go_ret; exact ⟨ret_bool (bool_of_iff (by simp_all <;> omega)), rfl⟩)

set_option maxRecDepth 100000 in
set_option maxHeartbeats 1000000 in
theorem specProgramValid (k s r : Int) (w : World) :
    Calls Tryd.prog 50 #[.agg #[.int .i64 k, .int .i64 s, .int .i64 r]] w fun e w' => e = .returned (.bool (progOk k s r)) ∧ Below w.heap.size w w' := by
  go_enter Tryd.func50, Tryd.ntmps50
  go_wp2_with (first | (go_at_call 51; refine (specL1In _ _ _ _).mono ?_; rintro e w1 ⟨rfl, rfl⟩))
  all_goals (go_ret; exact ⟨ret_bool (bool_of_iff (by simp_all [progOk] <;> omega)), (by repeat' (first | (with_reducible exact Below.refl _ _) | (with_reducible assumption) | (with_reducible refine Below.alloc ?_ ?_ _) | (with_reducible refine Below.drew ?_) | (with_reducible refine below_drewN ?_ _) | (with_reducible refine Below.setCell ?_ ?_ _) | (refine bstep (by with_reducible assumption) ?_) | (refine bstep2 (by with_reducible assumption) (by first | omega | (simp; done) | (simp; omega)) ?_) | go_size))⟩)

set_option maxRecDepth 100000 in
set_option maxHeartbeats 1000000 in
theorem implJobValid (k s r n : Int) (w : World) :
    Calls Tryd.prog 20 #[.agg #[.int .i64 k, .int .i64 s, .int .i64 r, .int .i64 n]] w fun e w' => e = .returned (.bool (jobOk k s r n)) ∧ Below w.heap.size w w' := by
  go_enter Tryd.func20, Tryd.ntmps20
  go_wp2_with fail
  refine (implProgramValid _ _ _ _).mono ?_
  rintro e w1 ⟨rfl, hb⟩
  (obtain ⟨hc, hf⟩ := bcell hb); (try simp only [World.size_drew, World.size_drewN] at hc hf); have hz := hb.size; (try simp only [World.size_alloc, World.size_setCell, World.size_drew, World.size_drewN] at hz); have hl_0 : w.heap.size < w1.heap.size := (by omega)
  go_wp2_with (first | (go_at_call 56; refine (implWorkersFit _ _).mono ?_; rintro e w1 ⟨rfl, rfl⟩))
  all_goals (go_ret; exact ⟨ret_bool (bool_of_iff (by simp_all [jobOk] <;> omega)), (by repeat' (first | (with_reducible exact Below.refl _ _) | (with_reducible assumption) | (with_reducible refine Below.alloc ?_ ?_ _) | (with_reducible refine Below.drew ?_) | (with_reducible refine below_drewN ?_ _) | (with_reducible refine Below.setCell ?_ ?_ _) | (refine bstep (by with_reducible assumption) ?_) | (refine bstep2 (by with_reducible assumption) (by first | omega | (simp; done) | (simp; omega)) ?_) | go_size))⟩)

set_option maxRecDepth 100000 in
set_option maxHeartbeats 1000000 in
theorem specJobValid (k s r n : Int) (w : World) :
    Calls Tryd.prog 15 #[.agg #[.int .i64 k, .int .i64 s, .int .i64 r, .int .i64 n]] w fun e w' => e = .returned (.bool (jobOk k s r n)) ∧ Below w.heap.size w w' := by
  go_enter Tryd.func15, Tryd.ntmps15
  go_wp2_with fail
  refine (specProgramValid _ _ _ _).mono ?_
  rintro e w1 ⟨rfl, hb⟩
  (obtain ⟨hc, hf⟩ := bcell hb); (try simp only [World.size_drew, World.size_drewN] at hc hf); have hz := hb.size; (try simp only [World.size_alloc, World.size_setCell, World.size_drew, World.size_drewN] at hz); have hl_0 : w.heap.size < w1.heap.size := (by omega)
  go_wp2_with (first | (go_at_call 51; refine (specL1In _ _ _ _).mono ?_; rintro e w1 ⟨rfl, rfl⟩))
  all_goals (go_ret; exact ⟨ret_bool (bool_of_iff (by simp_all [jobOk] <;> omega)), (by repeat' (first | (with_reducible exact Below.refl _ _) | (with_reducible assumption) | (with_reducible refine Below.alloc ?_ ?_ _) | (with_reducible refine Below.drew ?_) | (with_reducible refine below_drewN ?_ _) | (with_reducible refine Below.setCell ?_ ?_ _) | (refine bstep (by with_reducible assumption) ?_) | (refine bstep2 (by with_reducible assumption) (by first | omega | (simp; done) | (simp; omega)) ?_) | go_size))⟩)

set_option maxRecDepth 100000 in
set_option maxHeartbeats 1000000 in
theorem lawsToProgram (k s r : Int) (w : World) :
    Calls Tryd.prog 42 #[.agg #[.int .i64 k, .int .i64 s, .int .i64 r]] w fun e w' => e = .returned (.agg #[.int .i64 k, .int .i64 s, .int .i64 r]) ∧ Below w.heap.size w w' := by
  go_enter Tryd.func42, Tryd.ntmps42
  go_wp2
  go_returns
  exact ⟨rfl, (by repeat' (first | (with_reducible exact Below.refl _ _) | (with_reducible assumption) | (with_reducible refine Below.alloc ?_ ?_ _) | (with_reducible refine Below.drew ?_) | (with_reducible refine below_drewN ?_ _) | (with_reducible refine Below.setCell ?_ ?_ _) | (refine bstep (by with_reducible assumption) ?_) | (refine bstep2 (by with_reducible assumption) (by first | omega | (simp; done) | (simp; omega)) ?_) | go_size))⟩

set_option maxRecDepth 100000 in
set_option maxHeartbeats 1000000 in
theorem lawsToJob (k s r n : Int) (w : World) :
    Calls Tryd.prog 12 #[.agg #[.int .i64 k, .int .i64 s, .int .i64 r, .int .i64 n]] w fun e w' => e = .returned (.agg #[.int .i64 k, .int .i64 s, .int .i64 r, .int .i64 n]) ∧ Below w.heap.size w w' := by
  go_enter Tryd.func12, Tryd.ntmps12
  go_wp2_with fail
  refine (lawsToProgram _ _ _ _).mono ?_
  rintro e w1 ⟨rfl, hb⟩
  (obtain ⟨hc, hf⟩ := bcell hb); (try simp only [World.size_drew, World.size_drewN] at hc hf); have hz := hb.size; (try simp only [World.size_alloc, World.size_setCell, World.size_drew, World.size_drewN] at hz); have hl_0 : w.heap.size < w1.heap.size := (by omega); have hl_1 : w.heap.size + 1 < w1.heap.size := (by omega); have hl_2 : w.heap.size + 1 + 1 < w1.heap.size := (by omega)
  go_wp2
  refine bodyPost_ret (by simp [results, Tryd.results12, go_sem, hc, hf, hz]) rfl ⟨rfl, (by repeat' (first | (with_reducible exact Below.refl _ _) | (with_reducible assumption) | (with_reducible refine Below.alloc ?_ ?_ _) | (with_reducible refine Below.drew ?_) | (with_reducible refine below_drewN ?_ _) | (with_reducible refine Below.setCell ?_ ?_ _) | (refine bstep (by with_reducible assumption) ?_) | (refine bstep2 (by with_reducible assumption) (by first | omega | (simp; done) | (simp; omega)) ?_) | go_size))⟩

end Go.Proofs.YthjnidcmhegoeaaDoor
