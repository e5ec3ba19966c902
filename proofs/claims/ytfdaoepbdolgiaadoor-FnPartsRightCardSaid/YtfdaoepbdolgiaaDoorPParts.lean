/- The plain law of PartsRight: the reference's walk along the parents and the program's say the same. No program in sight. -/
import Derived.Test.YtfdaoepbdolgiaaDoorPCosts
set_option linter.unusedSimpArgs false
set_option linter.unusedVariables false
namespace Go.Proofs.YtfdaoepbdolgiaaDoor.Parts
open Go.Proofs.YtfdaoepbdolgiaaDoor.Costs (climb inn)
section
variable (M : Nat) (d f : Int → Int) (near : Int → Int → Bool)
def runP (R : Int) : Nat → Int → Bool
  | 0, v => decide (v = R)
  | n + 1, v => decide (v = R) || ((near v (f v) && decide (d (f v) = R)) && runP R n (f v))
def vS (v : Int) : Bool := !((decide (d v = v) && !decide (f v = -1)) || !inn 0 v (d v)) && runP d f near (d v) (M + 1) v
def vI (v : Int) : Bool := if d v = v then decide (f v = -1) else decide (d v ≤ v) && decide (0 ≤ d v ∧ d v < M) && near v (f v) && decide (d (f v) = d v) && climb M (d v) f M (f v)
end
section
variable {M : Nat} {d f : Int → Int} {near : Int → Int → Bool}
theorem climb_of_run (hn : ∀ v p, near v p = true → 0 ≤ p ∧ p < (M : Int)) {R : Int} : ∀ (n : Nat) (v : Int), 0 ≤ v → v < (M : Int) → runP d f near R n v = true → climb M R f n v = true
  | 0, v, _, _, h => h
  | n + 1, v, h0, h1, h => by
    unfold runP at h; unfold climb
    rcases Bool.or_eq_true _ _ ▸ h with h | h
    · rw [h]; rfl
    · rw [Bool.and_eq_true, Bool.and_eq_true] at h
      have hp := hn _ _ h.1.1
      rw [climb_of_run hn n (f v) hp.1 hp.2 h.2, decide_eq_false (show ¬ v < 0 by omega), decide_eq_false (show ¬ v ≥ (M : Int) by omega)]
      simp
theorem vI_of {v : Int} (h : vI M d f near v = true) (hv : d v ≠ v) : (d v ≤ v) ∧ (0 ≤ d v ∧ d v < M) ∧ near v (f v) = true ∧ d (f v) = d v ∧ climb M (d v) f M (f v) = true := by
  unfold vI at h
  rw [if_neg hv] at h
  simp only [Bool.and_eq_true, decide_eq_true_eq] at h
  exact ⟨h.1.1.1.1, h.1.1.1.2, h.1.1.2, h.1.2, h.2⟩
theorem run_of_climb (hn : ∀ v p, near v p = true → 0 ≤ p ∧ p < (M : Int)) (hI : ∀ v : Int, 0 ≤ v → v < (M : Int) → vI M d f near v = true) {R : Int} : ∀ (n : Nat) (v : Int), 0 ≤ v → v < (M : Int) → d v = R → climb M R f n v = true → runP d f near R n v = true
  | 0, v, _, _, _, h => h
  | n + 1, v, h0, h1, hd, h => by
    unfold runP
    by_cases hv : v = R
    · rw [decide_eq_true hv]; rfl
    · unfold climb at h
      rw [decide_eq_false hv, Bool.false_or, Bool.and_eq_true] at h
      obtain ⟨_, _, e3, e4, _⟩ := vI_of (hI v h0 h1) (fun e => hv (by rw [← hd, e]))
      have hp := hn _ _ e3
      rw [e3, decide_eq_true (by rw [e4, hd] : d (f v) = R), run_of_climb hn hI n (f v) hp.1 hp.2 (by rw [e4, hd]) h.2]
      simp
theorem same (hn : ∀ v p, near v p = true → 0 ≤ p ∧ p < (M : Int)) : (∀ v : Int, 0 ≤ v → v < (M : Int) → vS M d f near v = true) ↔ ∀ v : Int, 0 ≤ v → v < (M : Int) → vI M d f near v = true := by
  constructor
  · intro hV v h0 h1
    have h := hV v h0 h1
    unfold vS inn at h
    rw [Bool.and_eq_true, Bool.not_eq_true', Bool.or_eq_false_iff] at h
    obtain ⟨⟨a1, a2⟩, a3⟩ := h
    rw [Bool.not_eq_false', decide_eq_true_eq] at a2
    unfold vI
    by_cases hd : d v = v
    · rw [if_pos hd]
      rw [decide_eq_true hd, Bool.true_and, Bool.not_eq_false'] at a1
      exact a1
    · rw [if_neg hd]
      unfold runP at a3
      rw [decide_eq_false (fun e => hd e.symm), Bool.false_or, Bool.and_eq_true, Bool.and_eq_true] at a3
      have hp := hn _ _ a3.1.1
      rw [a3.1.1, a3.1.2, climb_of_run hn M (f v) hp.1 hp.2 a3.2, decide_eq_true a2.2, decide_eq_true (show 0 ≤ d v ∧ d v < M by omega)]
      rfl
  · intro hI v h0 h1
    have h := hI v h0 h1
    unfold vS inn
    by_cases hd : d v = v
    · unfold vI at h
      rw [if_pos hd] at h
      unfold runP
      rw [h, hd]
      simp; omega
    · obtain ⟨e1, e2, e3, e4, e5⟩ := vI_of h hd
      have hr := run_of_climb hn hI (M + 1) v h0 h1 rfl (by
        unfold climb
        rw [e5, decide_eq_false (show ¬ v < 0 by omega), decide_eq_false (show ¬ v ≥ (M : Int) by omega)]; simp)
      rw [hr, decide_eq_false hd, decide_eq_true (show 0 ≤ d v ∧ d v ≤ v by omega)]
      rfl
end
end Go.Proofs.YtfdaoepbdolgiaaDoor.Parts
