/- The plain law of CostsRight: the reference's walk along the row of parents and the program's say the same. No program in sight. -/
import Derived.WalkKit
import Derived.Handy
set_option linter.unusedSimpArgs false
set_option linter.unusedVariables false
namespace Go.Proofs.YthjnidcmhegoeaaDoor.Costs
section
variable (M : Nat) (s : Int) (d f : Int → Int) (w : Int → Int → Int)
def inn (lo hi v : Int) : Bool := decide (lo ≤ v ∧ v ≤ hi)
def stepS (v p : Int) : Bool := inn 0 ((M : Int) - 1) p && !decide (w p v < 0) && !decide (d p < 0) && decide (IntKind.i64.wrap (d p + w p v) = d v)
def runS : Nat → Int → Bool
  | 0, v => decide (v = s)
  | n + 1, v => decide (v = s) || (stepS M d w v (f v) && runS n (f v))
def climb : Nat → Int → Bool
  | 0, v => decide (v = s)
  | n + 1, v => decide (v = s) || (!(decide (v < 0) || decide (v ≥ (M : Int))) && climb n (f v))
def vS (v : Int) : Bool := !(decide (d v < -1) || (decide (d v = -1) && !decide (f v = -1))) && (decide (d v = -1) || decide (v = s) || runS M s d f w (M + 1) v)
def vI (v : Int) : Bool := decide (v = s) || (if d v = -1 then decide (f v = -1) else !(decide (d v < 0) || decide (w (f v) v < 0) || !decide (d (f v) = IntKind.i64.wrap (d v - w (f v) v))) && climb M s f M (f v))
def eS (e : Int × Int × Int) : Bool := !(decide (0 ≤ d e.1) && !inn 0 (IntKind.i64.wrap (d e.1 + e.2.2)) (d e.2.1))
def eI (e : Int × Int × Int) : Bool := !(decide (0 ≤ d e.1) && (decide (d e.2.1 < 0) || decide (d e.1 < IntKind.i64.wrap (d e.2.1 - e.2.2))))
end
section
variable {M : Nat} {s : Int} {d f : Int → Int} {w : Int → Int → Int}
theorem wr_in {x : Int} (h0 : -9223372036854775808 ≤ x) (h1 : x ≤ 9223372036854775807) : IntKind.i64.wrap x = x := IntWalk.i64_in _ (by omega)
theorem wr_over {x : Int} (h0 : 9223372036854775807 < x) (h1 : x ≤ 9223372036854775807 + 100) : IntKind.i64.wrap x < 0 := by
  have h : IntKind.i64.wrap x = x - 18446744073709551616 := by
    have : IntKind.i64.wrap (x - 18446744073709551616) = x - 18446744073709551616 := IntWalk.i64_in _ (by omega)
    rw [← this]
    unfold IntKind.wrap
    simp [IntKind.bits, IntKind.signed]
    try omega
  omega
structure Good (M : Nat) (s : Int) (d f : Int → Int) (w : Int → Int → Int) : Prop where
  hM : M ≤ 16
  s0 : 0 ≤ s
  s1 : s < M
  ds : d s = 0
  fs : f s = -1
  hd : ∀ v, -9223372036854775808 ≤ d v ∧ d v ≤ 9223372036854775807
  hw : ∀ p v, 0 ≤ w p v → (0 ≤ p ∧ p < M) ∧ w p v ≤ 20
theorem step_of (g : Good M s d f w) {v p : Int} (h : stepS M d w v p = true) : (0 ≤ p ∧ p < M) ∧ 0 ≤ w p v ∧ w p v ≤ 20 ∧ 0 ≤ d p ∧ IntKind.i64.wrap (d p + w p v) = d v := by
  unfold stepS inn at h
  simp only [Bool.and_eq_true, Bool.not_eq_true', decide_eq_true_eq, decide_eq_false_iff_not] at h
  have := (g.hw p v (by omega)).2
  exact ⟨by omega, by omega, this, by omega, h.2⟩
theorem add_of (g : Good M s d f w) {v p : Int} (h0 : 0 ≤ d v) (h1 : 0 ≤ d p) (h2 : 0 ≤ w p v) (h3 : w p v ≤ 20) (h : IntKind.i64.wrap (d p + w p v) = d v) : d p = d v - w p v := by
  have := g.hd p
  by_cases ho : d p + w p v ≤ 9223372036854775807
  · rw [wr_in (by omega) ho] at h; omega
  · have := wr_over (x := d p + w p v) (by omega) (by omega); omega
theorem climb_of_run (g : Good M s d f w) : ∀ (n : Nat) (v : Int), 0 ≤ v → v < M → runS M s d f w n v = true → climb M s f n v = true
  | 0, v, _, _, h => h
  | n + 1, v, h0, h1, h => by
    unfold runS at h; unfold climb
    rcases Bool.or_eq_true _ _ ▸ h with h | h
    · rw [h]; rfl
    · rw [Bool.and_eq_true] at h
      obtain ⟨hs, hr⟩ := h
      obtain ⟨hp, _⟩ := step_of g hs
      rw [climb_of_run g n (f v) hp.1 hp.2 hr, decide_eq_false (show ¬ v < 0 by omega), decide_eq_false (show ¬ v ≥ (M : Int) by omega)]
      simp
theorem climb_dead (g : Good M s d f w) : ∀ n, climb M s f n (-1) = false
  | 0 => by have := g.s0; unfold climb; simp; omega
  | n + 1 => by have := g.s0; unfold climb; simp; omega
theorem vI_of (g : Good M s d f w) {v : Int} (h : vI M s d f w v = true) (hv : v ≠ s) (hd : d v ≠ -1) : 0 ≤ d v ∧ 0 ≤ w (f v) v ∧ w (f v) v ≤ 20 ∧ d (f v) = d v - w (f v) v ∧ climb M s f M (f v) = true := by
  unfold vI at h
  rw [decide_eq_false hv, Bool.false_or, if_neg hd] at h
  simp only [Bool.and_eq_true, Bool.not_eq_true', Bool.or_eq_false_iff, decide_eq_false_iff_not, Bool.not_eq_false', decide_eq_true_eq] at h
  obtain ⟨⟨⟨h1, h2⟩, h3⟩, h4⟩ := h
  have := (g.hw (f v) v (by omega)).2
  have := g.hd v
  rw [wr_in (by omega) (by omega)] at h3
  exact ⟨by omega, by omega, by omega, h3, h4⟩
theorem run_of_climb (g : Good M s d f w) (hI : ∀ v : Int, 0 ≤ v → v < (M : Int) → vI M s d f w v = true) : ∀ (n : Nat) (v : Int), 0 ≤ v → v < M → climb M s f n v = true → runS M s d f w n v = true ∧ 0 ≤ d v ∧ d v ≤ 20 * n
  | 0, v, _, _, h => by
    obtain rfl : v = s := by simpa [climb] using h
    exact ⟨h, by rw [g.ds]; simp, by rw [g.ds]; simp⟩
  | n + 1, v, h0, h1, h => by
    by_cases hv : v = s
    · subst hv
      exact ⟨by unfold runS; simp, by rw [g.ds]; simp, by rw [g.ds]; omega⟩
    · unfold climb at h
      rw [decide_eq_false hv, Bool.false_or, Bool.and_eq_true] at h
      have hc := h.2
      by_cases hd : d v = -1
      · have hi := hI v h0 h1
        unfold vI at hi
        rw [decide_eq_false hv, Bool.false_or, if_pos hd, decide_eq_true_eq] at hi
        rw [hi, climb_dead g] at hc
        cases hc
      · obtain ⟨e1, e2, e3, e4, _⟩ := vI_of g (hI v h0 h1) hv hd
        have hp := (g.hw _ _ e2).1
        obtain ⟨r1, r2, r3⟩ := run_of_climb g hI n (f v) hp.1 hp.2 hc
        have hgd := g.hd v
        refine ⟨?_, e1, by omega⟩
        unfold runS
        rw [r1]
        have : stepS M d w v (f v) = true := by
          unfold stepS inn
          rw [wr_in (by omega) (by omega)]
          simp only [Bool.and_eq_true, Bool.not_eq_true', decide_eq_true_eq, decide_eq_false_iff_not]
          omega
        rw [this]; simp
theorem same (g : Good M s d f w) (es : List (Int × Int × Int)) (he : ∀ e ∈ es, (0 ≤ e.1 ∧ e.1 < M) ∧ (0 ≤ e.2.2 ∧ e.2.2 ≤ 20)) :
    ((∀ e ∈ es, eS d e = true) ∧ ∀ v, 0 ≤ v → v < (M : Int) → vS M s d f w v = true) ↔ ((∀ v, 0 ≤ v → v < (M : Int) → vI M s d f w v = true) ∧ ∀ e ∈ es, eI d e = true) := by
  constructor
  · rintro ⟨hE, hV⟩
    refine ⟨fun v h0 h1 => ?_, fun e hm => ?_⟩
    · have h := hV v h0 h1
      by_cases hv : v = s
      · unfold vI; simp [hv]
      unfold vS at h
      rw [Bool.and_eq_true, Bool.not_eq_true', Bool.or_eq_false_iff, decide_eq_false_iff_not] at h
      obtain ⟨⟨a1, a2⟩, a3⟩ := h
      unfold vI
      rw [decide_eq_false hv, Bool.false_or]
      by_cases hd : d v = -1
      · rw [if_pos hd]
        rw [decide_eq_true hd, Bool.true_and, Bool.not_eq_false'] at a2
        exact a2
      · rw [if_neg hd]
        rw [decide_eq_false hd, decide_eq_false hv, Bool.false_or, Bool.false_or] at a3
        unfold runS at a3
        rw [decide_eq_false hv, Bool.false_or, Bool.and_eq_true] at a3
        obtain ⟨hp, w0, w1, p0, ha⟩ := step_of g a3.1
        have hs := add_of g (by omega) p0 w0 w1 ha
        have hgd := g.hd v
        rw [climb_of_run g M (f v) hp.1 hp.2 a3.2, wr_in (by omega) (by omega)]
        simp only [Bool.and_true, Bool.not_eq_true', Bool.or_eq_false_iff, decide_eq_false_iff_not, Bool.not_eq_false', decide_eq_true_eq]
        omega
    · have h := hE e hm
      have hh := he e hm
      have h1 := g.hd e.1
      have h2 := g.hd e.2.1
      unfold eS inn at h
      unfold eI
      rw [Bool.not_eq_true', Bool.and_eq_false_imp] at h ⊢
      intro h0
      have h := h h0
      rw [decide_eq_true_eq] at h0
      rw [Bool.not_eq_false', decide_eq_true_eq] at h
      rw [wr_in (x := d e.2.1 - e.2.2) (by omega) (by omega), Bool.or_eq_false_iff, decide_eq_false_iff_not, decide_eq_false_iff_not]
      by_cases ho : d e.1 + e.2.2 ≤ 9223372036854775807
      · rw [wr_in (by omega) ho] at h; omega
      · have := wr_over (x := d e.1 + e.2.2) (by omega) (by omega); omega
  · rintro ⟨hV, hE⟩
    have bound : ∀ v, 0 ≤ v → v < (M : Int) → v ≠ s → d v ≠ -1 → runS M s d f w (M + 1) v = true ∧ 0 ≤ d v ∧ d v ≤ 20 * (M + 1) := fun v h0 h1 hv hd => by
      obtain ⟨e1, e2, e3, e4, e5⟩ := vI_of g (hV v h0 h1) hv hd
      have hp := (g.hw _ _ e2).1
      exact run_of_climb g hV (M + 1) v h0 h1 (by
        unfold climb
        rw [e5, decide_eq_false (show ¬ v < 0 by omega), decide_eq_false (show ¬ v ≥ (M : Int) by omega)]; simp)
    have hM := g.hM
    refine ⟨fun e hm => ?_, fun v h0 h1 => ?_⟩
    · have h := hE e hm
      have hh := he e hm
      have h2 := g.hd e.2.1
      unfold eI at h
      unfold eS inn
      rw [Bool.not_eq_true', Bool.and_eq_false_imp] at h ⊢
      intro h0
      have h := h h0
      rw [decide_eq_true_eq] at h0
      rw [Bool.or_eq_false_iff, decide_eq_false_iff_not, decide_eq_false_iff_not] at h
      have hb : d e.1 ≤ 20 * (M + 1) := by
        by_cases hs : e.1 = s
        · rw [hs, g.ds]; omega
        · exact (bound e.1 hh.1.1 hh.1.2 hs (by omega)).2.2
      rw [wr_in (x := d e.2.1 - e.2.2) (by omega) (by omega)] at h
      rw [wr_in (by omega) (by omega), Bool.not_eq_false', decide_eq_true_eq]
      omega
    · by_cases hv : v = s
      · subst hv; unfold vS; rw [g.ds]; simp
      · by_cases hd : d v = -1
        · have hi := hV v h0 h1
          unfold vI at hi
          rw [decide_eq_false hv, Bool.false_or, if_pos hd, decide_eq_true_eq] at hi
          unfold vS
          simp [hd, hi]
        · obtain ⟨b1, b2, b3⟩ := bound v h0 h1 hv hd
          unfold vS
          rw [b1, decide_eq_false (show ¬ d v < -1 by omega), decide_eq_false hd]
          simp
end
end Go.Proofs.YthjnidcmhegoeaaDoor.Costs
