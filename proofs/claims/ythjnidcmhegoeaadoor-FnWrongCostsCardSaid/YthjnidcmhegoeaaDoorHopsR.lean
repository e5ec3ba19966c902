/- HopsRight as plain laws: what both texts compute is the same. No statement of the seat is proved here. -/
import Derived.Test.YthjnidcmhegoeaaDoorRows
import Derived.WalkKit
import Derived.WalkSpells
import Derived.WalkLawsBesides
import Derived.Lib.Hide
import Derived.Handy
import Derived.BigQuiet
import Derived.Deep.QuietTactic
import Derived.Test.YthjnidcmhegoeaaDoorLib
import Derived.Test.YthjnidcmhegoeaaDoorOwn
import Derived.Test.YthjnidcmhegoeaaDoorJobs
import Derived.Test.YthjnidcmhegoeaaDoorCodes3
import Derived.Test.YthjnidcmhegoeaaDoorFrames2
import Derived.Test.YthjnidcmhegoeaaDoorGraphs
import Derived.Test.YthjnidcmhegoeaaDoorGValid
set_option linter.unusedSimpArgs false
set_option linter.unusedVariables false
namespace Go.Proofs.YthjnidcmhegoeaaDoor
open Go.RowKit

theorem count_up : ∀ (n : Nat) (xs : List Int), (∀ j : Nat, j ≤ n → (j : Int) ∈ xs) → n < xs.length
  | 0, xs, h => by
    have := h 0 (Nat.le_refl _)
    cases xs with
    | nil => simp at this
    | cons a t => simp
  | n + 1, xs, h => by
    have h1 := count_up n (xs.erase ((n + 1 : Nat) : Int)) (fun j hj => (List.mem_erase_of_ne (by omega)).2 (h j (by omega)))
    rw [List.length_erase_of_mem (h (n + 1) (Nat.le_refl _))] at h1
    omega

/-- The value of a vertex. -/
def val (vs : List Int) (v : Int) : Int := vs.getD v.toNat 0
def c1 (s : Int) (vs : List Int) (v : Int) : Bool := decide (-1 ≤ val vs v) && (decide (val vs v = 0) == decide (v = s))
def kp (vs : List Int) (d : Int) (e : E3) : Bool := decide (val vs e.1 < 0) || (decide (0 ≤ val vs e.2.1) && decide (val vs e.2.1 - d ≤ val vs e.1))
def kpS (vs : List Int) (e : E3) : Bool := decide (val vs e.1 < 0) || (decide (0 ≤ val vs e.2.1) && decide (val vs e.2.1 ≤ IntKind.i64.wrap (val vs e.1 + 1)))
def lk (vs : List Int) (v : Int) (e : E3) : Bool := decide (e.2.1 = v) && decide (val vs e.1 = val vs v - 1)
def fd (es : List E3) (vs : List Int) (v : Int) : Bool := decide (val vs v ≤ 0) || es.any (lk vs v)
def vset (m : Nat) : List Int := (List.range m).map fun (i : Nat) => (i : Int)
/-- What the reference computes, and what the program computes, behind the tests on the arguments. -/
def hopsS (m : Nat) (es : List E3) (s : Int) (vs : List Int) : Bool := (vset m).all fun v => c1 s vs v && es.all (fun e => decide (e.1 ≠ v) || kpS vs e) && fd es vs v
def hopsI (m : Nat) (es : List E3) (s : Int) (vs : List Int) : Bool := (vset m).all (c1 s vs) && es.all (kp vs 1) && (vset m).all (fd es vs)

theorem mem_vset {m : Nat} {v : Int} : v ∈ vset m ↔ 0 ≤ v ∧ v < m := by
  simp only [vset, List.mem_map, List.mem_range]
  constructor
  · rintro ⟨i, hi, rfl⟩; omega
  · rintro ⟨h0, h1⟩; exact ⟨v.toNat, by omega, by omega⟩

theorem chain_valid {P : Int → Bool} : ∀ (es : List E3) (p : Option E3), chain P p es = true → ∀ e ∈ es, P e.1 = true ∧ P e.2.1 = true ∧ e.1 ≠ e.2.1 ∧ 0 ≤ e.2.2 ∧ e.2.2 ≤ 20
  | [], _, _, e, h => by simp at h
  | x :: t, p, h, e, he => by
    simp only [chain, Bool.and_eq_true] at h
    rcases List.mem_cons.1 he with rfl | he
    · have := h.1.1
      simp only [eOk, Bool.and_eq_true, decide_eq_true_eq] at this
      exact ⟨this.1.1.1, this.1.1.2, this.1.2, this.2.1, this.2.2⟩
    · exact chain_valid t _ h.2 e he
theorem gOk_edges {m : Int} {es : List E3} (h : gOk m es = true) : ∀ e ∈ es, (0 ≤ e.1 ∧ e.1 < m) ∧ (0 ≤ e.2.1 ∧ e.2.1 < m) ∧ e.1 ≠ e.2.1 ∧ 0 ≤ e.2.2 ∧ e.2.2 ≤ 20 := by
  intro e he
  simp only [gOk, Bool.and_eq_true] at h
  obtain ⟨h1, h2, h3⟩ := chain_valid es none h.2 e he
  simp only [hasV, decide_eq_true_eq] at h1 h2
  exact ⟨h1, h2, h3⟩

/-- Where every value has a lesser one before it, no value is as great as the number of vertices. -/
theorem vals_small {m : Nat} {es : List E3} {vs : List Int} (hv : ∀ e ∈ es, 0 ≤ e.1 ∧ e.1 < (m : Int)) (hl : vs.length = m) (h : ∀ v ∈ vset m, fd es vs v = true) : ∀ v ∈ vset m, val vs v < m := by
  intro v hv0
  by_cases hneg : val vs v < 0
  · omega
  have key : ∀ j : Nat, (j : Int) ≤ val vs v → ∃ u ∈ vset m, val vs u = val vs v - j := by
    intro j
    induction j with
    | zero => intro _; exact ⟨v, hv0, by omega⟩
    | succ j ih =>
      intro hj
      obtain ⟨u, hu, hval⟩ := ih (by omega)
      have hf := h u hu
      simp only [fd, Bool.or_eq_true, decide_eq_true_eq, List.any_eq_true] at hf
      rcases hf with hf | ⟨e, he, hlk⟩
      · omega
      · simp only [lk, Bool.and_eq_true, decide_eq_true_eq] at hlk
        exact ⟨e.1, mem_vset.2 (hv e he), by omega⟩
  have hc := count_up (val vs v).toNat vs (fun j hj => by
    obtain ⟨u, hu, hval⟩ := key ((val vs v).toNat - j) (by omega)
    have h0 := mem_vset.1 hu
    have : val vs u ∈ vs := by
      unfold val
      rw [List.getD_eq_getElem?_getD, List.getElem?_eq_getElem (by omega)]
      exact List.getElem_mem _
    rw [hval] at this
    have e : val vs v - (((val vs v).toNat - j : Nat) : Int) = (j : Int) := by omega
    rw [e] at this
    exact this)
  omega

theorem hops_same {m : Nat} {es : List E3} {s : Int} {vs : List Int} (hm : m ≤ 16) (hg : ∀ e ∈ es, (0 ≤ e.1 ∧ e.1 < (m : Int)) ∧ (0 ≤ e.2.1 ∧ e.2.1 < (m : Int))) (hl : vs.length = m) : hopsS m es s vs = hopsI m es s vs := by
  rw [Bool.eq_iff_iff]
  simp only [hopsS, hopsI, List.all_eq_true, Bool.and_eq_true, Bool.or_eq_true, decide_eq_true_eq]
  constructor
  · intro h
    have hf : ∀ v ∈ vset m, fd es vs v = true := fun v hv => (h v hv).2
    have hs := vals_small (fun e he => (hg e he).1) hl hf
    refine ⟨⟨fun v hv => (h v hv).1.1, fun e he => ?_⟩, hf⟩
    have hv : e.1 ∈ vset m := mem_vset.2 (hg e he).1
    have h1 := (h e.1 hv).1.2 e he
    have h2 : kpS vs e = true := by rcases h1 with h1 | h1; exact absurd rfl h1; exact h1
    have h3 := hs e.1 hv
    by_cases hn : val vs e.1 < 0
    · simp [kp, hn]
    · have h4 : IntKind.i64.wrap (val vs e.1 + 1) = val vs e.1 + 1 := IntWalk.i64_in _ (by omega)
      simp only [kpS, h4, Bool.or_eq_true, Bool.and_eq_true, decide_eq_true_eq] at h2
      simp only [kp, Bool.or_eq_true, Bool.and_eq_true, decide_eq_true_eq]
      omega
  · rintro ⟨⟨h1, h2⟩, hf⟩ v hv
    have hs := vals_small (fun e he => (hg e he).1) hl hf
    refine ⟨⟨h1 v hv, fun e he => ?_⟩, hf v hv⟩
    by_cases hev : e.1 = v
    · refine .inr ?_
      subst hev
      have h3 := hs e.1 hv
      have h4 := h2 e he
      by_cases hn : val vs e.1 < 0
      · simp [kpS, hn]
      · have h5 : IntKind.i64.wrap (val vs e.1 + 1) = val vs e.1 + 1 := IntWalk.i64_in _ (by omega)
        simp only [kp, Bool.or_eq_true, Bool.and_eq_true, decide_eq_true_eq] at h4
        simp only [kpS, h5, Bool.or_eq_true, Bool.and_eq_true, decide_eq_true_eq]
        omega
    · exact .inl hev
end Go.Proofs.YthjnidcmhegoeaaDoor
