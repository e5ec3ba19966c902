/- Adding an edge, as plain data. No statement of the seat is proved here. -/
import Derived.Test.YtlobefglhppbdaaGreatDoorCtGValid
set_option linter.unusedSimpArgs false
set_option linter.unusedVariables false
namespace Go.Proofs.YtlobefglhppbdaaGreatDoor
def insStep (e : E3) (s : List E3 × Bool) (o : E3) : List E3 × Bool :=
  if s.2 = false ∧ before o e = false then (if o.1 = e.1 ∧ o.2.1 = e.2.1 then (s.1 ++ [e], true) else (s.1 ++ [e] ++ [o], true)) else (s.1 ++ [o], s.2)
def insF (e : E3) (es : List E3) : List E3 × Bool := es.foldl (insStep e) ([], false)
def ins (e : E3) (es : List E3) : List E3 := if (insF e es).2 = true then (insF e es).1 else (insF e es).1 ++ [e]
theorem insF_snoc (e : E3) (es : List E3) (o : E3) : insF e (es ++ [o]) = insStep e (insF e es) o := by unfold insF; rw [List.foldl_append]; rfl
theorem insF_take {e : E3} {es : List E3} {k : Nat} (h : k < es.length) : insF e (es.take (k + 1)) = insStep e (insF e (es.take k)) es[k] := by
  rw [List.take_succ_eq_append_getElem h, insF_snoc]
theorem insStep_len (e : E3) (s : List E3 × Bool) (o : E3) : s.1.length < (insStep e s o).1.length ∧ (insStep e s o).1.length ≤ s.1.length + 1 + (if s.2 = false ∧ (insStep e s o).2 = true then 1 else 0) ∧ (s.2 = true → (insStep e s o).2 = true) := by
  obtain ⟨xs, p⟩ := s
  unfold insStep
  cases p
  · by_cases h : before o e = false
    · simp only [h, and_self, if_true]
      split <;> simp
    · simp [h]
  · simp
theorem insF_len (e : E3) (es : List E3) : (insF e es).1.length ≤ es.length + (if (insF e es).2 = true then 1 else 0) ∧ (es ≠ [] → (insF e es).1 ≠ []) := by
  have key : ∀ (ys : List E3) (s : List E3 × Bool) (n : Nat), s.1.length ≤ n + (if s.2 = true then 1 else 0) → (ys.foldl (insStep e) s).1.length ≤ n + ys.length + (if (ys.foldl (insStep e) s).2 = true then 1 else 0) ∧ s.1.length ≤ (ys.foldl (insStep e) s).1.length ∧ (ys ≠ [] → s.1.length < (ys.foldl (insStep e) s).1.length) := by
    intro ys
    induction ys with
    | nil => intro s n h; exact ⟨by simp only [List.foldl_nil, List.length_nil, Nat.add_zero]; exact h, Nat.le_refl _, fun h => absurd rfl h⟩
    | cons y ys ih =>
      intro s n h
      obtain ⟨a1, a2, a3⟩ := insStep_len e s y
      have hs : (insStep e s y).1.length ≤ (n + 1) + (if (insStep e s y).2 = true then 1 else 0) := by
        cases h2 : s.2 with
        | true =>
          rw [a3 h2] at a2 ⊢
          rw [h2] at h a2
          simp at h a2 ⊢; omega
        | false =>
          rw [h2] at h a2
          cases h3 : (insStep e s y).2
          · rw [h3] at a2; simp at h a2 ⊢; omega
          · rw [h3] at a2; simp at h a2 ⊢; omega
      obtain ⟨b1, b2, b3⟩ := ih (insStep e s y) (n + 1) hs
      simp only [List.foldl_cons, List.length_cons]
      refine ⟨?_, Nat.le_trans (Nat.le_of_lt a1) b2, fun _ => Nat.lt_of_lt_of_le a1 b2⟩
      rw [show n + (ys.length + 1) = n + 1 + ys.length by omega]
      exact b1
  have := key es ([], false) 0 (by simp)
  unfold insF
  refine ⟨by simpa using this.1, fun h e' => ?_⟩
  have h3 := this.2.2 h
  rw [e'] at h3
  simp at h3
theorem ins_len (e : E3) (es : List E3) : 0 < (ins e es).length ∧ (ins e es).length ≤ es.length + 1 := by
  have h := insF_len e es
  unfold ins
  cases hp : (insF e es).2 with
  | true =>
    rw [hp] at h
    simp only [if_true] at h ⊢
    refine ⟨?_, h.1⟩
    have hne : es ≠ [] := fun h0 => by subst h0; cases hp
    have := h.2 hne
    exact List.length_pos_iff.2 this
  | false =>
    rw [hp] at h
    simp only [Bool.false_eq_true, if_false, List.length_append, List.length_singleton] at h ⊢
    omega
def addE (m : Int) (es : List E3) (e : E3) : List E3 × Bool := if gOk m (ins e es) = true then (ins e es, true) else (es, false)
theorem gOk_len {m : Int} {es : List E3} (h : gOk m es = true) : es.length ≤ 40 := by
  unfold gOk at h
  simp only [Bool.and_eq_true, decide_eq_true_eq] at h
  exact h.1.2
theorem addE_ok {m : Int} {es : List E3} (h : gOk m es = true) (e : E3) : gOk m (addE m es e).1 = true := by
  unfold addE
  split
  · assumption
  · exact h
theorem gOk_nil {m : Int} (h0 : 0 ≤ m) (h1 : m ≤ 16) : gOk m [] = true := by unfold gOk chain; simp [h0, h1]
end Go.Proofs.YtlobefglhppbdaaGreatDoor
