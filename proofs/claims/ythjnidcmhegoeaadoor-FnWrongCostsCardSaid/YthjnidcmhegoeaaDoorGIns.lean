/- Where an edge stands among sorted edges, as plain data. No statement of the seat is proved here. -/
import Derived.Test.YthjnidcmhegoeaaDoorGAdd
import Derived.Test.YthjnidcmhegoeaaDoorHopsR
set_option linter.unusedSimpArgs false
set_option linter.unusedVariables false
namespace Go.Proofs.YthjnidcmhegoeaaDoor
/-- The place of an edge: how many stand before it. -/
def posE (e : E3) (es : List E3) : Nat := (es.takeWhile fun x => before x e).length
def fndE (e : E3) (es : List E3) : Bool := match es[posE e es]? with | some x => decide (cmpE x e = 0) | none => false
theorem posE_le (e : E3) (es : List E3) : posE e es ≤ es.length := (List.takeWhile_prefix _).length_le
theorem before_trans {a b c : E3} (h1 : before a b = true) (h2 : before b c = true) : before a c = true := by
  unfold before at *; rw [decide_eq_true_eq] at *; omega
theorem cmpE_zero (a b : E3) : cmpE a b = 0 ↔ (a.1 = b.1 ∧ a.2.1 = b.2.1) := by
  unfold cmpE cmpI
  by_cases h1 : a.1 < b.1
  · simp [h1]; omega
  · by_cases h2 : b.1 < a.1
    · simp [h1, h2]; omega
    · by_cases h3 : a.2.1 < b.2.1
      · simp [h1, h2, h3]; omega
      · by_cases h4 : b.2.1 < a.2.1
        · simp [h1, h2, h3, h4]; omega
        · simp [h1, h2, h3, h4]; omega
theorem twAll {α : Type} (p : α → Bool) : ∀ (l : List α), ∀ b ∈ l.takeWhile p, p b = true
  | [], b, h => by simp at h
  | a :: u, b, h => by
    rw [List.takeWhile_cons] at h
    split at h
    · rename_i ha
      rcases List.mem_cons.1 h with rfl | h
      · exact ha
      · exact twAll p u b h
    · simp at h
theorem take_posE (e : E3) (es : List E3) : es.take (posE e es) = es.takeWhile (fun x => before x e) ∧ es.drop (posE e es) = es.dropWhile (fun x => before x e) := by
  have h2 : es = es.takeWhile (fun x => before x e) ++ es.dropWhile (fun x => before x e) := (List.takeWhile_append_dropWhile).symm
  unfold posE
  constructor
  · have h3 : (es.takeWhile (fun x => before x e) ++ es.dropWhile (fun x => before x e)).take (es.takeWhile (fun x => before x e)).length = es.takeWhile (fun x => before x e) := List.take_left
    rwa [← h2] at h3
  · have h3 : (es.takeWhile (fun x => before x e) ++ es.dropWhile (fun x => before x e)).drop (es.takeWhile (fun x => before x e)).length = es.dropWhile (fun x => before x e) := List.drop_left
    rwa [← h2] at h3
theorem foldl_ins_true (e : E3) : ∀ (es acc : List E3), es.foldl (insStep e) (acc, true) = (acc ++ es, true)
  | [], acc => by simp
  | o :: es, acc => by
    rw [List.foldl_cons]
    have : insStep e (acc, true) o = (acc ++ [o], true) := by unfold insStep; rw [if_neg (by simp)]
    rw [this, foldl_ins_true e es]
    simp
theorem foldl_ins (e : E3) : ∀ (es acc : List E3), es.foldl (insStep e) (acc, false) = match es.dropWhile (fun x => before x e) with
    | [] => (acc ++ es, false)
    | o :: r => (acc ++ es.takeWhile (fun x => before x e) ++ (if cmpE o e = 0 then e :: r else e :: o :: r), true)
  | [], acc => by simp
  | o :: es, acc => by
    rw [List.foldl_cons]
    cases hb : before o e with
    | true =>
      have : insStep e (acc, false) o = (acc ++ [o], false) := by unfold insStep; rw [if_neg (by simp [hb])]
      rw [this, foldl_ins e es, List.dropWhile_cons, List.takeWhile_cons]
      simp only [hb, if_true]
      cases es.dropWhile (fun x => before x e) with
      | nil => simp
      | cons p r => simp
    | false =>
      rw [List.dropWhile_cons, List.takeWhile_cons]
      simp only [hb, Bool.false_eq_true, if_false, List.append_nil]
      by_cases hc : cmpE o e = 0
      · have h1 := (cmpE_zero o e).1 hc
        have : insStep e (acc, false) o = (acc ++ [e], true) := by unfold insStep; rw [if_pos ⟨rfl, hb⟩, if_pos h1]
        rw [this, foldl_ins_true, if_pos hc]; simp
      · have h1 : ¬ (o.1 = e.1 ∧ o.2.1 = e.2.1) := fun h => hc ((cmpE_zero o e).2 h)
        have : insStep e (acc, false) o = (acc ++ [e] ++ [o], true) := by unfold insStep; rw [if_pos ⟨rfl, hb⟩, if_neg h1]
        rw [this, foldl_ins_true, if_neg hc]; simp
theorem ins_pos (e : E3) (es : List E3) : ins e es = if fndE e es = true then es.set (posE e es) e else es.take (posE e es) ++ e :: es.drop (posE e es) := by
  obtain ⟨h1, h2⟩ := take_posE e es
  have hf := foldl_ins e es []
  have hg : es[posE e es]? = (es.dropWhile (fun x => before x e)).head? := by rw [← h2, List.head?_drop]
  unfold ins insF
  rw [hf]
  cases hd : es.dropWhile (fun x => before x e) with
  | nil =>
    rw [hd] at h2
    have hF : fndE e es = false := by unfold fndE; rw [hg, hd]; rfl
    rw [hF]
    simp only [List.nil_append, Bool.false_eq_true, if_false]
    rw [h2, h1]
    have : es = es.takeWhile (fun x => before x e) := by
      have := (List.takeWhile_append_dropWhile (p := fun x => before x e) (l := es)).symm
      rwa [hd, List.append_nil] at this
    rw [← this]
  | cons o r =>
    rw [hd] at h2
    have hF : fndE e es = decide (cmpE o e = 0) := by unfold fndE; rw [hg, hd]; rfl
    simp only [List.nil_append, if_true]
    rw [hF]
    by_cases hc : cmpE o e = 0
    · rw [if_pos hc, decide_eq_true hc, if_pos rfl, ← h1]
      have hlt : posE e es < es.length := by
        rcases Nat.lt_or_ge (posE e es) es.length with h | h
        · exact h
        · rw [List.drop_of_length_le h] at h2; cases h2
      rw [List.set_eq_take_append_cons_drop, if_pos hlt]
      have h3 := List.drop_eq_getElem_cons hlt
      rw [h2] at h3
      injection h3 with _ h3
      rw [← h3]
    · rw [if_neg hc, decide_eq_false hc, if_neg (by simp), h1, h2]
theorem fnd_lt {e : E3} {es : List E3} (h : fndE e es = true) : posE e es < es.length := by
  unfold fndE at h
  rcases Nat.lt_or_ge (posE e es) es.length with h1 | h1
  · exact h1
  · rw [List.getElem?_eq_none h1] at h; cases h
theorem chain_before {P : Int → Bool} : ∀ (es : List E3) (p : Option E3), chain P p es = true → ∀ i j (hi : i < es.length) (hj : j < es.length), i < j → before es[i] es[j] = true
  | [], _, _, i, j, hi, _, _ => by simp at hi
  | x :: t, p, h, i, j, hi, hj, hij => by
    unfold chain at h
    simp only [Bool.and_eq_true] at h
    have ih := chain_before t (some x) h.2
    cases j with
    | zero => omega
    | succ j =>
      have hj' : j < t.length := by simpa using hj
      cases i with
      | succ i => simpa using ih i j (by simpa using hi) hj' (by omega)
      | zero =>
        have h0 : 0 < t.length := by omega
        have hx : before x t[0] = true := by
          match t, h0, h with
          | y :: s, _, h =>
            have h2 := h.2
            unfold chain at h2
            simp only [Bool.and_eq_true] at h2
            have := h2.1.2
            unfold ordOk at this
            simpa using this
        simp only [List.getElem_cons_zero, List.getElem_cons_succ]
        rcases Nat.eq_zero_or_pos j with hj0 | hj0
        · subst hj0; exact hx
        · exact before_trans hx (ih 0 j h0 hj' hj0)
/-- The sorted edges, told by the place. -/
theorem pos_iff {m : Int} {es : List E3} (hg : gOk m es = true) (e : E3) (k : Nat) (hk : k < es.length) : before es[k] e = decide (k < posE e es) := by
  obtain ⟨h1, h2⟩ := take_posE e es
  have hc : chain (hasV m) none es = true := by unfold gOk at hg; simp only [Bool.and_eq_true] at hg; exact hg.2
  by_cases hlt : k < posE e es
  · rw [decide_eq_true hlt]
    have h3 : (es.takeWhile fun x => before x e)[k]? = some es[k] := by rw [← h1, List.getElem?_take, if_pos hlt, List.getElem?_eq_getElem hk]
    have h4 := List.mem_of_getElem? h3
    exact twAll (fun x => before x e) es _ h4
  · rw [decide_eq_false hlt]
    have hpl : posE e es < es.length := by omega
    have h5 : before es[posE e es] e = false := by
      have h6 : (es.dropWhile (fun x => before x e)).head? = some es[posE e es] := by rw [← h2, List.head?_drop, List.getElem?_eq_getElem hpl]
      have := List.head?_dropWhile_not (fun x => before x e) es
      rw [h6] at this
      simpa using this
    rcases Nat.eq_or_lt_of_le (show posE e es ≤ k by omega) with he | he
    · rw [← h5]; congr 1; simp only [he]
    · cases hb : before es[k] e with
      | false => rfl
      | true =>
        have := before_trans (chain_before es none hc _ _ hpl hk he) hb
        rw [h5] at this; cases this
end Go.Proofs.YthjnidcmhegoeaaDoor
