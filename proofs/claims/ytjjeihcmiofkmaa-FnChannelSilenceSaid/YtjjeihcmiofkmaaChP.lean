/- Channels as plain data: valid ones, steps. No statement of the seat is proved here. -/
import Derived.Test.YtjjeihcmiofkmaaLib
set_option linter.unusedSimpArgs false
set_option linter.unusedVariables false
namespace Go.Proofs.Ytjjeihcmiofkmaa
abbrev Pk := Int × Int
structure Ch where
  vs : List Int
  kn : Int
  got : List Int
  ps : List Pk
  rs : List Int
namespace Ch
def fit (v : Int) : Bool := decide (0 ≤ v ∧ v ≤ 1000000)
def fits (vs : List Int) : Bool := decide (vs.length ≤ 20) && vs.all fit
def pkOk (vs : List Int) (p : Pk) : Bool := decide (0 ≤ p.1 ∧ p.1 < vs.length) && decide (p.2 = vs.getD p.1.toNat 0)
def rcOk (n : Nat) (r : Int) : Bool := decide (0 ≤ r ∧ r ≤ n)
def begins (c : Ch) : Bool := decide (c.got.length ≤ c.vs.length) && decide (c.got = c.vs.take c.got.length)
def ok (c : Ch) : Bool := fits c.vs && begins c && decide (0 ≤ c.kn ∧ c.kn ≤ c.got.length) && decide (c.ps.length ≤ 100) && decide (c.rs.length ≤ 100) && c.ps.all (pkOk c.vs) && c.rs.all (rcOk c.got.length)
/-- The next packets. -/
def sendEnd (c : Ch) : Int := if (c.vs.length : Int) < c.kn + 3 then c.vs.length else c.kn + 3
def pkFrom (vs : List Int) (k : Int) : Nat → List Pk
  | 0 => []
  | n + 1 => (k, vs.getD k.toNat 0) :: pkFrom vs (k + 1) n
def send (c : Ch) : Ch × Bool :=
  if sendEnd c = c.kn ∨ (c.ps.length : Int) + sendEnd c - c.kn > 100 then (c, false)
  else ({ c with ps := c.ps ++ pkFrom c.vs c.kn (sendEnd c - c.kn).toNat }, true)
def packet (c : Ch) (step : Int) : Ch × Bool :=
  match c.ps with
  | [] => (c, false)
  | p :: t =>
    if step = 1 then ({ c with got := if p.1 = c.got.length then c.got ++ [p.2] else c.got, ps := t }, true)
    else if step = 2 then ({ c with ps := t }, true)
    else if step = 3 then (if c.ps.length ≥ 100 then (c, false) else ({ c with ps := c.ps ++ [p] }, true))
    else if step = 4 then ({ c with ps := t ++ [p] }, true)
    else (c, true)
def receipt (c : Ch) : Ch × Bool := if c.rs.length ≥ 100 then (c, false) else ({ c with rs := c.rs ++ [(c.got.length : Int)] }, true)
def receiptStep (c : Ch) (step : Int) : Ch × Bool :=
  match c.rs with
  | [] => (c, false)
  | r :: t => ({ c with kn := if step = 6 then (if c.kn < r then r else c.kn) else c.kn, rs := t }, true)
def step (c : Ch) (s : Int) : Ch × Bool :=
  if s = 0 then send c
  else if s = 1 ∨ s = 2 ∨ s = 3 ∨ s = 4 then packet c s
  else if s = 5 then receipt c
  else if s = 6 ∨ s = 7 then receiptStep c s
  else (c, false)
theorem pkFrom_len (vs : List Int) : ∀ (n : Nat) (k : Int), (pkFrom vs k n).length = n
  | 0, _ => rfl
  | n + 1, k => by simp [pkFrom, pkFrom_len vs n]
theorem pkFrom_snoc (vs : List Int) : ∀ (n : Nat) (k : Int), 0 ≤ k → pkFrom vs k (n + 1) = pkFrom vs k n ++ [(k + n, vs.getD (k + n).toNat 0)]
  | 0, k, h => by simp [pkFrom]
  | n + 1, k, h => by
    rw [pkFrom, pkFrom_snoc vs n (k + 1) (by omega), pkFrom]
    simp only [List.cons_append]
    rw [show k + 1 + (n : Int) = k + ((n + 1 : Nat) : Int) by omega]
theorem pkFrom_ok (vs : List Int) : ∀ (n : Nat) (k : Int), 0 ≤ k → k + n ≤ vs.length → (pkFrom vs k n).all (pkOk vs) = true
  | 0, _, _, _ => rfl
  | n + 1, k, h, h' => by
    rw [pkFrom, List.all_cons, pkFrom_ok vs n (k + 1) (by omega) (by omega), Bool.and_true]
    unfold pkOk; simp; omega
structure Good (c : Ch) : Prop where
  fits : fits c.vs = true
  len : c.got.length ≤ c.vs.length
  pre : c.got = c.vs.take c.got.length
  kn0 : 0 ≤ c.kn
  kn1 : c.kn ≤ c.got.length
  psl : c.ps.length ≤ 100
  rsl : c.rs.length ≤ 100
  ps : c.ps.all (pkOk c.vs) = true
  rs : c.rs.all (rcOk c.got.length) = true
theorem ok_iff {c : Ch} : ok c = true ↔ Good c := by
  unfold ok begins
  simp only [Bool.and_eq_true, decide_eq_true_eq]
  constructor
  · rintro ⟨⟨⟨⟨⟨⟨h1, h2, h3⟩, h4, h5⟩, h6⟩, h7⟩, h8⟩, h9⟩
    exact ⟨h1, h2, h3, h4, h5, h6, h7, h8, h9⟩
  · rintro ⟨h1, h2, h3, h4, h5, h6, h7, h8, h9⟩
    exact ⟨⟨⟨⟨⟨⟨h1, h2, h3⟩, h4, h5⟩, h6⟩, h7⟩, h8⟩, h9⟩
theorem Good.vsl {c : Ch} (h : Good c) : c.vs.length ≤ 20 := by
  have := h.fits
  unfold Ch.fits at this
  simp only [Bool.and_eq_true, decide_eq_true_eq] at this
  exact this.1
theorem Good.fit {c : Ch} (h : Good c) : ∀ v ∈ c.vs, 0 ≤ v ∧ v ≤ 1000000 := fun v hv => by
  have := h.fits
  unfold Ch.fits at this
  simp only [Bool.and_eq_true, List.all_eq_true] at this
  simpa [Ch.fit] using this.2 v hv
theorem rcOk_mono {n m : Nat} (h : n ≤ m) {rs : List Int} (hr : rs.all (rcOk n) = true) : rs.all (rcOk m) = true := by
  rw [List.all_eq_true] at hr ⊢
  intro r hm
  have := hr r hm
  unfold rcOk at this ⊢
  simp at this ⊢; omega
/-- A step keeps a channel valid; what was got stays, what is known grows. -/
theorem Good.step {c : Ch} (h : Good c) (s : Int) : Good (c.step s).1 ∧ (c.step s).1.vs = c.vs ∧ c.kn ≤ (c.step s).1.kn ∧ c.got.length ≤ (c.step s).1.got.length ∧ (c.step s).1.got.length ≤ c.got.length + 1 ∧ ((c.step s).2 = false → (c.step s).1 = c) := by
  have hid : ∀ b : Bool, Good ((c, b) : Ch × Bool).1 ∧ ((c, b) : Ch × Bool).1.vs = c.vs ∧ c.kn ≤ ((c, b) : Ch × Bool).1.kn ∧ c.got.length ≤ ((c, b) : Ch × Bool).1.got.length ∧ ((c, b) : Ch × Bool).1.got.length ≤ c.got.length + 1 ∧ (((c, b) : Ch × Bool).2 = false → ((c, b) : Ch × Bool).1 = c) := fun b => ⟨h, rfl, Int.le_refl _, Nat.le_refl _, Nat.le_succ _, fun _ => rfl⟩
  have hv := h.vsl
  unfold Ch.step
  split
  · unfold send
    split
    · exact hid _
    · rename_i hc
      have hl := h.len
      have h0 := h.kn0
      have h1 := h.kn1
      have he : sendEnd c ≤ c.vs.length ∧ c.kn ≤ sendEnd c := by unfold sendEnd; split <;> omega
      refine ⟨⟨h.fits, h.len, h.pre, h.kn0, h.kn1, ?_, h.rsl, ?_, h.rs⟩, rfl, Int.le_refl _, Nat.le_refl _, Nat.le_succ _, fun h => by cases h⟩
      · show (c.ps ++ _).length ≤ 100
        rw [List.length_append, pkFrom_len]; omega
      · show (c.ps ++ _).all _ = true
        rw [List.all_append, h.ps, Bool.true_and]
        exact pkFrom_ok _ _ _ h0 (by omega)
  · split
    · unfold packet
      split
      · exact hid _
      · rename_i p t hps
        have hp := h.ps
        have hl := h.psl
        rw [hps, List.all_cons, Bool.and_eq_true] at hp
        rw [hps, List.length_cons] at hl
        split
        · refine ⟨⟨h.fits, ?_, ?_, h.kn0, ?_, by show t.length ≤ 100; omega, h.rsl, hp.2, ?_⟩, rfl, Int.le_refl _, ?_, ?_, fun h => by cases h⟩
          all_goals
            have hpk := hp.1
            unfold pkOk at hpk
            simp only [Bool.and_eq_true, decide_eq_true_eq] at hpk
            obtain ⟨⟨a1, a2⟩, a3⟩ := hpk
            have hgl := h.len
            dsimp only
          · split
            · rw [List.length_append]; simp; omega
            · exact hgl
          · split
            · rename_i he
              have hlt : c.got.length < c.vs.length := by omega
              rw [List.length_append, List.length_singleton, List.take_succ_eq_append_getElem hlt, ← h.pre]
              congr 2
              rw [a3, he, Int.toNat_natCast, List.getD_eq_getElem?_getD, List.getElem?_eq_getElem hlt]
              rfl
            · exact h.pre
          · have := h.kn1
            split
            · rw [List.length_append]; simp; omega
            · exact this
          · split
            · exact rcOk_mono (by simp) h.rs
            · exact h.rs
          · split <;> simp
          · split <;> simp
        · split
          · exact ⟨⟨h.fits, h.len, h.pre, h.kn0, h.kn1, by show t.length ≤ 100; omega, h.rsl, hp.2, h.rs⟩, rfl, Int.le_refl _, Nat.le_refl _, Nat.le_succ _, fun h => by cases h⟩
          · split
            · split
              · exact hid _
              · rename_i hlt
                refine ⟨⟨h.fits, h.len, h.pre, h.kn0, h.kn1, ?_, h.rsl, ?_, h.rs⟩, rfl, Int.le_refl _, Nat.le_refl _, Nat.le_succ _, fun h => by cases h⟩
                · show (c.ps ++ [p]).length ≤ 100
                  rw [List.length_append, List.length_singleton]; omega
                · show (c.ps ++ [p]).all _ = true
                  rw [List.all_append, h.ps]; simp [hp.1]
            · split
              · refine ⟨⟨h.fits, h.len, h.pre, h.kn0, h.kn1, ?_, h.rsl, ?_, h.rs⟩, rfl, Int.le_refl _, Nat.le_refl _, Nat.le_succ _, fun h => by cases h⟩
                · show (t ++ [p]).length ≤ 100
                  rw [List.length_append, List.length_singleton]; omega
                · show (t ++ [p]).all _ = true
                  rw [List.all_append, hp.2]; simp [hp.1]
              · exact hid _
    · split
      · unfold receipt
        split
        · exact hid _
        · refine ⟨⟨h.fits, h.len, h.pre, h.kn0, h.kn1, h.psl, ?_, h.ps, ?_⟩, rfl, Int.le_refl _, Nat.le_refl _, Nat.le_succ _, fun h => by cases h⟩
          · show (c.rs ++ [_]).length ≤ 100
            rw [List.length_append, List.length_singleton]; omega
          · show (c.rs ++ [_]).all _ = true
            rw [List.all_append, h.rs]; simp [rcOk]
      · split
        · unfold receiptStep
          split
          · exact hid _
          · rename_i r t hrs
            have hr := h.rs
            have hl := h.rsl
            rw [hrs, List.all_cons, Bool.and_eq_true] at hr
            rw [hrs, List.length_cons] at hl
            have h1 := hr.1
            unfold rcOk at h1
            simp only [decide_eq_true_eq] at h1
            have k0 := h.kn0
            have k1 := h.kn1
            refine ⟨⟨h.fits, h.len, h.pre, ?_, ?_, h.psl, by show t.length ≤ 100; omega, h.ps, hr.2⟩, rfl, ?_, Nat.le_refl _, Nat.le_succ _, fun h => by cases h⟩
            all_goals (dsimp only; (repeat' split) <;> omega)
        · exact hid _
end Ch
end Go.Proofs.Ytjjeihcmiofkmaa
