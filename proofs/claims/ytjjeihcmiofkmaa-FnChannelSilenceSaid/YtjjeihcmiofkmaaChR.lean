/- Channels as plain data: runs, quiet channels, rounds. No statement of the seat is proved here. -/
import Derived.Test.YtjjeihcmiofkmaaChP
set_option linter.unusedSimpArgs false
set_option linter.unusedVariables false
namespace Go.Proofs.Ytjjeihcmiofkmaa
namespace Ch
/-- d comes behind c. -/
structure Grow (c d : Ch) : Prop where
  good : Good d
  vs : d.vs = c.vs
  kn : c.kn ≤ d.kn
  got : c.got.length ≤ d.got.length
theorem Grow.refl {c : Ch} (h : Good c) : Grow c c := ⟨h, rfl, Int.le_refl _, Nat.le_refl _⟩
theorem Grow.trans {c d e : Ch} (h : Grow c d) (g : Grow d e) : Grow c e := ⟨g.good, g.vs.trans h.vs, Int.le_trans h.kn g.kn, Nat.le_trans h.got g.got⟩
theorem Grow.step {c d : Ch} (h : Grow c d) (s : Int) : Grow c (d.step s).1 := by
  obtain ⟨a1, a2, a3, a4, _, _⟩ := h.good.step s
  exact h.trans ⟨a1, a2, a3, a4⟩
/-- Steps one after the other; how many were possible. -/
def run1 (r : Ch × Nat) (s : Int) : Ch × Nat := ((r.1.step s).1, if (r.1.step s).2 then r.2 + 1 else r.2)
def run (c : Ch) (xs : List Int) : Ch × Nat := xs.foldl run1 (c, 0)
theorem run_nil (c : Ch) : run c [] = (c, 0) := rfl
theorem run_snoc (c : Ch) (xs : List Int) (s : Int) : run c (xs ++ [s]) = run1 (run c xs) s := by unfold run; rw [List.foldl_append]; rfl
theorem fold_off (xs : List Int) : ∀ (c : Ch) (n : Nat), xs.foldl run1 (c, n) = ((xs.foldl run1 (c, 0)).1, n + (xs.foldl run1 (c, 0)).2) := by
  induction xs with
  | nil => intro c n; rfl
  | cons x xs ih =>
    intro c n
    simp only [List.foldl_cons, run1]
    rw [ih _ (if (c.step x).2 = true then n + 1 else n), ih _ (if (c.step x).2 = true then 0 + 1 else 0)]
    split <;> simp <;> omega
theorem run_append (c : Ch) (xs ys : List Int) : run c (xs ++ ys) = ((run (run c xs).1 ys).1, (run c xs).2 + (run (run c xs).1 ys).2) := by
  unfold run
  rw [List.foldl_append]
  generalize xs.foldl run1 (c, 0) = r
  obtain ⟨d, n⟩ := r
  exact fold_off ys d n
theorem run_grow {c : Ch} (h : Good c) (xs : List Int) : Grow c (run c xs).1 ∧ (run c xs).2 ≤ xs.length := by
  have : ∀ ys : List Int, ∀ r : Ch × Nat, Grow c r.1 → Grow c (ys.foldl run1 r).1 ∧ (ys.foldl run1 r).2 ≤ r.2 + ys.length := by
    intro ys
    induction ys with
    | nil => intro r hr; exact ⟨hr, Nat.le_refl _⟩
    | cons y ys ih =>
      intro r hr
      obtain ⟨a, b⟩ := ih (run1 r y) (hr.step y)
      refine ⟨a, Nat.le_trans b ?_⟩
      unfold run1
      simp only [List.length_cons]
      split <;> omega
  have h2 := this xs (c, 0) (Grow.refl h)
  exact ⟨h2.1, by have := h2.2; rw [Nat.zero_add] at this; exact this⟩
/-- The same step, k times. -/
def it (s : Int) : Nat → Ch → Ch
  | 0, c => c
  | k + 1, c => ((it s k c).step s).1
theorem it_grow {c : Ch} (h : Good c) (s : Int) : ∀ k, Grow c (it s k c)
  | 0 => Grow.refl h
  | k + 1 => (it_grow h s k).step s
theorem it_out (s : Int) (c : Ch) : ∀ k, it s (k + 1) c = it s k (c.step s).1
  | 0 => rfl
  | k + 1 => by rw [it, it_out s c k]; rfl
theorem step_ps {c : Ch} {s : Int} (hs : s = 1 ∨ s = 2) : (c.step s).1.ps = c.ps.tail ∧ (c.step s).1.rs = c.rs ∧ (c.step s).1.kn = c.kn ∧ (c.step s).2 = !c.ps.isEmpty ∧ (c.ps = [] → (c.step s).1 = c) ∧ (c.step s).1.vs = c.vs := by
  unfold Ch.step packet
  rcases hs with rfl | rfl <;> (cases hp : c.ps <;> simp [hp])
theorem step_rs {c : Ch} {s : Int} (hs : s = 6 ∨ s = 7) : (c.step s).1.rs = c.rs.tail ∧ (c.step s).1.ps = c.ps ∧ (c.step s).1.got = c.got ∧ (c.step s).2 = !c.rs.isEmpty ∧ (c.rs = [] → (c.step s).1 = c) ∧ (c.step s).1.vs = c.vs := by
  unfold Ch.step receiptStep
  rcases hs with rfl | rfl <;> (cases hp : c.rs <;> simp [hp])
theorem it_ps {s : Int} (hs : s = 1 ∨ s = 2) (c : Ch) : ∀ k, (it s k c).ps = c.ps.drop k ∧ (it s k c).rs = c.rs ∧ (it s k c).kn = c.kn ∧ (it s k c).vs = c.vs
  | 0 => ⟨rfl, rfl, rfl, rfl⟩
  | k + 1 => by
    obtain ⟨a1, a2, a3, a4⟩ := it_ps hs c k
    obtain ⟨b1, b2, b3, _, _, b4⟩ := step_ps (c := it s k c) hs
    refine ⟨?_, b2.trans a2, b3.trans a3, b4.trans a4⟩
    show ((it s k c).step s).1.ps = _
    rw [b1, a1, List.tail_drop]
theorem it_rs {s : Int} (hs : s = 6 ∨ s = 7) (c : Ch) : ∀ k, (it s k c).rs = c.rs.drop k ∧ (it s k c).ps = c.ps ∧ (it s k c).got = c.got ∧ (it s k c).vs = c.vs
  | 0 => ⟨rfl, rfl, rfl, rfl⟩
  | k + 1 => by
    obtain ⟨a1, a2, a3, a4⟩ := it_rs hs c k
    obtain ⟨b1, b2, b3, _, _, b4⟩ := step_rs (c := it s k c) hs
    refine ⟨?_, b2.trans a2, b3.trans a3, b4.trans a4⟩
    show ((it s k c).step s).1.rs = _
    rw [b1, a1, List.tail_drop]
/-- All packets delivered, then all receipts. -/
def packetsIn (c : Ch) : Ch := it 1 c.ps.length c
def receiptsIn (c : Ch) : Ch := it 6 c.rs.length c
def quiet (c : Ch) : Ch := receiptsIn (packetsIn c)
theorem quiet_facts {c : Ch} (h : Good c) : Grow c (quiet c) ∧ (quiet c).ps = [] ∧ (quiet c).rs = [] ∧ (packetsIn c).got.length ≤ (quiet c).got.length := by
  have g1 := it_grow h 1 c.ps.length
  have g2 := it_grow g1.good 6 (packetsIn c).rs.length
  have p1 := it_ps (s := 1) (.inl rfl) c c.ps.length
  have p2 := it_rs (s := 6) (.inl rfl) (packetsIn c) (packetsIn c).rs.length
  refine ⟨g1.trans g2, ?_, ?_, g2.got⟩
  · exact p2.2.1.trans (p1.1.trans (by simp))
  · exact p2.1.trans (by simp)
theorem quiet_id {c : Ch} (hp : c.ps = []) (hr : c.rs = []) : quiet c = c := by
  have e1 : packetsIn c = c := by unfold packetsIn; rw [hp]; rfl
  unfold quiet
  rw [e1]
  unfold receiptsIn
  rw [hr]; rfl
/-- A round: a receipt, learnt; the next packets; quiet. -/
def round (c : Ch) : Ch := quiet (((c.step 5).1.step 6).1.step 0).1
def rounds : Nat → Ch → Ch
  | 0, c => c
  | k + 1, c => round (rounds k c)
theorem round_grow {c : Ch} (h : Good c) : Grow c (round c) ∧ (round c).ps = [] ∧ (round c).rs = [] := by
  have g := ((Grow.refl h).step 5).step 6 |>.step 0
  obtain ⟨q1, q2, q3, _⟩ := quiet_facts g.good
  exact ⟨g.trans q1, q2, q3⟩
/-- How far a channel is. -/
def far (c : Ch) : Nat := (2 * (c.vs.length : Int) - c.kn - c.got.length).toNat
theorem round_far {c : Ch} (h : Good c) (hp : c.ps = []) (hr : c.rs = []) (hd : c.kn ≠ c.vs.length) : far (round c) < far c := by
  have k0 := h.kn0
  have k1 := h.kn1
  have k2 := h.len
  have hG := round_grow h
  obtain ⟨⟨hg, hv, hk, hgt⟩, _, _⟩ := hG
  have k1' := hg.kn1
  have k2' := hg.len
  have hv' : (round c).vs.length = c.vs.length := by rw [hv]
  suffices hs : c.kn < (round c).kn ∨ c.got.length < (round c).got.length by
    unfold far; rw [hv']; omega
  have e5 : (c.step 5).1 = { c with rs := [(c.got.length : Int)] } := by
    unfold Ch.step receipt
    simp [hr]
  have e6 : ((c.step 5).1.step 6).1 = { c with kn := c.got.length, rs := [] } := by
    rw [e5]
    unfold Ch.step receiptStep
    by_cases hlt : c.kn < c.got.length
    · simp [hlt]
    · have : c.kn = c.got.length := by omega
      simp [this]
  have g6 := (((Grow.refl h).step 5).step 6)
  rw [e6] at g6
  have gg := g6.step 0
  have gq := quiet_facts gg.good
  by_cases hlt : c.kn < c.got.length
  · left
    have h1 := (g6.good.step 0).2.2.1
    have h2 := gq.1.kn
    unfold round
    rw [e6]
    dsimp only at h1 h2 ⊢
    omega
  · right
    have hkg : c.kn = c.got.length := by omega
    have hlt2 : c.got.length < c.vs.length := by omega
    unfold round
    rw [e6]
    generalize hd0 : ({ c with kn := (c.got.length : Int), rs := [] } : Ch) = d at *
    have d1 : d.vs = c.vs := by rw [← hd0]
    have d2 : d.kn = c.got.length := by rw [← hd0]
    have d3 : d.got = c.got := by rw [← hd0]
    have d4 : d.ps = [] := by rw [← hd0]; exact hp
    have hE : sendEnd d ≠ d.kn ∧ sendEnd d ≤ d.kn + 3 ∧ d.kn < sendEnd d := by unfold sendEnd; rw [d1, d2]; split <;> omega
    have e0 : (d.step 0).1 = { d with ps := pkFrom d.vs d.kn (sendEnd d - d.kn).toNat } := by
      unfold Ch.step send
      rw [if_pos rfl, if_neg (by rw [d4]; simp; omega), d4]; rfl
    obtain ⟨m, hm⟩ : ∃ m, (sendEnd d - d.kn).toNat = m + 1 := ⟨(sendEnd d - d.kn).toNat - 1, by omega⟩
    rw [hm] at e0
    refine Nat.lt_of_lt_of_le ?_ gq.2.2.2
    rw [e0]
    unfold packetsIn
    rw [pkFrom, List.length_cons, it_out]
    have hg1 := (gg.good.step 1).1
    rw [e0] at hg1
    have hgi := (it_grow hg1 1 (pkFrom d.vs (d.kn + 1) m).length).got
    refine Nat.lt_of_lt_of_le ?_ hgi
    unfold Ch.step packet
    rw [pkFrom]
    simp only [d2, d3]
    simp
theorem rounds_grow {c : Ch} (h : Good c) (hp : c.ps = []) (hr : c.rs = []) : ∀ k, Grow c (rounds k c) ∧ (rounds k c).ps = [] ∧ (rounds k c).rs = []
  | 0 => ⟨Grow.refl h, hp, hr⟩
  | k + 1 => by
    obtain ⟨a, b, d⟩ := rounds_grow h hp hr k
    obtain ⟨a', b', d'⟩ := round_grow a.good
    exact ⟨a.trans a', b', d'⟩
/-- After these rounds everything has come. -/
theorem rounds_end {c : Ch} (h : Good c) (hp : c.ps = []) (hr : c.rs = []) : ∃ n, n ≤ 40 ∧ (rounds n c).kn = (rounds n c).vs.length ∧ ∀ k, k < n → (rounds k c).kn ≠ (rounds k c).vs.length := by
  have key : ∀ (m k : Nat), far (rounds k c) ≤ m → (∀ j, j < k → (rounds j c).kn ≠ (rounds j c).vs.length) → ∃ n, n ≤ k + m ∧ (rounds n c).kn = (rounds n c).vs.length ∧ ∀ j, j < n → (rounds j c).kn ≠ (rounds j c).vs.length := by
    intro m
    induction m with
    | zero =>
      intro k hf hj
      by_cases hd : (rounds k c).kn = (rounds k c).vs.length
      · exact ⟨k, by omega, hd, hj⟩
      · obtain ⟨a, b, d⟩ := rounds_grow h hp hr k
        have := round_far a.good b d hd
        omega
    | succ m ih =>
      intro k hf hj
      by_cases hd : (rounds k c).kn = (rounds k c).vs.length
      · exact ⟨k, by omega, hd, hj⟩
      · obtain ⟨a, b, d⟩ := rounds_grow h hp hr k
        have := round_far a.good b d hd
        obtain ⟨n, h1, h2, h3⟩ := ih (k + 1) (by show far (round (rounds k c)) ≤ m; omega) (fun j hj' => by
          by_cases hjk : j < k
          · exact hj j hjk
          · obtain rfl : j = k := by omega
            exact hd)
        exact ⟨n, by omega, h2, h3⟩
  obtain ⟨n, h1, h2⟩ := key 40 0 (by
    have := h.vsl
    have := h.kn0
    show far c ≤ 40
    unfold far; omega) (fun j hj => by omega)
  exact ⟨n, by omega, h2⟩
theorem done_got {c : Ch} (h : Good c) (hd : c.kn = c.vs.length) : c.got = c.vs := by
  have k1 := h.kn1
  have k2 := h.len
  have e : c.got.length = c.vs.length := by omega
  have := h.pre
  rw [e, List.take_length] at this
  exact this
theorem Good.lens {c : Ch} (h : Good c) : c.vs.length ≤ 1048576 ∧ c.got.length ≤ 1048576 ∧ c.ps.length ≤ 1048576 ∧ c.rs.length ≤ 1048576 := by
  have := h.vsl
  have := h.len
  have := h.psl
  have := h.rsl
  omega
end Ch
end Go.Proofs.Ytjjeihcmiofkmaa
