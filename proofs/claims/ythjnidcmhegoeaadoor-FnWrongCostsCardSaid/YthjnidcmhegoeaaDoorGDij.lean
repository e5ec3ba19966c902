/- Costs, as plain data: Dijkstra's walk, heaps. No statement of the seat is proved here. -/
import Derived.Test.YthjnidcmhegoeaaDoorGBfs
set_option linter.unusedSimpArgs false
set_option linter.unusedVariables false
namespace Go.Proofs.YthjnidcmhegoeaaDoor
/-! ## Costs that every edge keeps -/
structure IsC (m : Nat) (es : List E3) (s : Int) (xs : List Int) (rk : Int → Nat) : Prop where
  len : xs.length = m
  src : val xs s = 0
  rng : ∀ v : Int, 0 ≤ v → v < (m : Int) → val xs v = -1 ∨ 0 ≤ val xs v
  feas : ∀ e ∈ es, 0 ≤ val xs e.1 → 0 ≤ val xs e.2.1 ∧ val xs e.2.1 ≤ val xs e.1 + e.2.2
  par : ∀ v : Int, 0 ≤ v → v < (m : Int) → 0 ≤ val xs v → v = s ∨ ∃ e ∈ es, e.2.1 = v ∧ 0 ≤ val xs e.1 ∧ val xs v = val xs e.1 + e.2.2 ∧ rk e.1 < rk v
theorem IsC.least {m : Nat} {es : List E3} {s : Int} {xs ys : List Int} {rk rk' : Int → Nat} (hI : Inside m es) (hs : 0 ≤ s ∧ s < (m : Int)) (h : IsC m es s xs rk) (g : IsC m es s ys rk') :
    ∀ (n : Nat) (v : Int), rk v ≤ n → 0 ≤ v → v < (m : Int) → 0 ≤ val xs v → 0 ≤ val ys v ∧ val ys v ≤ val xs v := by
  intro n
  induction n with
  | zero =>
    intro v hr h0 h1 h2
    rcases h.par v h0 h1 h2 with rfl | ⟨e, he, _, _, _, h6⟩
    · rw [g.src, h.src]; omega
    · omega
  | succ n ih =>
    intro v hr h0 h1 h2
    rcases h.par v h0 h1 h2 with rfl | ⟨e, he, e1, e2, e3, h6⟩
    · rw [g.src, h.src]; omega
    · have h7 := ih e.1 (by omega) (hI e he).1.1 (hI e he).1.2 e2
      have h8 := g.feas e he h7.1
      rw [e1] at h8
      omega
theorem IsC.uniq {m : Nat} {es : List E3} {s : Int} {xs ys : List Int} {rk rk' : Int → Nat} (hI : Inside m es) (hs : 0 ≤ s ∧ s < (m : Int)) (h : IsC m es s xs rk) (g : IsC m es s ys rk') : xs = ys := by
  refine ext_val (by rw [h.len, g.len]) (fun v h0 h1 => ?_)
  rw [h.len] at h1
  rcases h.rng v h0 h1 with a | a
  · rcases g.rng v h0 h1 with b | b
    · omega
    · have := g.least hI hs h _ v (Nat.le_refl _) h0 h1 b
      omega
  · have h3 := h.least hI hs g _ v (Nat.le_refl _) h0 h1 a
    have h4 := g.least hI hs h _ v (Nat.le_refl _) h0 h1 h3.1
    omega
/-! ## The rounds of the reference -/
def relC (xs : List Int) (e : E3) : List Int := if 0 ≤ val xs e.1 ∧ (val xs e.2.1 < 0 ∨ val xs e.1 + e.2.2 < val xs e.2.1) then setv xs e.2.1 (val xs e.1 + e.2.2) else xs
def relS (es : List E3) (xs : List Int) : List Int := es.foldl relC xs
def costsN (m : Nat) (es : List E3) (s : Int) : Nat → List Int
  | 0 => hops0 m s
  | n + 1 => relS es (costsN m es s n)
theorem relS_snoc (es : List E3) (e : E3) (xs : List Int) : relS (es ++ [e]) xs = relC (relS es xs) e := by unfold relS; rw [List.foldl_append]; rfl
theorem relC_len (xs : List Int) (e : E3) : (relC xs e).length = xs.length := by unfold relC; split <;> simp [setv_len]
theorem relS_len : ∀ (es : List E3) (xs : List Int), (relS es xs).length = xs.length
  | [], xs => rfl
  | e :: es, xs => by unfold relS; rw [List.foldl_cons]; exact (relS_len es _).trans (relC_len _ _)
theorem costsN_len (m : Nat) (es : List E3) (s : Int) : ∀ n, (costsN m es s n).length = m
  | 0 => by simp [costsN, hops0, setv_len]
  | n + 1 => by rw [costsN, relS_len, costsN_len m es s n]
/-- Numbers that are -1 or costs of ways, so never less than these. -/
def Lb (m : Nat) (xs ys : List Int) : Prop := ys.length = m ∧ ∀ v : Int, 0 ≤ v → v < (m : Int) → val ys v = -1 ∨ (0 ≤ val xs v ∧ val xs v ≤ val ys v)
theorem relC_val {m : Nat} {es : List E3} {ys : List Int} (hI : Inside m es) (hl : ys.length = m) {e : E3} (he : e ∈ es) (v : Int) (h0 : 0 ≤ v) :
    val (relC ys e) v = if v = e.2.1 ∧ 0 ≤ val ys e.1 ∧ (val ys e.2.1 < 0 ∨ val ys e.1 + e.2.2 < val ys e.2.1) then val ys e.1 + e.2.2 else val ys v := by
  have h2 := (hI e he).2
  unfold relC
  by_cases h : 0 ≤ val ys e.1 ∧ (val ys e.2.1 < 0 ∨ val ys e.1 + e.2.2 < val ys e.2.1)
  · rw [if_pos h, val_setv h2.1 (by rw [hl]; exact h2.2) h0]
    by_cases hv : v = e.2.1
    · rw [if_pos hv, if_pos ⟨hv, h⟩]
    · rw [if_neg hv, if_neg (fun c => hv c.1)]
  · rw [if_neg h, if_neg (fun c => h c.2)]
theorem Lb.step {m : Nat} {es : List E3} {s : Int} {xs ys : List Int} {rk : Int → Nat} (hI : Inside m es) (h : IsC m es s xs rk) (g : Lb m xs ys) {e : E3} (he : e ∈ es) : Lb m xs (relC ys e) := by
  refine ⟨by rw [relC_len]; exact g.1, fun v h0 h1 => ?_⟩
  rw [relC_val hI g.1 he v h0]
  split
  · rename_i hc
    right
    rcases g.2 e.1 (hI e he).1.1 (hI e he).1.2 with a | ⟨a, b⟩
    · omega
    · have := h.feas e he a
      rw [hc.1]; omega
  · exact g.2 v h0 h1
theorem Lb.steps {m : Nat} {es : List E3} {s : Int} {xs : List Int} {rk : Int → Nat} (hI : Inside m es) (h : IsC m es s xs rk) : ∀ (fs : List E3), (∀ e ∈ fs, e ∈ es) → ∀ ys, Lb m xs ys → Lb m xs (relS fs ys)
  | [], _, ys, g => g
  | e :: fs, hf, ys, g => by
    unfold relS
    rw [List.foldl_cons]
    exact Lb.steps hI h fs (fun e he => hf e (List.mem_cons_of_mem _ he)) _ (g.step hI h (hf e List.mem_cons_self))
/-- What is reached already stays reached. -/
theorem rel_mono {m : Nat} {es : List E3} (hI : Inside m es) : ∀ (fs : List E3), (∀ e ∈ fs, e ∈ es) → ∀ (ys : List Int), ys.length = m → ∀ (v c : Int), 0 ≤ v → (0 ≤ val ys v ∧ val ys v ≤ c) → (∀ e ∈ fs, 0 ≤ e.2.2) → (0 ≤ val (relS fs ys) v ∧ val (relS fs ys) v ≤ c)
  | [], _, ys, _, v, c, _, h, _ => h
  | e :: fs, hf, ys, hl, v, c, h0, h, hw => by
    unfold relS
    rw [List.foldl_cons]
    refine rel_mono hI fs (fun e he => hf e (List.mem_cons_of_mem _ he)) _ (by rw [relC_len]; exact hl) v c h0 ?_ (fun e he => hw e (List.mem_cons_of_mem _ he))
    rw [relC_val hI hl (hf e List.mem_cons_self) v h0]
    have := hw e List.mem_cons_self
    split
    · rename_i hc
      rw [← hc.1] at hc
      omega
    · exact h
theorem rel_reach {m : Nat} {es : List E3} (hI : Inside m es) (hw : ∀ e ∈ es, 0 ≤ e.2.2) : ∀ (fs : List E3), (∀ e ∈ fs, e ∈ es) → ∀ (ys : List Int), ys.length = m → ∀ e ∈ fs, ∀ c : Int, (0 ≤ val ys e.1 ∧ val ys e.1 ≤ c) → (0 ≤ val (relS fs ys) e.2.1 ∧ val (relS fs ys) e.2.1 ≤ c + e.2.2)
  | [], _, ys, _, e, he, _, _ => by cases he
  | d :: fs, hf, ys, hl, e, he, c, h => by
    have hf' : ∀ e ∈ fs, e ∈ es := fun e he => hf e (List.mem_cons_of_mem _ he)
    have hd := hf d List.mem_cons_self
    have hE := hI e (hf e he)
    have hwe := hw e (hf e he)
    rcases List.mem_cons.1 he with rfl | he
    · unfold relS
      rw [List.foldl_cons]
      refine rel_mono hI fs hf' _ (by rw [relC_len]; exact hl) _ _ hE.2.1 ?_ (fun e he => hw e (hf' e he))
      rw [relC_val hI hl hd _ hE.2.1]
      split <;> rename_i hc
      · omega
      · by_cases h2 : val ys e.2.1 < 0
        · exact absurd ⟨rfl, h.1, .inl h2⟩ hc
        · by_cases h3 : val ys e.1 + e.2.2 < val ys e.2.1
          · exact absurd ⟨rfl, h.1, .inr h3⟩ hc
          · omega
    · unfold relS
      rw [List.foldl_cons]
      refine rel_reach hI hw fs hf' _ (by rw [relC_len]; exact hl) e he c ?_
      have := rel_mono hI [d] (by simpa using hd) ys hl e.1 c hE.1.1 h (by simpa using hw d hd)
      simpa [relS] using this
theorem hops0_val {m : Nat} {s : Int} (hs : 0 ≤ s ∧ s < (m : Int)) (v : Int) (h0 : 0 ≤ v) (h1 : v < (m : Int)) : val (hops0 m s) v = if v = s then 0 else -1 := by
  unfold hops0
  rw [val_setv hs.1 (by simpa using hs.2) h0]
  congr 1
  unfold val
  rw [List.getD_eq_getElem?_getD, List.getElem?_replicate, if_pos (by omega)]; rfl
theorem costsN_lb {m : Nat} {es : List E3} {s : Int} {xs : List Int} {rk : Int → Nat} (hI : Inside m es) (hs : 0 ≤ s ∧ s < (m : Int)) (h : IsC m es s xs rk) : ∀ n, Lb m xs (costsN m es s n)
  | 0 => ⟨costsN_len _ _ _ _, fun v h0 h1 => by
      rw [costsN, hops0_val hs v h0 h1]
      split
      · rename_i hv
        rw [hv, h.src]; omega
      · exact .inl rfl⟩
  | n + 1 => Lb.steps hI h es (fun _ h => h) _ (costsN_lb hI hs h n)
theorem costsN_ub {m : Nat} {es : List E3} {s : Int} {xs : List Int} {rk : Int → Nat} (hI : Inside m es) (hw : ∀ e ∈ es, 0 ≤ e.2.2) (hs : 0 ≤ s ∧ s < (m : Int)) (h : IsC m es s xs rk) :
    ∀ (n : Nat) (v : Int), rk v ≤ n → 0 ≤ v → v < (m : Int) → 0 ≤ val xs v → 0 ≤ val (costsN m es s n) v ∧ val (costsN m es s n) v ≤ val xs v := by
  intro n
  induction n with
  | zero =>
    intro v hr h0 h1 h2
    rcases h.par v h0 h1 h2 with rfl | ⟨e, he, _, _, _, h6⟩
    · rw [costsN, hops0_val hs _ h0 h1, if_pos rfl, h.src]; omega
    · omega
  | succ n ih =>
    intro v hr h0 h1 h2
    rcases h.par v h0 h1 h2 with rfl | ⟨e, he, e1, e2, e3, h6⟩
    · rw [costsN]
      refine rel_mono hI es (fun _ h => h) _ (costsN_len _ _ _ _) _ _ h0 ?_ hw
      by_cases hr' : rk v ≤ n
      · exact ih _ hr' h0 h1 h2
      · have : ∀ k, 0 ≤ val (costsN m es v k) v ∧ val (costsN m es v k) v ≤ val xs v := by
          intro k
          induction k with
          | zero => rw [costsN, hops0_val hs _ h0 h1, if_pos rfl, h.src]; omega
          | succ k ik => exact rel_mono hI es (fun _ h => h) _ (costsN_len _ _ _ _) _ _ h0 ik hw
        exact this n
    · have h7 := ih e.1 (by omega) (hI e he).1.1 (hI e he).1.2 e2
      have h8 := rel_reach hI hw es (fun _ h => h) _ (costsN_len m es s n) e he _ h7
      rw [costsN]
      rw [e1] at h8
      omega
/-- The rounds of the reference find the costs. -/
theorem costsN_eq {m : Nat} {es : List E3} {s : Int} {xs : List Int} {rk : Int → Nat} (hI : Inside m es) (hw : ∀ e ∈ es, 0 ≤ e.2.2) (hs : 0 ≤ s ∧ s < (m : Int)) (h : IsC m es s xs rk) (hr : ∀ v : Int, 0 ≤ v → v < (m : Int) → 0 ≤ val xs v → rk v ≤ m) : costsN m es s m = xs := by
  refine ext_val (by rw [costsN_len, h.len]) (fun v h0 h1 => ?_)
  rw [costsN_len] at h1
  have hl := (costsN_lb hI hs h m).2 v h0 h1
  rcases h.rng v h0 h1 with a | a
  · omega
  · have hu := costsN_ub hI hw hs h m v (hr v h0 h1 a) h0 h1 a
    omega
/-! ## Dijkstra's walk -/
/-- The order of what waits. -/
def leR (a b : Int × Int) : Prop := a.1 < b.1 ∨ a.1 = b.1 ∧ a.2 ≤ b.2
structure Dj (m : Nat) (es : List E3) (s : Int) (xs : List Int) (q : List (Int × Int)) (d : Int) (rk : Int → Nat) (X : E3 → Prop) : Prop where
  len : xs.length = m
  pos : 0 ≤ d
  src : val xs s = 0 ∨ (val xs s = -1 ∧ (0, s) ∈ q)
  rng : ∀ v : Int, 0 ≤ v → v < (m : Int) → val xs v = -1 ∨ (0 ≤ val xs v ∧ val xs v ≤ d ∧ rk v + unset xs < m)
  par : ∀ v : Int, 0 ≤ v → v < (m : Int) → 0 ≤ val xs v → v = s ∨ ∃ e ∈ es, e.2.1 = v ∧ 0 ≤ val xs e.1 ∧ val xs v = val xs e.1 + e.2.2 ∧ rk e.1 < rk v
  que : ∀ r ∈ q, d ≤ r.1 ∧ (0 ≤ r.2 ∧ r.2 < (m : Int)) ∧ ((r.2 = s ∧ r.1 = 0) ∨ ∃ e ∈ es, e.2.1 = r.2 ∧ 0 ≤ val xs e.1 ∧ r.1 = val xs e.1 + e.2.2)
  ed : ∀ e ∈ es, 0 ≤ val xs e.1 → X e ∨ (0 ≤ val xs e.2.1 ∧ val xs e.2.1 ≤ val xs e.1 + e.2.2) ∨ (val xs e.2.1 = -1 ∧ (val xs e.1 + e.2.2, e.2.1) ∈ q)
theorem Dj.perm {m : Nat} {es : List E3} {s : Int} {xs : List Int} {q q' : List (Int × Int)} {d : Int} {rk : Int → Nat} {X : E3 → Prop} (h : Dj m es s xs q d rk X) (hp : ∀ r, r ∈ q' ↔ r ∈ q) : Dj m es s xs q' d rk X :=
  ⟨h.len, h.pos, by rw [hp]; exact h.src, h.rng, h.par, fun r hr => h.que r ((hp r).1 hr), fun e he h0 => by rw [hp]; exact h.ed e he h0⟩
theorem Dj.skip {m : Nat} {es : List E3} {s : Int} {xs : List Int} {q : List (Int × Int)} {r : Int × Int} {d : Int} {rk : Int → Nat} {X : E3 → Prop} (h : Dj m es s xs (r :: q) d rk X) (hv : val xs r.2 ≠ -1) : Dj m es s xs q d rk X := by
  refine ⟨h.len, h.pos, ?_, h.rng, h.par, fun x hx => h.que x (List.mem_cons_of_mem _ hx), fun e he h0 => ?_⟩
  · rcases h.src with a | ⟨a, b⟩
    · exact .inl a
    · rcases List.mem_cons.1 b with b | b
      · rw [← b] at hv; exact absurd a hv
      · exact .inr ⟨a, b⟩
  · rcases h.ed e he h0 with a | a | ⟨a, b⟩
    · exact .inl a
    · exact .inr (.inl a)
    · rcases List.mem_cons.1 b with b | b
      · rw [← b] at hv; exact absurd a hv
      · exact .inr (.inr ⟨a, b⟩)
theorem unset_le (xs : List Int) : unset xs ≤ xs.length := List.count_le_length
theorem Dj.take {m : Nat} {es : List E3} {s : Int} {xs : List Int} {q : List (Int × Int)} {r : Int × Int} {d : Int} {rk : Int → Nat} (hI : Inside m es) (hs : 0 ≤ s ∧ s < (m : Int)) (h : Dj m es s xs (r :: q) d rk (fun _ => False)) (hmin : ∀ x ∈ q, leR r x) (hv : val xs r.2 = -1) :
    Dj m es s (setv xs r.2 r.1) q r.1 (fun u => if u = r.2 then m - unset xs else rk u) (fun e => e.1 = r.2) := by
  obtain ⟨c, v⟩ := r
  dsimp only at *
  have hr := h.que (c, v) List.mem_cons_self
  dsimp only at hr
  obtain ⟨hdc, hv0, hwit⟩ := hr
  have hlen := h.len
  have hpos := h.pos
  have hval : ∀ w : Int, 0 ≤ w → val (setv xs v c) w = if w = v then c else val xs w := fun w hw => val_setv hv0.1 (by rw [hlen]; exact hv0.2) hw
  have hcnt := unset_setv hv0.1 (by rw [hlen]; exact hv0.2) hv (x := c) (by omega)
  have hle := unset_le xs
  rw [hlen] at hle
  have hmin' : ∀ x ∈ (c, v) :: q, c ≤ x.1 := fun x hx => by
    rcases List.mem_cons.1 hx with rfl | hx
    · exact Int.le_refl _
    · have := hmin x hx
      unfold leR at this
      dsimp only at this
      omega
  refine ⟨by rw [setv_len]; exact hlen, by omega, ?_, fun u h0 h1 => ?_, fun u h0 h1 h2 => ?_, fun x hx => ?_, fun e he h0 => ?_⟩
  · rw [hval s hs.1]
    by_cases hvs : s = v
    · rw [if_pos hvs]
      left
      subst hvs
      rcases h.src with a | ⟨a, b⟩
      · omega
      · have := hmin' _ b
        dsimp only at this
        omega
    · rw [if_neg hvs]
      rcases h.src with a | ⟨a, b⟩
      · exact .inl a
      · rcases List.mem_cons.1 b with b | b
        · injection b with _ b
          exact absurd b hvs
        · exact .inr ⟨a, b⟩
  · rw [hval u h0]
    by_cases hu : u = v
    · simp only [if_pos hu]
      right; omega
    · simp only [if_neg hu]
      rcases h.rng u h0 h1 with a | ⟨a, b, b'⟩
      · exact .inl a
      · right; omega
  · rw [hval u h0] at h2 ⊢
    have hkeep : ∀ e ∈ es, 0 ≤ val xs e.1 → val (setv xs v c) e.1 = val xs e.1 ∧ e.1 ≠ v := fun e he h3 => by
      have hne : e.1 ≠ v := fun hc => by rw [hc] at h3; omega
      rw [hval e.1 (hI e he).1.1, if_neg hne]
      exact ⟨rfl, hne⟩
    by_cases hu : u = v
    · subst hu
      rw [if_pos rfl]
      rcases hwit with a | ⟨e, he, e1, e2, e3⟩
      · exact .inl a.1
      · obtain ⟨k1, k2⟩ := hkeep e he e2
        refine .inr ⟨e, he, e1, by rw [k1]; exact e2, by rw [k1]; exact e3, ?_⟩
        simp only [if_neg k2, if_pos rfl]
        rcases h.rng e.1 (hI e he).1.1 (hI e he).1.2 with a | ⟨_, _, a⟩
        · omega
        · simp; omega
    · rw [if_neg hu] at h2 ⊢
      rcases h.par u h0 h1 h2 with a | ⟨e, he, e1, e2, e3, e4⟩
      · exact .inl a
      · obtain ⟨k1, k2⟩ := hkeep e he e2
        refine .inr ⟨e, he, e1, by rw [k1]; exact e2, by rw [k1]; exact e3, ?_⟩
        simp only [if_neg k2, if_neg hu]
        exact e4
  · have hx' := h.que x (List.mem_cons_of_mem _ hx)
    refine ⟨hmin' x (List.mem_cons_of_mem _ hx), hx'.2.1, ?_⟩
    rcases hx'.2.2 with a | ⟨e, he, e1, e2, e3⟩
    · exact .inl a
    · have hne : e.1 ≠ v := fun hc => by rw [hc] at e2; omega
      refine .inr ⟨e, he, e1, ?_, ?_⟩
      · rw [hval e.1 (hI e he).1.1, if_neg hne]; exact e2
      · rw [hval e.1 (hI e he).1.1, if_neg hne]; exact e3
  · by_cases hev : e.1 = v
    · exact .inl hev
    · rw [hval e.1 (hI e he).1.1, if_neg hev] at h0 ⊢
      rw [hval e.2.1 (hI e he).2.1]
      rcases h.ed e he h0 with a | a | ⟨a, b⟩
      · exact a.elim
      · have hne : e.2.1 ≠ v := fun hc => by rw [hc] at a; omega
        rw [if_neg hne]
        exact .inr (.inl a)
      · by_cases hne : e.2.1 = v
        · rw [if_pos hne]
          have := hmin' _ b
          dsimp only at this
          right; left; omega
        · rw [if_neg hne]
          rcases List.mem_cons.1 b with b | b
          · injection b with _ b
            exact absurd b hne
          · exact .inr (.inr ⟨a, b⟩)
/-- An edge of the vertex that was taken. -/
def psh (xs : List Int) (c : Int) (q : List (Int × Int)) (e : E3) : List (Int × Int) := if val xs e.2.1 = -1 then (c + e.2.2, e.2.1) :: q else q
theorem Dj.push {m : Nat} {es : List E3} {s v d : Int} {xs : List Int} {q : List (Int × Int)} {rk : Int → Nat} (hI : Inside m es) (hw : ∀ e ∈ es, 0 ≤ e.2.2) {e0 : E3} {L : List E3} (h : Dj m es s xs q d rk (fun e => e.1 = v ∧ e ∈ e0 :: L)) (he0 : e0 ∈ es) (h01 : e0.1 = v) (hv : val xs v = d) :
    Dj m es s xs (psh xs d q e0) d rk (fun e => e.1 = v ∧ e ∈ L) := by
  have hpos := h.pos
  have hw0 := hw e0 he0
  unfold psh
  by_cases hc : val xs e0.2.1 = -1
  · rw [if_pos hc]
    refine ⟨h.len, h.pos, ?_, h.rng, h.par, fun x hx => ?_, fun e he h0 => ?_⟩
    · rcases h.src with a | ⟨a, b⟩
      · exact .inl a
      · exact .inr ⟨a, List.mem_cons_of_mem _ b⟩
    · rcases List.mem_cons.1 hx with rfl | hx
      · dsimp only
        refine ⟨by omega, (hI e0 he0).2, .inr ⟨e0, he0, rfl, by rw [h01, hv]; exact hpos, by rw [h01, hv]⟩⟩
      · exact h.que x hx
    · rcases h.ed e he h0 with ⟨a, b⟩ | a | ⟨a, b⟩
      · rcases List.mem_cons.1 b with rfl | b
        · right; right
          refine ⟨hc, ?_⟩
          rw [h01, hv]
          exact List.mem_cons_self
        · exact .inl ⟨a, b⟩
      · exact .inr (.inl a)
      · exact .inr (.inr ⟨a, List.mem_cons_of_mem _ b⟩)
  · rw [if_neg hc]
    refine ⟨h.len, h.pos, h.src, h.rng, h.par, h.que, fun e he h0 => ?_⟩
    rcases h.ed e he h0 with ⟨a, b⟩ | a | a
    · rcases List.mem_cons.1 b with rfl | b
      · right; left
        rcases h.rng e.2.1 (hI e he).2.1 (hI e he).2.2 with c | ⟨c1, c2, _⟩
        · exact absurd c hc
        · rw [h01, hv]; omega
      · exact .inl ⟨a, b⟩
    · exact .inr (.inl a)
    · exact .inr (.inr a)
theorem Dj.weak {m : Nat} {es : List E3} {s d : Int} {xs : List Int} {q : List (Int × Int)} {rk : Int → Nat} {X Y : E3 → Prop} (h : Dj m es s xs q d rk X) (hxy : ∀ e ∈ es, X e → Y e) : Dj m es s xs q d rk Y :=
  ⟨h.len, h.pos, h.src, h.rng, h.par, h.que, fun e he h0 => (h.ed e he h0).imp (hxy e he) id⟩
theorem Dj.init {m : Nat} {es : List E3} {s : Int} (hI : Inside m es) (hs : 0 ≤ s ∧ s < (m : Int)) : Dj m es s (List.replicate m (-1)) [(0, s)] 0 (fun _ => 0) (fun _ => False) := by
  have hval : ∀ v : Int, 0 ≤ v → v < (m : Int) → val (List.replicate m (-1)) v = -1 := fun v h0 h1 => by
    unfold val
    rw [List.getD_eq_getElem?_getD, List.getElem?_replicate, if_pos (by omega)]; rfl
  refine ⟨by simp, by omega, .inr ⟨hval s hs.1 hs.2, by simp⟩, fun v h0 h1 => .inl (hval v h0 h1), fun v h0 h1 h2 => ?_, fun r hr => ?_, fun e he h0 => ?_⟩
  · rw [hval v h0 h1] at h2; omega
  · obtain rfl : r = (0, s) := by simpa using hr
    exact ⟨by simp, hs, .inl ⟨rfl, rfl⟩⟩
  · rw [hval _ (hI e he).1.1 (hI e he).1.2] at h0; omega
theorem Dj.done {m : Nat} {es : List E3} {s d : Int} {xs : List Int} {rk : Int → Nat} (hI : Inside m es) (hw : ∀ e ∈ es, 0 ≤ e.2.2) (hs : 0 ≤ s ∧ s < (m : Int)) (h : Dj m es s xs [] d rk (fun _ => False)) : IsC m es s xs rk ∧ costsN m es s m = xs := by
  have hC : IsC m es s xs rk := by
    refine ⟨h.len, ?_, fun v h0 h1 => ?_, fun e he h0 => ?_, h.par⟩
    · rcases h.src with a | ⟨_, b⟩
      · exact a
      · cases b
    · rcases h.rng v h0 h1 with a | a
      · exact .inl a
      · exact .inr a.1
    · rcases h.ed e he h0 with a | a | ⟨_, b⟩
      · exact a.elim
      · exact a
      · cases b
  refine ⟨hC, costsN_eq hI hw hs hC (fun v h0 h1 h2 => ?_)⟩
  rcases h.rng v h0 h1 with a | a
  · omega
  · omega
theorem Dj.bd {m : Nat} {es : List E3} {s d : Int} {xs : List Int} {q : List (Int × Int)} {rk : Int → Nat} {X : E3 → Prop} (hI : Inside m es) (hw : ∀ e ∈ es, e.2.2 ≤ 20) (h : Dj m es s xs q d rk X) : ∀ (n : Nat) (v : Int), rk v ≤ n → 0 ≤ v → v < (m : Int) → 0 ≤ val xs v → val xs v ≤ 20 * rk v := by
  intro n
  induction n with
  | zero =>
    intro v hr h0 h1 h2
    rcases h.par v h0 h1 h2 with rfl | ⟨e, he, _, _, _, h6⟩
    · rcases h.src with a | ⟨a, _⟩ <;> omega
    · omega
  | succ n ih =>
    intro v hr h0 h1 h2
    rcases h.par v h0 h1 h2 with rfl | ⟨e, he, e1, e2, e3, h6⟩
    · rcases h.src with a | ⟨a, _⟩ <;> omega
    · have := ih e.1 (by omega) (hI e he).1.1 (hI e he).1.2 e2
      have := hw e he
      omega
theorem Dj.bd2 {m : Nat} {es : List E3} {s d : Int} {xs : List Int} {q : List (Int × Int)} {rk : Int → Nat} {X : E3 → Prop} (hI : Inside m es) (hw : ∀ e ∈ es, e.2.2 ≤ 20) (hm : m ≤ 16) (h : Dj m es s xs q d rk X) : (∀ v : Int, 0 ≤ v → v < (m : Int) → val xs v ≤ 320) ∧ ∀ r ∈ q, r.1 ≤ 340 := by
  have key : ∀ v : Int, 0 ≤ v → v < (m : Int) → val xs v ≤ 320 := fun v h0 h1 => by
    rcases h.rng v h0 h1 with a | ⟨a, b, c⟩
    · omega
    · have := h.bd hI hw _ v (Nat.le_refl _) h0 h1 a
      omega
  refine ⟨key, fun r hr => ?_⟩
  rcases (h.que r hr).2.2 with a | ⟨e, he, e1, e2, e3⟩
  · omega
  · have := key e.1 (hI e he).1.1 (hI e he).1.2
    have := hw e he
    omega
/-! ## How long it takes -/
def open_ (es : List E3) (xs : List Int) : Nat := (es.filter fun e => decide (val xs e.1 = -1)).length
def outE (es : List E3) (v : Int) : List E3 := es.filter fun e => decide (e.1 = v)
theorem open_take {m : Nat} {xs : List Int} {v c : Int} (hl : xs.length = m) (h0 : 0 ≤ v ∧ v < (m : Int)) (hv : val xs v = -1) (hc : c ≠ -1) : ∀ es : List E3, Inside m es → open_ es (setv xs v c) + (outE es v).length = open_ es xs
  | [], _ => rfl
  | e :: es, hI => by
    have ih := open_take hl h0 hv hc es (fun e he => hI e (List.mem_cons_of_mem _ he))
    have he := (hI e List.mem_cons_self).1
    unfold open_ outE at *
    rw [List.filter_cons, List.filter_cons, List.filter_cons, val_setv h0.1 (by rw [hl]; exact h0.2) he.1]
    by_cases hev : e.1 = v
    · have h2 : val xs e.1 = -1 := by rw [hev]; exact hv
      simp [hev, hv, hc]
      try simp at ih
      omega
    · simp only [if_neg hev]
      by_cases h2 : val xs e.1 = -1
      · simp [h2, hev]
        try simp at ih
        omega
      · simp [h2, hev]
        try simp at ih
        omega
theorem psh_len (xs : List Int) (c : Int) (q : List (Int × Int)) (e : E3) : (psh xs c q e).length ≤ q.length + 1 := by unfold psh; split <;> simp
theorem min_ex : ∀ (q : List (Int × Int)), q ≠ [] → ∃ r q', q.Perm (r :: q') ∧ ∀ x ∈ q', leR r x
  | [], h => absurd rfl h
  | [r], _ => ⟨r, [], List.Perm.refl _, fun x hx => by cases hx⟩
  | a :: b :: q, _ => by
    obtain ⟨r, q', hp, hm⟩ := min_ex (b :: q) (by simp)
    by_cases h : leR a r
    · refine ⟨a, b :: q, List.Perm.refl _, fun x hx => ?_⟩
      rcases List.mem_cons.1 (hp.mem_iff.1 hx) with rfl | hx
      · exact h
      · have := hm x hx
        unfold leR at *
        omega
    · refine ⟨r, a :: q', ((List.Perm.cons a hp).trans (List.Perm.swap r a q')), fun x hx => ?_⟩
      rcases List.mem_cons.1 hx with rfl | hx
      · unfold leR at *
        omega
      · exact hm x hx
theorem pshS_dj {m : Nat} {es : List E3} {s v d : Int} {xs : List Int} {rk : Int → Nat} (hI : Inside m es) (hw : ∀ e ∈ es, 0 ≤ e.2.2) (hv : val xs v = d) : ∀ (L : List E3) (q : List (Int × Int)), (∀ e ∈ L, e ∈ es ∧ e.1 = v) → Dj m es s xs q d rk (fun e => e.1 = v ∧ e ∈ L) →
    ∃ q', Dj m es s xs q' d rk (fun _ => False) ∧ q'.length ≤ q.length + L.length
  | [], q, _, h => ⟨q, h.weak (fun e _ hx => by cases hx.2), by simp⟩
  | e :: L, q, hL, h => by
    obtain ⟨q', h1, h2⟩ := pshS_dj hI hw hv L _ (fun e he => hL e (List.mem_cons_of_mem _ he)) (h.push hI hw (hL e List.mem_cons_self).1 (hL e List.mem_cons_self).2 hv)
    have := psh_len xs d q e
    exact ⟨q', h1, by rw [List.length_cons]; omega⟩
theorem mem_outE {es : List E3} {v : Int} {e : E3} : e ∈ outE es v ↔ e ∈ es ∧ e.1 = v := by unfold outE; simp
theorem dj_ex {m : Nat} {es : List E3} {s : Int} (hI : Inside m es) (hw : ∀ e ∈ es, 0 ≤ e.2.2) (hs : 0 ≤ s ∧ s < (m : Int)) : ∀ (n : Nat) (xs : List Int) (q : List (Int × Int)) (d : Int) (rk : Int → Nat), q.length + open_ es xs ≤ n → Dj m es s xs q d rk (fun _ => False) → ∃ xs' rk', IsC m es s xs' rk' ∧ costsN m es s m = xs' := by
  intro n
  induction n with
  | zero =>
    intro xs q d rk hn h
    have : q = [] := List.length_eq_zero_iff.1 (by omega)
    subst this
    exact ⟨xs, rk, h.done hI hw hs⟩
  | succ n ih =>
    intro xs q d rk hn h
    by_cases hq : q = []
    · subst hq
      exact ⟨xs, rk, h.done hI hw hs⟩
    · obtain ⟨r, q', hp, hm⟩ := min_ex q hq
      have h1 := h.perm (q' := r :: q') (fun x => hp.mem_iff.symm)
      have hl := hp.length_eq
      rw [List.length_cons] at hl
      by_cases hv : val xs r.2 = -1
      · have hr := h1.que r List.mem_cons_self
        have hpos := h.pos
        have h2 := h1.take hI hs hm hv
        have hvv : val (setv xs r.2 r.1) r.2 = r.1 := by rw [val_setv hr.2.1.1 (by rw [h.len]; exact hr.2.1.2) hr.2.1.1, if_pos rfl]
        obtain ⟨q2, h3, h4⟩ := pshS_dj hI hw hvv (outE es r.2) q' (fun e he => mem_outE.1 he) (h2.weak (fun e he hx => ⟨hx, mem_outE.2 ⟨he, hx⟩⟩))
        have := open_take h.len hr.2.1 hv (c := r.1) (by omega) es hI
        exact ih _ _ _ _ (by omega) h3
      · exact ih _ _ _ _ (by omega) (h1.skip hv)
/-- The costs of the reference are costs. -/
theorem costsN_isC {m : Nat} {es : List E3} {s : Int} (hI : Inside m es) (hw : ∀ e ∈ es, 0 ≤ e.2.2) (hs : 0 ≤ s ∧ s < (m : Int)) : ∃ rk, IsC m es s (costsN m es s m) rk := by
  obtain ⟨xs, rk, h, he⟩ := dj_ex hI hw hs _ _ _ _ _ (Nat.le_refl _) (Dj.init hI hs)
  exact ⟨rk, he ▸ h⟩
/-! ## Heaps -/
def ltR (a b : Int × Int) : Bool := if a.1 = b.1 then decide (a.2 < b.2) else decide (a.1 < b.1)
theorem ltR_false {a b : Int × Int} : ltR a b = false ↔ leR b a := by
  unfold ltR leR
  split <;> simp <;> omega
theorem leR_refl (a : Int × Int) : leR a a := by unfold leR; omega
theorem leR_trans {a b c : Int × Int} (h : leR a b) (g : leR b c) : leR a c := by unfold leR at *; omega
theorem leR_of_lt {a b : Int × Int} (h : ltR a b = true) : leR a b := by
  unfold ltR at h; unfold leR
  split at h <;> simp at h <;> omega
def atQ (q : List (Int × Int)) (i : Nat) : Int × Int := q.getD i (0, 0)
def swp (q : List (Int × Int)) (i j : Nat) : List (Int × Int) := (q.set i (atQ q j)).set j (atQ q i)
theorem swp_len (q : List (Int × Int)) (i j : Nat) : (swp q i j).length = q.length := by unfold swp; simp
theorem atQ_swp {q : List (Int × Int)} {i j : Nat} (hi : i < q.length) (hj : j < q.length) (k : Nat) : atQ (swp q i j) k = if k = j then atQ q i else if k = i then atQ q j else atQ q k := by
  unfold swp
  conv => lhs; unfold atQ
  rw [List.getD_eq_getElem?_getD, List.getElem?_set]
  by_cases h1 : j = k
  · subst h1
    rw [if_pos rfl, if_pos (by simpa using hj), if_pos rfl]; rfl
  · rw [if_neg h1, if_neg (fun e => h1 e.symm), List.getElem?_set]
    by_cases h2 : i = k
    · subst h2
      rw [if_pos rfl, if_pos hi, if_pos rfl]; rfl
    · rw [if_neg h2, if_neg (fun e => h2 e.symm)]; rfl
theorem swp_perm {q : List (Int × Int)} {i j : Nat} (hi : i < q.length) (hj : j < q.length) : (swp q i j).Perm q := by
  unfold swp atQ
  rw [List.getD_eq_getElem?_getD, List.getD_eq_getElem?_getD, List.getElem?_eq_getElem hi, List.getElem?_eq_getElem hj]
  exact List.set_set_perm hi hj
def upH (q : List (Int × Int)) (j : Nat) : List (Int × Int) :=
  if h : (j - 1) / 2 = j ∨ ltR (atQ q j) (atQ q ((j - 1) / 2)) = false then q else upH (swp q ((j - 1) / 2) j) ((j - 1) / 2)
termination_by j
decreasing_by omega
/-- The lesser child. -/
def chd (q : List (Int × Int)) (i n : Nat) : Nat := if 2 * i + 2 < n ∧ ltR (atQ q (2 * i + 2)) (atQ q (2 * i + 1)) = true then 2 * i + 2 else 2 * i + 1
theorem chd_lt {q : List (Int × Int)} {i n : Nat} (h : 2 * i + 1 < n) : chd q i n < n ∧ i < chd q i n ∧ (chd q i n - 1) / 2 = i := by
  unfold chd
  split <;> omega
def downH (q : List (Int × Int)) (i n : Nat) : List (Int × Int) :=
  if h : n ≤ 2 * i + 1 ∨ ltR (atQ q (chd q i n)) (atQ q i) = false then q else downH (swp q i (chd q i n)) (chd q i n) n
termination_by n - i
decreasing_by
  have := chd_lt (q := q) (i := i) (n := n) (by omega)
  omega
def pushH (q : List (Int × Int)) (r : Int × Int) : List (Int × Int) := upH (q ++ [r]) q.length
def popQ (q : List (Int × Int)) : List (Int × Int) := downH (swp q 0 (q.length - 1)) 0 (q.length - 1)
def popR (q : List (Int × Int)) : Int × Int := atQ (popQ q) (q.length - 1)
def popH (q : List (Int × Int)) : List (Int × Int) := (popQ q).take (q.length - 1)
def Hp (n : Nat) (q : List (Int × Int)) : Prop := ∀ k, 0 < k → k < n → leR (atQ q ((k - 1) / 2)) (atQ q k)
theorem Hp.min {n : Nat} {q : List (Int × Int)} (h : Hp n q) : ∀ k, k < n → leR (atQ q 0) (atQ q k) := by
  intro k
  induction k using Nat.strongRecOn with
  | _ k ih =>
    intro hk
    rcases Nat.eq_zero_or_pos k with h0 | h0
    · subst h0; exact leR_refl _
    · exact leR_trans (ih ((k - 1) / 2) (by omega) (by omega)) (h k h0 hk)
theorem upH_spec : ∀ (j : Nat) (q : List (Int × Int)), j < q.length → (∀ k, 0 < k → k < q.length → k ≠ j → leR (atQ q ((k - 1) / 2)) (atQ q k)) → (∀ k, 0 < k → k < q.length → (k - 1) / 2 = j → 0 < j → leR (atQ q ((j - 1) / 2)) (atQ q k)) →
    (upH q j).Perm q ∧ Hp q.length (upH q j) := by
  intro j
  induction j using Nat.strongRecOn with
  | _ j ih =>
    intro q hj h1 h2
    rw [upH]
    split
    · rename_i hc
      refine ⟨List.Perm.refl _, fun k h0 hk => ?_⟩
      by_cases hkj : k = j
      · subst hkj
        rcases hc with hc | hc
        · omega
        · exact ltR_false.1 hc
      · exact h1 k h0 hk hkj
    · rename_i hc
      have hi : (j - 1) / 2 < j := by omega
      have hlt : leR (atQ q j) (atQ q ((j - 1) / 2)) := leR_of_lt (by
        cases hb : ltR (atQ q j) (atQ q ((j - 1) / 2)) with
        | true => rfl
        | false => exact absurd (.inr hb) hc)
      generalize hie : (j - 1) / 2 = i at *
      have hA := atQ_swp (q := q) (i := i) (j := j) (by omega) hj
      obtain ⟨p1, p2⟩ := ih i hi (swp q i j) (by rw [swp_len]; omega) (fun k h0 hk hki => by
        rw [swp_len] at hk
        rw [hA, hA]
        by_cases hkj : k = j
        · subst hkj
          rw [if_pos rfl, hie, if_neg (by omega), if_pos rfl]
          exact hlt
        · rw [if_neg hkj, if_neg hki]
          by_cases hp : (k - 1) / 2 = j
          · rw [if_pos hp]
            exact h2 k h0 hk hp (by omega)
          · rw [if_neg hp]
            by_cases hpi : (k - 1) / 2 = i
            · rw [if_pos hpi]
              have := h1 k h0 hk hkj
              rw [hpi] at this
              exact leR_trans hlt this
            · rw [if_neg hpi]
              exact h1 k h0 hk hkj) (fun k h0 hk hp hi0 => by
        rw [swp_len] at hk
        have hpar := h1 i hi0 (by omega) (by omega)
        rw [hA, hA, if_neg (show ¬ (i - 1) / 2 = j by omega), if_neg (show ¬ (i - 1) / 2 = i by omega)]
        by_cases hkj : k = j
        · rw [if_pos hkj]
          exact hpar
        · rw [if_neg hkj, if_neg (by omega)]
          have := h1 k h0 hk hkj
          rw [hp] at this
          exact leR_trans hpar this)
      rw [swp_len] at p2
      exact ⟨p1.trans (swp_perm (by omega) hj), p2⟩
theorem pushH_spec {q : List (Int × Int)} (h : Hp q.length q) (r : Int × Int) : (pushH q r).Perm (r :: q) ∧ Hp (pushH q r).length (pushH q r) := by
  unfold pushH
  have hat : ∀ k, k < q.length → atQ (q ++ [r]) k = atQ q k := fun k hk => by unfold atQ; rw [List.getD_eq_getElem?_getD, List.getElem?_append_left hk]; rfl
  obtain ⟨p1, p2⟩ := upH_spec q.length (q ++ [r]) (by simp) (fun k h0 hk hkj => by
    have : k < q.length := by simp at hk; omega
    rw [hat _ this, hat _ (by omega)]
    exact h k h0 this) (fun k h0 hk hp hj => by simp at hk; omega)
  refine ⟨p1.trans (List.perm_append_singleton r q), ?_⟩
  rw [p1.length_eq]
  exact p2
theorem downH_spec (n : Nat) : ∀ (t i : Nat) (q : List (Int × Int)), n - i ≤ t → n ≤ q.length → (∀ k, 0 < k → k < n → (k - 1) / 2 ≠ i → leR (atQ q ((k - 1) / 2)) (atQ q k)) → (∀ k, 0 < k → k < n → (k - 1) / 2 = i → 0 < i → leR (atQ q ((i - 1) / 2)) (atQ q k)) →
    (downH q i n).Perm q ∧ Hp n (downH q i n) ∧ ∀ k, n ≤ k → atQ (downH q i n) k = atQ q k := by
  intro t
  induction t with
  | zero =>
    intro i q ht hn h1 h2
    rw [downH, dif_pos (.inl (by omega))]
    exact ⟨List.Perm.refl _, fun k h0 hk => h1 k h0 hk (by omega), fun k _ => rfl⟩
  | succ t ih =>
    intro i q ht hn h1 h2
    rw [downH]
    split
    · rename_i hc
      refine ⟨List.Perm.refl _, fun k h0 hk => ?_, fun k _ => rfl⟩
      by_cases hp : (k - 1) / 2 = i
      · rcases hc with hc | hc
        · omega
        · have h3 := ltR_false.1 hc
          rw [hp]
          refine leR_trans h3 ?_
          unfold chd
          split
          · rename_i h4
            have : k = 2 * i + 1 ∨ k = 2 * i + 2 := by omega
            rcases this with e | e
            · rw [e]; exact leR_of_lt h4.2
            · rw [e]; exact leR_refl _
          · rename_i h4
            have : k = 2 * i + 1 ∨ k = 2 * i + 2 := by omega
            rcases this with e | e
            · rw [e]; exact leR_refl _
            · rw [e]
              refine ltR_false.1 ?_
              cases hb : ltR (atQ q (2 * i + 2)) (atQ q (2 * i + 1)) with
              | false => rfl
              | true => exact absurd ⟨by omega, hb⟩ h4
      · exact h1 k h0 hk hp
    · rename_i hc
      have hin : 2 * i + 1 < n := by omega
      obtain ⟨c1, c2, c3⟩ := chd_lt (q := q) hin
      have hlt : leR (atQ q (chd q i n)) (atQ q i) := leR_of_lt (by
        cases hb : ltR (atQ q (chd q i n)) (atQ q i) with
        | true => rfl
        | false => exact absurd (.inr hb) hc)
      have hsib : ∀ k, 0 < k → k < n → (k - 1) / 2 = i → leR (atQ q (chd q i n)) (atQ q k) := fun k h0 hk hp => by
        unfold chd
        have hk2 : k = 2 * i + 1 ∨ k = 2 * i + 2 := by omega
        split
        · rename_i h4
          rcases hk2 with e | e
          · rw [e]; exact leR_of_lt h4.2
          · rw [e]; exact leR_refl _
        · rename_i h4
          rcases hk2 with e | e
          · rw [e]; exact leR_refl _
          · rw [e]
            refine ltR_false.1 ?_
            cases hb : ltR (atQ q (2 * i + 2)) (atQ q (2 * i + 1)) with
            | false => rfl
            | true => exact absurd ⟨by omega, hb⟩ h4
      generalize chd q i n = j at *
      have hA := atQ_swp (q := q) (i := i) (j := j) (by omega) (by omega)
      obtain ⟨p1, p2, p3⟩ := ih j (swp q i j) (by omega) (by rw [swp_len]; omega) (fun k h0 hk hpj => by
        rw [hA, hA, if_neg hpj]
        by_cases hp : (k - 1) / 2 = i
        · rw [if_pos hp]
          by_cases hkj : k = j
          · rw [if_pos hkj]; exact hlt
          · rw [if_neg hkj, if_neg (by omega)]
            exact hsib k h0 hk hp
        · rw [if_neg hp]
          by_cases hkj : k = j
          · subst hkj; exact absurd c3 hp
          · rw [if_neg hkj]
            by_cases hki : k = i
            · rw [if_pos hki, hki]
              exact h2 j (by omega) c1 c3 (by omega)
            · rw [if_neg hki]
              exact h1 k h0 hk hp) (fun k h0 hk hp _ => by
        have hkj : k ≠ j := by omega
        have hki : k ≠ i := by omega
        rw [hA, hA, c3, if_neg (show ¬ i = j by omega), if_pos rfl, if_neg hkj, if_neg hki]
        have := h1 k h0 hk (by omega)
        rw [hp] at this
        exact this)
      refine ⟨p1.trans (swp_perm (by omega) (by omega)), p2, fun k hk => ?_⟩
      rw [p3 k hk, hA, if_neg (by omega), if_neg (by omega)]
theorem popH_spec {q : List (Int × Int)} (h : Hp q.length q) (hne : q ≠ []) : q.Perm (popR q :: popH q) ∧ (∀ x ∈ popH q, leR (popR q) x) ∧ Hp (popH q).length (popH q) ∧ (popH q).length = q.length - 1 ∧ (popQ q).length = q.length ∧ popQ q = popH q ++ [popR q] := by
  have hpos : 0 < q.length := List.length_pos_iff.2 hne
  obtain ⟨n, hn⟩ : ∃ n, q.length = n + 1 := ⟨q.length - 1, by omega⟩
  have hn' : q.length - 1 = n := by omega
  have hA := atQ_swp (q := q) (i := 0) (j := n) (by omega) (by omega)
  obtain ⟨p1, p2, p3⟩ := downH_spec n n 0 (swp q 0 n) (by omega) (by rw [swp_len]; omega) (fun k h0 hk hp => by
    rw [hA, hA, if_neg (by omega), if_neg hp, if_neg (by omega), if_neg (by omega)]
    exact h k h0 (by omega)) (fun k h0 hk hp h3 => by omega)
  have hQ : popQ q = downH (swp q 0 n) 0 n := by unfold popQ; rw [hn']
  have hL : (popQ q).length = n + 1 := by rw [hQ, p1.length_eq, swp_len, hn]
  have hR : popR q = atQ q 0 := by
    unfold popR
    rw [hQ, hn', p3 n (Nat.le_refl _), hA, if_pos rfl]
  have hsplit : popQ q = popH q ++ [popR q] := by
    unfold popH popR
    rw [hn']
    have h1 : n < (popQ q).length := by omega
    have h2 := List.take_append_drop n (popQ q)
    rw [List.drop_eq_getElem_cons h1, List.drop_of_length_le (by omega)] at h2
    have h3 : atQ (popQ q) n = (popQ q)[n] := by unfold atQ; rw [List.getD_eq_getElem?_getD, List.getElem?_eq_getElem h1]; rfl
    rw [h3]
    exact h2.symm
  have hlen : (popH q).length = n := by unfold popH; rw [List.length_take, hL, hn']; omega
  have hperm : q.Perm (popR q :: popH q) := by
    have h1 : (popQ q).Perm q := by rw [hQ]; exact p1.trans (swp_perm (by omega) (by omega))
    refine h1.symm.trans ?_
    rw [hsplit]
    exact List.perm_append_singleton _ _
  refine ⟨hperm, fun x hx => ?_, ?_, by omega, by omega, hsplit⟩
  · have hxq : x ∈ q := hperm.mem_iff.2 (List.mem_cons_of_mem _ hx)
    obtain ⟨k, hk, rfl⟩ := List.getElem_of_mem hxq
    rw [hR]
    have h4 := h.min k hk
    unfold atQ at h4
    rw [List.getD_eq_getElem?_getD (i := k), List.getElem?_eq_getElem hk] at h4
    exact h4
  · rw [hlen]
    intro k h0 hk
    have h5 := p2 k h0 hk
    rw [← hQ, hsplit] at h5
    have hat : ∀ j, j < n → atQ (popH q ++ [popR q]) j = atQ (popH q) j := fun j hj => by unfold atQ; rw [List.getD_eq_getElem?_getD, List.getElem?_append_left (by omega)]; rfl
    rw [hat _ hk, hat _ (by omega)] at h5
    exact h5
end Go.Proofs.YthjnidcmhegoeaaDoor
