/- Hops, as plain data: what least numbers of edges are; the checks of HopsRight say just that. No statement of the seat is proved here. -/
import Derived.Test.YthjnidcmhegoeaaDoorHopsR
set_option linter.unusedSimpArgs false
set_option linter.unusedVariables false
namespace Go.Proofs.YthjnidcmhegoeaaDoor
/-! ## GHop -/
/-- A way of k edges from s to v. -/
def way (es : List E3) (s : Int) : Nat → Int → Prop
  | 0, v => v = s
  | k + 1, v => ∃ e ∈ es, e.2.1 = v ∧ way es s k e.1
/-- k is the least number of edges of a way to v. -/
def least (es : List E3) (s : Int) (k : Nat) (v : Int) : Prop := way es s k v ∧ ∀ j, j < k → ¬ way es s j v
theorem least_uniq {es : List E3} {s v : Int} {j k : Nat} (h : least es s j v) (g : least es s k v) : j = k := by
  rcases Nat.lt_trichotomy j k with h1 | h1 | h1
  · exact absurd h.1 (g.2 j h1)
  · exact h1
  · exact absurd g.1 (h.2 k h1)
theorem least_of_way {es : List E3} {s : Int} : ∀ (k : Nat) {v : Int}, way es s k v → ∃ j, j ≤ k ∧ least es s j v := by
  intro k
  induction k using Nat.strongRecOn with
  | _ k ih =>
    intro v h
    by_cases hl : ∃ j, j < k ∧ way es s j v
    · obtain ⟨j, hj, hw⟩ := hl
      obtain ⟨i, hi, hL⟩ := ih j hj hw
      exact ⟨i, by omega, hL⟩
    · exact ⟨k, Nat.le_refl _, h, fun j hj hw => hl ⟨j, hj, hw⟩⟩
/-- The step before the last of a least way is least. -/
theorem least_pred {es : List E3} {s : Int} {k : Nat} {v : Int} (h : least es s (k + 1) v) : ∃ e ∈ es, e.2.1 = v ∧ least es s k e.1 := by
  obtain ⟨e, he, hv, hw⟩ := h.1
  refine ⟨e, he, hv, hw, fun j hj hwj => h.2 (j + 1) (by omega) ⟨e, he, hv, hwj⟩⟩
/-- These numbers are the hops. -/
structure IsH (m : Nat) (es : List E3) (s : Int) (xs : List Int) : Prop where
  len : xs.length = m
  some : ∀ v : Int, 0 ≤ v → v < (m : Int) → ∀ k : Nat, least es s k v → val xs v = k
  none : ∀ v : Int, 0 ≤ v → v < (m : Int) → (∀ k : Nat, ¬ way es s k v) → val xs v = -1
theorem IsH.cases {m : Nat} {es : List E3} {s : Int} {xs : List Int} (h : IsH m es s xs) {v : Int} (h0 : 0 ≤ v) (h1 : v < (m : Int)) : (∃ k : Nat, least es s k v ∧ val xs v = k) ∨ ((∀ k : Nat, ¬ way es s k v) ∧ val xs v = -1) := by
  by_cases hw : ∃ k, way es s k v
  · obtain ⟨k, hk⟩ := hw
    obtain ⟨j, _, hj⟩ := least_of_way k hk
    exact .inl ⟨j, hj, h.some v h0 h1 j hj⟩
  · have hn : ∀ k : Nat, ¬ way es s k v := fun k hk => hw ⟨k, hk⟩
    exact .inr ⟨hn, h.none v h0 h1 hn⟩
theorem ext_val {xs ys : List Int} (hl : xs.length = ys.length) (h : ∀ v : Int, 0 ≤ v → v < xs.length → val xs v = val ys v) : xs = ys := by
  refine List.ext_getElem hl (fun i h1 h2 => ?_)
  have := h i (by omega) (by omega)
  unfold val at this
  simpa [List.getD_eq_getElem?_getD, h1, h2] using this
theorem IsH.uniq {m : Nat} {es : List E3} {s : Int} {xs ys : List Int} (h : IsH m es s xs) (g : IsH m es s ys) : xs = ys := by
  refine ext_val (by rw [h.len, g.len]) (fun v h0 h1 => ?_)
  rw [h.len] at h1
  rcases h.cases h0 h1 with ⟨k, hk, hv⟩ | ⟨hn, hv⟩
  · rw [hv, g.some v h0 h1 k hk]
  · rw [hv, g.none v h0 h1 hn]
/-- Edges lead from vertices to vertices. -/
def Inside (m : Nat) (es : List E3) : Prop := ∀ e ∈ es, (0 ≤ e.1 ∧ e.1 < (m : Int)) ∧ (0 ≤ e.2.1 ∧ e.2.1 < (m : Int))
theorem way_inside {m : Nat} {es : List E3} {s : Int} (hI : Inside m es) (hs : 0 ≤ s ∧ s < (m : Int)) : ∀ {k : Nat} {v : Int}, way es s k v → 0 ≤ v ∧ v < (m : Int)
  | 0, v, h => by have : v = s := h; subst this; exact hs
  | k + 1, v, ⟨e, he, hv, _⟩ => hv ▸ (hI e he).2
theorem isH_iff {m : Nat} {es : List E3} {s : Int} {xs : List Int} (hI : Inside m es) (hs : 0 ≤ s ∧ s < (m : Int)) (hl : xs.length = m) : hopsI m es s xs = true ↔ IsH m es s xs := by
  unfold hopsI
  simp only [Bool.and_eq_true, List.all_eq_true]
  constructor
  · rintro ⟨⟨h1, h2⟩, h3⟩
    have c : ∀ v : Int, 0 ≤ v → v < (m : Int) → -1 ≤ val xs v ∧ (val xs v = 0 ↔ v = s) := fun v a b => by
      have := h1 v (mem_vset.2 ⟨a, b⟩)
      unfold c1 at this
      simp only [Bool.and_eq_true, decide_eq_true_eq, beq_iff_eq, decide_eq_decide] at this
      exact this
    have p : ∀ e ∈ es, val xs e.1 < 0 ∨ (0 ≤ val xs e.2.1 ∧ val xs e.2.1 - 1 ≤ val xs e.1) := fun e he => by
      have := h2 e he
      unfold kp at this
      simpa using this
    have f : ∀ v : Int, 0 ≤ v → v < (m : Int) → val xs v ≤ 0 ∨ ∃ e ∈ es, e.2.1 = v ∧ val xs e.1 = val xs v - 1 := fun v a b => by
      have := h3 v (mem_vset.2 ⟨a, b⟩)
      unfold fd lk at this
      simpa using this
    have A : ∀ (k : Nat) (v : Int), way es s k v → 0 ≤ val xs v ∧ val xs v ≤ k := by
      intro k
      induction k with
      | zero =>
        intro v h
        have hv : v = s := h
        subst hv
        have := (c v hs.1 hs.2).2.2 rfl
        omega
      | succ k ih =>
        rintro v ⟨e, he, rfl, hw⟩
        have := ih e.1 hw
        rcases p e he with h | ⟨h4, h5⟩
        · omega
        · omega
    have B : ∀ (k : Nat) (v : Int), 0 ≤ v → v < (m : Int) → val xs v = k → way es s k v := by
      intro k
      induction k with
      | zero => intro v a b h; exact (c v a b).2.1 (by simpa using h)
      | succ k ih =>
        intro v a b h
        rcases f v a b with h4 | ⟨e, he, hv, h5⟩
        · omega
        · have hi := hI e he
          exact ⟨e, he, hv, ih e.1 hi.1.1 hi.1.2 (by omega)⟩
    refine ⟨hl, fun v a b k hk => ?_, fun v a b hn => ?_⟩
    · obtain ⟨h4, h5⟩ := A k v hk.1
      obtain ⟨j, hj⟩ : ∃ j : Nat, val xs v = j := ⟨(val xs v).toNat, by omega⟩
      have hw := B j v a b hj
      rcases Nat.lt_or_ge j k with h6 | h6
      · exact absurd hw (hk.2 j h6)
      · omega
    · have h4 := (c v a b).1
      rcases Int.lt_or_le (val xs v) 0 with h5 | h5
      · omega
      · obtain ⟨j, hj⟩ : ∃ j : Nat, val xs v = j := ⟨(val xs v).toNat, by omega⟩
        exact absurd (B j v a b hj) (hn j)
  · intro h
    refine ⟨⟨fun v hv => ?_, fun e he => ?_⟩, fun v hv => ?_⟩
    · obtain ⟨a, b⟩ := mem_vset.1 hv
      unfold c1
      simp only [Bool.and_eq_true, decide_eq_true_eq, beq_iff_eq, decide_eq_decide]
      rcases h.cases a b with ⟨k, hk, e⟩ | ⟨hn, e⟩
      · refine ⟨by omega, fun h0 => ?_, fun h0 => ?_⟩
        · have : k = 0 := by omega
          subst this
          exact hk.1
        · subst h0
          rcases Nat.eq_zero_or_pos k with h1 | h1
          · rw [e, h1]; rfl
          · exact absurd rfl (hk.2 0 h1)
      · refine ⟨by omega, fun h0 => by omega, fun h0 => ?_⟩
        subst h0
        exact absurd rfl (hn 0)
    · obtain ⟨⟨a, b⟩, ⟨a', b'⟩⟩ := hI e he
      unfold kp
      simp only [Bool.or_eq_true, decide_eq_true_eq, Bool.and_eq_true]
      rcases h.cases a b with ⟨k, hk, e1⟩ | ⟨hn, e1⟩
      · right
        have hw : way es s (k + 1) e.2.1 := ⟨e, he, rfl, hk.1⟩
        obtain ⟨j, hj, hL⟩ := least_of_way _ hw
        rw [h.some _ a' b' j hL, e1]
        omega
      · left; omega
    · obtain ⟨a, b⟩ := mem_vset.1 hv
      unfold fd lk
      simp only [Bool.or_eq_true, decide_eq_true_eq, List.any_eq_true, Bool.and_eq_true]
      rcases h.cases a b with ⟨k, hk, e⟩ | ⟨hn, e⟩
      · cases k with
        | zero => left; omega
        | succ k =>
          right
          obtain ⟨d, hd, h1, h2⟩ := least_pred hk
          refine ⟨d, hd, h1, ?_⟩
          rw [h.some _ (hI d hd).1.1 (hI d hd).1.2 k h2, e]; omega
      · left; omega
/-! ## GHopS -/
def setv (xs : List Int) (v x : Int) : List Int := xs.set v.toNat x
theorem setv_len (xs : List Int) (v x : Int) : (setv xs v x).length = xs.length := by unfold setv; simp
theorem val_setv {xs : List Int} {v x u : Int} (h0 : 0 ≤ v) (h1 : v < xs.length) (g0 : 0 ≤ u) : val (setv xs v x) u = if u = v then x else val xs u := by
  unfold val setv
  by_cases h : u = v
  · subst h
    rw [if_pos rfl, List.getD_eq_getElem?_getD, List.getElem?_set_self (by omega)]; rfl
  · rw [if_neg h, List.getD_eq_getElem?_getD, List.getElem?_set_ne (by omega), ← List.getD_eq_getElem?_getD]
/-- A round of the reference at one edge; at all; the rounds. -/
def rnd (n : Int) (xs : List Int) (e : E3) : List Int := if val xs e.1 = n ∧ val xs e.2.1 < 0 then setv xs e.2.1 (n + 1) else xs
def rndS (n : Int) (es : List E3) (xs : List Int) : List Int := es.foldl (rnd n) xs
def hops0 (m : Nat) (s : Int) : List Int := setv (List.replicate m (-1)) s 0
def hopsN (m : Nat) (es : List E3) (s : Int) : Nat → List Int
  | 0 => hops0 m s
  | n + 1 => rndS n es (hopsN m es s n)
theorem rndS_snoc (n : Int) (es : List E3) (e : E3) (xs : List Int) : rndS n (es ++ [e]) xs = rnd n (rndS n es xs) e := by unfold rndS; rw [List.foldl_append]; rfl
theorem rnd_len (n : Int) (xs : List Int) (e : E3) : (rnd n xs e).length = xs.length := by unfold rnd; split <;> simp [setv_len]
theorem rndS_len (n : Int) (es : List E3) : ∀ xs : List Int, (rndS n es xs).length = xs.length := by
  unfold rndS
  induction es with
  | nil => intro xs; rfl
  | cons e es ih => intro xs; rw [List.foldl_cons, ih, rnd_len]
theorem hopsN_len (m : Nat) (es : List E3) (s : Int) : ∀ n, (hopsN m es s n).length = m
  | 0 => by simp [hopsN, hops0, setv_len]
  | n + 1 => by rw [hopsN, rndS_len, hopsN_len m es s n]
open Classical in
theorem val_rndS {m : Nat} {n : Int} (hn : 0 ≤ n) {xs : List Int} (hl : xs.length = m) : ∀ (pre : List E3), Inside m pre → ∀ v : Int, 0 ≤ v → v < (m : Int) →
    val (rndS n pre xs) v = if val xs v < 0 ∧ ∃ e ∈ pre, e.2.1 = v ∧ val xs e.1 = n then n + 1 else val xs v := by
  suffices hh : ∀ rp : List E3, Inside m rp.reverse → ∀ v : Int, 0 ≤ v → v < (m : Int) → val (rndS n rp.reverse xs) v = if val xs v < 0 ∧ ∃ e ∈ rp.reverse, e.2.1 = v ∧ val xs e.1 = n then n + 1 else val xs v by
    intro pre hI v h0 h1
    have := hh pre.reverse (by rw [List.reverse_reverse]; exact hI) v h0 h1
    rwa [List.reverse_reverse] at this
  intro rp
  induction rp with
  | nil => intro _ v _ _; simp [rndS]
  | cons e rp ih =>
    rw [List.reverse_cons]
    generalize rp.reverse = pre at *
    intro hI v h0 h1
    have hI' : Inside m pre := fun d hd => hI d (List.mem_append_left _ hd)
    have he := hI e (by simp)
    have ih := ih hI'
    have l1 : (rndS n pre xs).length = m := by rw [rndS_len, hl]
    have i1 := ih e.1 he.1.1 he.1.2
    have i2 := ih e.2.1 he.2.1 he.2.2
    have iv := ih v h0 h1
    have a1 : (val (rndS n pre xs) e.1 = n) ↔ (val xs e.1 = n) := by
      rw [i1]
      split
      · rename_i h; constructor <;> intro h' <;> omega
      · exact Iff.rfl
    have a2 : (val (rndS n pre xs) e.2.1 < 0) ↔ (val xs e.2.1 < 0 ∧ ¬ ∃ d ∈ pre, d.2.1 = e.2.1 ∧ val xs d.1 = n) := by
      rw [i2]
      split
      · rename_i h; exact ⟨fun h' => by omega, fun h' => absurd h.2 h'.2⟩
      · rename_i h; exact ⟨fun h' => ⟨h', fun h2 => h ⟨h', h2⟩⟩, fun h' => h'.1⟩
    rw [rndS_snoc]
    unfold rnd
    by_cases hc : val (rndS n pre xs) e.1 = n ∧ val (rndS n pre xs) e.2.1 < 0
    · rw [if_pos hc, val_setv he.2.1 (by rw [l1]; exact he.2.2) h0]
      by_cases hv : v = e.2.1
      · subst hv
        rw [if_pos rfl, if_pos ⟨(a2.1 hc.2).1, e, by simp, rfl, a1.1 hc.1⟩]
      · rw [if_neg hv, iv]
        have : (∃ d ∈ pre ++ [e], d.2.1 = v ∧ val xs d.1 = n) ↔ (∃ d ∈ pre, d.2.1 = v ∧ val xs d.1 = n) := by
          constructor
          · rintro ⟨d, hd, h3⟩
            rcases List.mem_append.1 hd with h4 | h4
            · exact ⟨d, h4, h3⟩
            · obtain rfl : d = e := by simpa using h4
              exact absurd h3.1.symm hv
          · rintro ⟨d, hd, h3⟩; exact ⟨d, List.mem_append_left _ hd, h3⟩
        simp only [this]
    · rw [if_neg hc, iv]
      by_cases hneg : val xs v < 0
      · by_cases hx : ∃ d ∈ pre, d.2.1 = v ∧ val xs d.1 = n
        · obtain ⟨d, hd, h3⟩ := hx
          rw [if_pos ⟨hneg, d, hd, h3⟩, if_pos ⟨hneg, d, List.mem_append_left _ hd, h3⟩]
        · rw [if_neg (fun h => hx h.2), if_neg]
          rintro ⟨_, d, hd, h3⟩
          rcases List.mem_append.1 hd with h4 | h4
          · exact hx ⟨d, h4, h3⟩
          · obtain rfl : d = e := by simpa using h4
            obtain ⟨h5, h6⟩ := h3
            subst h5
            exact hc ⟨a1.2 h6, a2.2 ⟨hneg, hx⟩⟩
      · rw [if_neg (fun h => hneg h.1), if_neg (fun h => hneg h.1)]
/-- Right up to n. -/
def Lv (m : Nat) (es : List E3) (s : Int) (n : Nat) (xs : List Int) : Prop := xs.length = m ∧ ∀ v : Int, 0 ≤ v → v < (m : Int) → (∀ k : Nat, k ≤ n → least es s k v → val xs v = k) ∧ ((∀ k : Nat, k ≤ n → ¬ way es s k v) → val xs v = -1)
theorem Lv.cases {m n : Nat} {es : List E3} {s : Int} {xs : List Int} (h : Lv m es s n xs) {v : Int} (h0 : 0 ≤ v) (h1 : v < (m : Int)) : (∃ k : Nat, k ≤ n ∧ least es s k v ∧ val xs v = k) ∨ ((∀ k : Nat, k ≤ n → ¬ way es s k v) ∧ val xs v = -1) := by
  by_cases hw : ∃ k, k ≤ n ∧ way es s k v
  · obtain ⟨k, hk, hw⟩ := hw
    obtain ⟨j, hj, hL⟩ := least_of_way k hw
    exact .inl ⟨j, by omega, hL, (h.2 v h0 h1).1 j (by omega) hL⟩
  · have hn : ∀ k : Nat, k ≤ n → ¬ way es s k v := fun k hk h => hw ⟨k, hk, h⟩
    exact .inr ⟨hn, (h.2 v h0 h1).2 hn⟩
theorem lv0 {m : Nat} {es : List E3} {s : Int} (hs : 0 ≤ s ∧ s < (m : Int)) : Lv m es s 0 (hops0 m s) := by
  refine ⟨by simp [hops0, setv_len], fun v h0 h1 => ?_⟩
  have hv : val (hops0 m s) v = if v = s then 0 else -1 := by
    unfold hops0
    rw [val_setv hs.1 (by simpa using hs.2) h0]
    split
    · rfl
    · unfold val
      rw [List.getD_eq_getElem?_getD, List.getElem?_replicate, if_pos (by omega)]; rfl
  refine ⟨fun k hk hL => ?_, fun hn => ?_⟩
  · obtain rfl : k = 0 := by omega
    have : v = s := hL.1
    rw [hv, if_pos this]; rfl
  · rw [hv, if_neg]
    intro h
    exact hn 0 (Nat.le_refl _) h
theorem lv_step {m n : Nat} {es : List E3} {s : Int} {xs : List Int} (hI : Inside m es) (h : Lv m es s n xs) : Lv m es s (n + 1) (rndS n es xs) := by
  refine ⟨by rw [rndS_len]; exact h.1, fun v h0 h1 => ?_⟩
  have hv := val_rndS (n := n) (by omega) h.1 es hI v h0 h1
  have hpred : (∃ e ∈ es, e.2.1 = v ∧ val xs e.1 = n) → way es s (n + 1) v := by
    rintro ⟨e, he, hve, hval⟩
    have hi := (hI e he).1
    rcases h.cases hi.1 hi.2 with ⟨k, hk, hL, e1⟩ | ⟨_, e1⟩
    · obtain rfl : k = n := by omega
      exact ⟨e, he, hve, hL.1⟩
    · omega
  rcases h.cases h0 h1 with ⟨k, hk, hL, e1⟩ | ⟨hn, e1⟩
  · rw [if_neg (by omega)] at hv
    rw [hv]
    refine ⟨fun j hj hj' => ?_, fun hno => absurd hL.1 (hno k (by omega))⟩
    rw [least_uniq hj' hL]; exact e1
  · refine ⟨fun j hj hj' => ?_, fun hno => ?_⟩
    · obtain rfl : j = n + 1 := by
        rcases Nat.lt_or_ge n j with h2 | h2
        · omega
        · exact absurd hj'.1 (hn j h2)
      obtain ⟨e, he, hve, hLe⟩ := least_pred hj'
      have hi := (hI e he).1
      have := (h.2 e.1 hi.1 hi.2).1 n (Nat.le_refl _) hLe
      rw [hv, if_pos ⟨by omega, e, he, hve, this⟩]; omega
    · rw [hv, if_neg (fun hc => hno (n + 1) (Nat.le_refl _) (hpred hc.2))]; exact e1
theorem lv_all {m : Nat} {es : List E3} {s : Int} (hI : Inside m es) (hs : 0 ≤ s ∧ s < (m : Int)) : ∀ n, Lv m es s n (hopsN m es s n)
  | 0 => lv0 hs
  | n + 1 => lv_step hI (lv_all hI hs n)
/-- **The reference's rounds give the hops.** -/
theorem hopsN_isH {m : Nat} {es : List E3} {s : Int} (hI : Inside m es) (hs : 0 ≤ s ∧ s < (m : Int)) : IsH m es s (hopsN m es s m) := by
  have h := lv_all hI hs m
  generalize hopsN m es s m = xs at *
  have short : ∀ (k : Nat) (v : Int), least es s k v → k < m := by
    intro k v hL
    -- every lesser number is the least one of some vertex
    have down : ∀ (i : Nat), i ≤ k → ∃ u, least es s (k - i) u := by
      intro i
      induction i with
      | zero => intro _; exact ⟨v, hL⟩
      | succ i ih =>
        intro hi
        obtain ⟨u, hu⟩ := ih (by omega)
        rw [show k - i = (k - (i + 1)) + 1 by omega] at hu
        obtain ⟨e, _, _, he⟩ := least_pred hu
        exact ⟨e.1, he⟩
    rcases Nat.lt_or_ge k m with h1 | h1
    · exact h1
    · exfalso
      have := count_up m xs (fun j hj => by
        obtain ⟨u, hu⟩ := down (k - j) (by omega)
        rw [show k - (k - j) = j by omega] at hu
        have hin := way_inside hI hs hu.1
        have hval := (h.2 u hin.1 hin.2).1 j hj hu
        rw [← hval]
        unfold val
        rw [List.getD_eq_getElem?_getD, List.getElem?_eq_getElem (show u.toNat < xs.length by rw [h.1]; omega)]
        exact List.getElem_mem _)
      rw [h.1] at this
      omega
  refine ⟨h.1, fun v h0 h1 k hL => (h.2 v h0 h1).1 k (Nat.le_of_lt (short k v hL)) hL, fun v h0 h1 hn => (h.2 v h0 h1).2 (fun k _ => hn k)⟩
end Go.Proofs.YthjnidcmhegoeaaDoor
