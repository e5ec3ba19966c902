/- Parents on least ways, as plain data. No statement of the seat is proved here. -/
import Derived.Test.YthjnidcmhegoeaaDoorGDij
set_option linter.unusedSimpArgs false
set_option linter.unusedVariables false
namespace Go.Proofs.YthjnidcmhegoeaaDoor
/-! ## Parents -/
/-- An edge on a way with the least cost. -/
def tig (cs : List Int) (e : E3) : Bool := decide (0 ≤ val cs e.1) && decide (val cs e.1 + e.2.2 = val cs e.2.1)
def tes (cs : List Int) (es : List E3) : List E3 := es.filter (tig cs)
structure IsPar (m : Nat) (ts : List E3) (st out : List Int) : Prop where
  len : out.length = m
  none : ∀ v : Int, 0 ≤ v → v < (m : Int) → val st v ≤ 0 → val out v = -1
  some : ∀ v : Int, 0 ≤ v → v < (m : Int) → 1 ≤ val st v → (∃ e ∈ ts, e.2.1 = v ∧ e.1 = val out v ∧ val st e.1 = val st v - 1) ∧ ∀ e ∈ ts, e.2.1 = v → val st e.1 = val st v - 1 → val out v ≤ e.1
theorem IsPar.uniq {m : Nat} {ts : List E3} {st xs ys : List Int} (h : IsPar m ts st xs) (g : IsPar m ts st ys) : xs = ys := by
  refine ext_val (by rw [h.len, g.len]) (fun v h0 h1 => ?_)
  rw [h.len] at h1
  rcases Int.lt_or_le 0 (val st v) with a | a
  · obtain ⟨⟨e, he, e1, e2, e3⟩, f⟩ := h.some v h0 h1 (by omega)
    obtain ⟨⟨e', he', e1', e2', e3'⟩, f'⟩ := g.some v h0 h1 (by omega)
    have := f e' he' e1' e3'
    have := f' e he e1 e3
    omega
  · rw [h.none v h0 h1 a, g.none v h0 h1 a]
/-! ## Parents of the reference -/
def stepP (cs : List Int) (n : Int) (x : List Int × List Int) (e : E3) : List Int × List Int :=
  if val x.1 e.1 = n ∧ val cs e.1 + e.2.2 = val cs e.2.1 ∧ (val x.1 e.2.1 < 0 ∨ val x.1 e.2.1 = n + 1 ∧ e.1 < val x.2 e.2.1) then (setv x.1 e.2.1 (n + 1), setv x.2 e.2.1 e.1) else x
def stepPS (cs : List Int) (n : Int) (es : List E3) (x : List Int × List Int) : List Int × List Int := es.foldl (stepP cs n) x
def parS (cs : List Int) (m : Nat) (es : List E3) (s : Int) : Nat → List Int × List Int
  | 0 => (hops0 m s, List.replicate m (-1))
  | n + 1 => stepPS cs n es (parS cs m es s n)
theorem stepPS_snoc (cs : List Int) (n : Int) (es : List E3) (e : E3) (x : List Int × List Int) : stepPS cs n (es ++ [e]) x = stepP cs n (stepPS cs n es x) e := by unfold stepPS; rw [List.foldl_append]; rfl
theorem setv_same {xs : List Int} {v x : Int} (h1 : v.toNat < xs.length) (h : val xs v = x) : setv xs v x = xs := by
  unfold setv
  rw [← h]
  unfold val
  rw [List.getD_eq_getElem?_getD, List.getElem?_eq_getElem h1]
  exact List.set_getElem_self h1
/-- What holds in a round of the reference, behind the edges of 'pre'. -/
structure Pr (cs : List Int) (m : Nat) (es : List E3) (n : Nat) (pre : List E3) (st out : List Int) : Prop where
  l1 : st.length = m
  l2 : out.length = m
  cst : ∀ v : Int, 0 ≤ v → v < (m : Int) → 0 ≤ val st v → 0 ≤ val cs v
  rng : ∀ v : Int, 0 ≤ v → v < (m : Int) → val st v = -1 ∨ (0 ≤ val st v ∧ val st v ≤ (n : Int) + 1)
  none : ∀ v : Int, 0 ≤ v → v < (m : Int) → val st v ≤ 0 → val out v = -1
  met : ∀ d ∈ tes cs es, d ∈ pre → val st d.1 = n → 0 ≤ val st d.2.1
  some : ∀ v : Int, 0 ≤ v → v < (m : Int) → 1 ≤ val st v → (∃ e ∈ tes cs es, e.2.1 = v ∧ e.1 = val out v ∧ val st e.1 = val st v - 1) ∧ ∀ e ∈ tes cs es, (val st v = (n : Int) + 1 → e ∈ pre) → e.2.1 = v → val st e.1 = val st v - 1 → val out v ≤ e.1
theorem mem_tes {cs : List Int} {es : List E3} {e : E3} : e ∈ tes cs es ↔ e ∈ es ∧ 0 ≤ val cs e.1 ∧ val cs e.1 + e.2.2 = val cs e.2.1 := by unfold tes tig; simp
theorem Pr.step {cs : List Int} {m n : Nat} {es pre : List E3} {st out : List Int} (hI : Inside m es) (hw : ∀ e ∈ es, 0 ≤ e.2.2) (h : Pr cs m es n pre st out) {e : E3} (he : e ∈ es) :
    Pr cs m es n (pre ++ [e]) (stepP cs n (st, out) e).1 (stepP cs n (st, out) e).2 ∧ (stepP cs n (st, out) e).1 = (if tig cs e = true then rnd n st e else st) := by
  have hE := hI e he
  have hl1 := h.l1
  have hl2 := h.l2
  have htn : e.2.1.toNat < st.length := by omega
  by_cases hc : val st e.1 = n ∧ val cs e.1 + e.2.2 = val cs e.2.1 ∧ (val st e.2.1 < 0 ∨ val st e.2.1 = n + 1 ∧ e.1 < val out e.2.1)
  · have hst : stepP cs n (st, out) e = (setv st e.2.1 (n + 1), setv out e.2.1 e.1) := if_pos hc
    rw [hst]
    dsimp only
    have hc1 := h.cst e.1 hE.1.1 hE.1.2 (by omega)
    have htig : tig cs e = true := by unfold tig; simp; omega
    have hmt : e ∈ tes cs es := mem_tes.2 ⟨he, hc1, hc.2.1⟩
    have v1 : ∀ w : Int, 0 ≤ w → val (setv st e.2.1 (n + 1)) w = if w = e.2.1 then (n : Int) + 1 else val st w := fun w hw => val_setv hE.2.1 (by omega) hw
    have v2 : ∀ w : Int, 0 ≤ w → val (setv out e.2.1 e.1) w = if w = e.2.1 then e.1 else val out w := fun w hw => val_setv hE.2.1 (by omega) hw
    have hne : e.1 ≠ e.2.1 := fun c => by rw [← c] at hc; omega
    -- no vertex with the number n turns
    have vk : ∀ w : Int, 0 ≤ w → w < (m : Int) → ∀ k : Int, k ≤ n → 0 ≤ k → (val (setv st e.2.1 (n + 1)) w = k ↔ val st w = k) := fun w h0 h1 k hk hk0 => by
      rw [v1 w h0]
      by_cases hw : w = e.2.1
      · rw [if_pos hw, hw]; constructor <;> intro <;> omega
      · rw [if_neg hw]
    refine ⟨⟨by rw [setv_len]; exact hl1, by rw [setv_len]; exact hl2, fun v h0 h1 h2 => ?_, fun v h0 h1 => ?_, fun v h0 h1 h2 => ?_, fun d hd hp hds => ?_, fun v h0 h1 h2 => ?_⟩, ?_⟩
    · rw [v1 v h0] at h2
      by_cases hv : v = e.2.1
      · have := hw e he
        rw [hv]; omega
      · rw [if_neg hv] at h2; exact h.cst v h0 h1 h2
    · rw [v1 v h0]
      by_cases hv : v = e.2.1
      · rw [if_pos hv]; omega
      · rw [if_neg hv]; exact h.rng v h0 h1
    · rw [v1 v h0] at h2
      rw [v2 v h0]
      by_cases hv : v = e.2.1
      · rw [if_pos hv] at h2; omega
      · rw [if_neg hv] at h2 ⊢; exact h.none v h0 h1 h2
    · have hDi := hI d (mem_tes.1 hd).1
      rw [vk d.1 hDi.1.1 hDi.1.2 _ (by omega) (by omega)] at hds
      rw [v1 _ hDi.2.1]
      by_cases hv : d.2.1 = e.2.1
      · rw [if_pos hv]; omega
      · rw [if_neg hv]
        rcases List.mem_append.1 hp with hh | hh
        · exact h.met d hd hh hds
        · obtain rfl : d = e := by simpa using hh
          exact absurd rfl hv
    · by_cases hv : v = e.2.1
      · have hsv : val (setv st e.2.1 (n + 1)) v = (n : Int) + 1 := by rw [v1 v h0, if_pos hv]
        rw [hsv, v2 v h0, if_pos hv]
        refine ⟨⟨e, hmt, hv.symm, rfl, by rw [(vk e.1 hE.1.1 hE.1.2 _ (by omega) (by omega))]; omega⟩, fun d hd hp hdv hds => ?_⟩
        have hd' := mem_tes.1 hd
        have hDi := hI d hd'.1
        rw [vk d.1 hDi.1.1 hDi.1.2 _ (by omega) (by omega)] at hds
        rcases List.mem_append.1 (hp rfl) with hdp | hdp
        · rcases hc.2.2 with a | ⟨a, b⟩
          · -- the vertex had no number yet: no edge of 'pre' led to it
            have := h.met d hd hdp (by omega)
            rw [hdv, hv] at this
            omega
          · have h3 := (h.some v h0 h1 (by rw [hv]; omega)).2 d hd (fun _ => hdp) hdv (by rw [hds, hv]; omega)
            rw [hv] at h3
            omega
        · obtain rfl : d = e := by simpa using hdp
          omega
      · have hsv : val (setv st e.2.1 (n + 1)) v = val st v := by rw [v1 v h0, if_neg hv]
        rw [hsv] at h2 ⊢
        rw [v2 v h0, if_neg hv]
        have hr := h.rng v h0 h1
        obtain ⟨⟨d, hd, d1, d2, d3⟩, hmin⟩ := h.some v h0 h1 h2
        have hDi := hI d (mem_tes.1 hd).1
        refine ⟨⟨d, hd, d1, d2, by rw [vk d.1 hDi.1.1 hDi.1.2 _ (by omega) (by omega)]; exact d3⟩, fun c hcm hp hcv hcs => ?_⟩
        have hCi := hI c (mem_tes.1 hcm).1
        rw [vk c.1 hCi.1.1 hCi.1.2 _ (by omega) (by omega)] at hcs
        refine hmin c hcm (fun hk => ?_) hcv hcs
        rcases List.mem_append.1 (hp hk) with hh | hh
        · exact hh
        · obtain rfl : c = e := by simpa using hh
          exact absurd hcv.symm hv
    · rw [if_pos htig]
      unfold rnd
      by_cases hneg : val st e.2.1 < 0
      · rw [if_pos ⟨hc.1, hneg⟩]
      · rw [if_neg (fun c => hneg c.2)]
        exact setv_same htn (by omega)
  · have hst : stepP cs n (st, out) e = (st, out) := if_neg hc
    rw [hst]
    dsimp only
    refine ⟨⟨hl1, hl2, h.cst, h.rng, h.none, fun d hd hp hds => ?_, fun v h0 h1 h2 => ?_⟩, ?_⟩
    · rcases List.mem_append.1 hp with hh | hh
      · exact h.met d hd hh hds
      · obtain rfl : d = e := by simpa using hh
        have := (mem_tes.1 hd).2.2
        rcases Int.lt_or_le (val st d.2.1) 0 with a | a
        · exact absurd ⟨hds, this, .inl a⟩ hc
        · exact a
    · obtain ⟨hx, hmin⟩ := h.some v h0 h1 h2
      refine ⟨hx, fun c hcm hp hcv hcs => ?_⟩
      by_cases hce : val st v = (n : Int) + 1 ∧ c = e
      · obtain ⟨hk, rfl⟩ := hce
        have := (mem_tes.1 hcm).2.2
        rcases Int.lt_or_le c.1 (val out v) with a | a
        · refine absurd ⟨by omega, this, .inr ⟨by rw [hcv]; exact hk, by rw [hcv]; exact a⟩⟩ hc
        · exact a
      · refine hmin c hcm (fun hk => ?_) hcv hcs
        rcases List.mem_append.1 (hp hk) with hh | hh
        · exact hh
        · obtain rfl : c = e := by simpa using hh
          exact absurd ⟨hk, rfl⟩ hce
    · by_cases ht : tig cs e = true
      · rw [if_pos ht]
        unfold rnd
        unfold tig at ht
        simp at ht
        rw [if_neg (fun c => hc ⟨c.1, ht.2, .inl c.2⟩)]
      · rw [if_neg ht]
theorem Pr.steps {cs : List Int} {m n : Nat} {es : List E3} (hI : Inside m es) (hw : ∀ e ∈ es, 0 ≤ e.2.2) : ∀ (fs pre : List E3) (st out : List Int), (∀ e ∈ fs, e ∈ es) → Pr cs m es n pre st out →
    Pr cs m es n (pre ++ fs) (stepPS cs n fs (st, out)).1 (stepPS cs n fs (st, out)).2 ∧ (stepPS cs n fs (st, out)).1 = rndS n (tes cs fs) st
  | [], pre, st, out, _, h => ⟨by simpa [stepPS] using h, rfl⟩
  | e :: fs, pre, st, out, hf, h => by
    obtain ⟨h1, h2⟩ := h.step hI hw (hf e List.mem_cons_self)
    have h3 := Pr.steps hI hw fs (pre ++ [e]) _ _ (fun e he => hf e (List.mem_cons_of_mem _ he)) h1
    have hs : stepPS cs n (e :: fs) (st, out) = stepPS cs n fs ((stepP cs n (st, out) e).1, (stepP cs n (st, out) e).2) := by unfold stepPS; rw [List.foldl_cons]
    rw [hs]
    refine ⟨by simpa using h3.1, ?_⟩
    rw [h3.2, h2]
    unfold tes rndS
    rw [List.filter_cons]
    split <;> rfl
theorem parS_ok {cs : List Int} {m : Nat} {es : List E3} {s : Int} (hI : Inside m es) (hw : ∀ e ∈ es, 0 ≤ e.2.2) (hs : 0 ≤ s ∧ s < (m : Int)) (hcs : 0 ≤ val cs s) : ∀ n : Nat, Pr cs m es n [] (parS cs m es s n).1 (parS cs m es s n).2 ∧ (parS cs m es s n).1 = hopsN m (tes cs es) s n
  | 0 => by
    have hrep : ∀ v : Int, 0 ≤ v → v < (m : Int) → val (List.replicate m (-1)) v = -1 := fun v h0 h1 => by
      unfold val
      rw [List.getD_eq_getElem?_getD, List.getElem?_replicate, if_pos (by omega)]; rfl
    refine ⟨⟨by simp [parS, hops0, setv_len], by simp [parS], fun v h0 h1 h2 => ?_, fun v h0 h1 => ?_, fun v h0 h1 h2 => hrep v h0 h1, (fun d _ hp => by cases hp), fun v h0 h1 h2 => ?_⟩, rfl⟩
    · rw [parS, hops0_val hs v h0 h1] at h2
      by_cases hv : v = s
      · rw [hv]; exact hcs
      · rw [if_neg hv] at h2; omega
    · rw [parS, hops0_val hs v h0 h1]
      by_cases hv : v = s
      · rw [if_pos hv]; omega
      · rw [if_neg hv]; exact .inl rfl
    · rw [parS, hops0_val hs v h0 h1] at h2
      by_cases hv : v = s
      · rw [if_pos hv] at h2; omega
      · rw [if_neg hv] at h2; omega
  | n + 1 => by
    obtain ⟨h1, h2⟩ := parS_ok hI hw hs hcs n
    obtain ⟨h3, h4⟩ := Pr.steps hI hw es [] _ _ (fun _ h => h) h1
    rw [List.nil_append] at h3
    refine ⟨?_, ?_⟩
    · rw [parS]
      refine ⟨h3.l1, h3.l2, h3.cst, fun v h0 h1 => ?_, h3.none, (fun d _ hp => by cases hp), fun v h0 h1 hv => ?_⟩
      · rcases h3.rng v h0 h1 with a | a
        · exact .inl a
        · exact .inr ⟨a.1, Int.le_trans a.2 (by omega)⟩
      · obtain ⟨hx, hmin⟩ := h3.some v h0 h1 hv
        exact ⟨hx, fun e he _ => hmin e he (fun _ => (mem_tes.1 he).1)⟩
    · rw [parS, hopsN, h4, h2]
/-- The parents of the reference. -/
theorem parS_isPar {cs : List Int} {m : Nat} {es : List E3} {s : Int} (hI : Inside m es) (hw : ∀ e ∈ es, 0 ≤ e.2.2) (hs : 0 ≤ s ∧ s < (m : Int)) (hcs : 0 ≤ val cs s) : IsPar m (tes cs es) (hopsN m (tes cs es) s m) (parS cs m es s m).2 ∧ (parS cs m es s m).1 = hopsN m (tes cs es) s m := by
  cases m with
  | zero => omega
  | succ n =>
    obtain ⟨h1, h2⟩ := parS_ok (n := n + 1) hI hw hs hcs
    rw [← h2]
    refine ⟨⟨h1.l2, h1.none, fun v h0 h3 hv => ?_⟩, rfl⟩
    obtain ⟨h4, h5⟩ := Pr.steps (n := n) hI hw es [] _ _ (fun _ h => h) (parS_ok hI hw hs hcs n).1
    obtain ⟨hx, hmin⟩ := h4.some v h0 h3 hv
    exact ⟨hx, fun e he => hmin e he (fun _ => by rw [List.nil_append]; exact (mem_tes.1 he).1)⟩
/-! ## Parents of the program -/
def inP (st : List Int) (v : Int) (L : List Int) (out : List Int) : List Int := L.foldl (fun out w => if val st w = val st v + 1 then setv out w v else out) out
theorem inP_snoc (st : List Int) (v : Int) (L : List Int) (w : Int) (out : List Int) : inP st v (L ++ [w]) out = if val st w = val st v + 1 then setv (inP st v L out) w v else inP st v L out := by unfold inP; rw [List.foldl_append]; rfl
theorem inP_len (st : List Int) (v : Int) : ∀ (L : List Int) (out : List Int), (inP st v L out).length = out.length
  | [], _ => rfl
  | w :: L, out => by
    unfold inP
    rw [List.foldl_cons]
    refine (inP_len st v L _).trans ?_
    split <;> simp [setv_len]
theorem inP_val {m : Nat} (st : List Int) (v : Int) : ∀ (L : List Int) (out : List Int), out.length = m → (∀ u ∈ L, 0 ≤ u ∧ u < (m : Int)) → ∀ w : Int, 0 ≤ w → val (inP st v L out) w = if w ∈ L ∧ val st w = val st v + 1 then v else val out w
  | [], out, _, _, w, _ => by simp [inP]
  | u :: L, out, hl, hL, w, h0 => by
    have hu := hL u List.mem_cons_self
    have hL' : ∀ u ∈ L, 0 ≤ u ∧ u < (m : Int) := fun u hu => hL u (List.mem_cons_of_mem _ hu)
    have hs : inP st v (u :: L) out = inP st v L (if val st u = val st v + 1 then setv out u v else out) := by unfold inP; rw [List.foldl_cons]
    rw [hs, inP_val st v L _ (by split <;> simp [setv_len, hl]) hL' w h0]
    by_cases hw : w ∈ L ∧ val st w = val st v + 1
    · rw [if_pos hw, if_pos ⟨List.mem_cons_of_mem _ hw.1, hw.2⟩]
    · rw [if_neg hw]
      by_cases hu1 : val st u = val st v + 1
      · rw [if_pos hu1, val_setv hu.1 (by omega) h0]
        by_cases hwu : w = u
        · subst hwu
          rw [if_pos rfl, if_pos ⟨List.mem_cons_self, hu1⟩]
        · rw [if_neg hwu, if_neg]
          rintro ⟨a, b⟩
          rcases List.mem_cons.1 a with c | c
          · exact hwu c
          · exact hw ⟨c, b⟩
      · rw [if_neg hu1, if_neg]
        rintro ⟨a, b⟩
        rcases List.mem_cons.1 a with c | c
        · rw [c] at b; exact hu1 b
        · exact hw ⟨c, b⟩
def parI (m : Nat) (nb : Int → List Int) (st : List Int) : Nat → List Int
  | 0 => List.replicate m (-1)
  | k + 1 => if val st ((m : Int) - 1 - k) = -1 then parI m nb st k else inP st ((m : Int) - 1 - k) (nb ((m : Int) - 1 - k)) (parI m nb st k)
theorem parI_len (m : Nat) (nb : Int → List Int) (st : List Int) : ∀ k, (parI m nb st k).length = m
  | 0 => by simp [parI]
  | k + 1 => by
    rw [parI]
    split
    · exact parI_len m nb st k
    · rw [inP_len]; exact parI_len m nb st k
theorem parI_ok {m : Nat} {ts : List E3} {nb : Int → List Int} {st : List Int} (hI : Inside m ts) (hnb : ∀ v : Int, 0 ≤ v → v < (m : Int) → ∀ u : Int, u ∈ nb v ↔ ∃ e ∈ ts, e.1 = v ∧ e.2.1 = u) (hst : ∀ v : Int, 0 ≤ v → v < (m : Int) → val st v = -1 ∨ 0 ≤ val st v) :
    ∀ k : Nat, k ≤ m → ∀ v : Int, 0 ≤ v → v < (m : Int) → (val (parI m nb st k) v = -1 ∧ ∀ e ∈ ts, e.2.1 = v → 0 ≤ val st e.1 → val st v = val st e.1 + 1 → e.1 < (m : Int) - k) ∨
      ((∃ e ∈ ts, e.2.1 = v ∧ 0 ≤ val st e.1 ∧ val st v = val st e.1 + 1 ∧ (m : Int) - k ≤ e.1 ∧ e.1 = val (parI m nb st k) v) ∧ ∀ e ∈ ts, e.2.1 = v → 0 ≤ val st e.1 → val st v = val st e.1 + 1 → (m : Int) - k ≤ e.1 → val (parI m nb st k) v ≤ e.1) := by
  intro k
  induction k with
  | zero =>
    intro _ v h0 h1
    left
    refine ⟨?_, fun e he _ _ _ => by have := (hI e he).1; omega⟩
    unfold parI val
    rw [List.getD_eq_getElem?_getD, List.getElem?_replicate, if_pos (by omega)]; rfl
  | succ k ih =>
    intro hk v h0 h1
    have ih := ih (by omega) v h0 h1
    obtain ⟨u, hu⟩ : ∃ u : Int, u = (m : Int) - 1 - k := ⟨_, rfl⟩
    have hu0 : 0 ≤ u ∧ u < (m : Int) := by omega
    rw [parI, ← hu]
    by_cases hs : val st u = -1
    · rw [if_pos hs]
      rcases ih with ⟨a, b⟩ | ⟨⟨e, he, e1, e2, e3, e4, e5⟩, b⟩
      · left
        refine ⟨a, fun e he e1 e2 e3 => ?_⟩
        have := b e he e1 e2 e3
        have : e.1 ≠ u := fun c => by rw [c] at e2; omega
        omega
      · right
        refine ⟨⟨e, he, e1, e2, e3, by omega, e5⟩, fun d hd d1 d2 d3 d4 => ?_⟩
        have : d.1 ≠ u := fun c => by rw [c] at d2; omega
        exact b d hd d1 d2 d3 (by omega)
    · rw [if_neg hs]
      have hsu : 0 ≤ val st u := by rcases hst u hu0.1 hu0.2 with a | a <;> omega
      have hin := inP_val (m := m) st u (nb u) (parI m nb st k) (parI_len _ _ _ _) (fun w hw => by
        obtain ⟨e, he, _, rfl⟩ := (hnb u hu0.1 hu0.2 w).1 hw
        exact (hI e he).2) v h0
      by_cases hv : v ∈ nb u ∧ val st v = val st u + 1
      · rw [if_pos hv] at hin
        obtain ⟨e, he, e1, e2⟩ := (hnb u hu0.1 hu0.2 v).1 hv.1
        right
        rw [hin]
        refine ⟨⟨e, he, e2, by rw [e1]; exact hsu, by rw [e1]; exact hv.2, by omega, e1⟩, fun d hd d1 d2 d3 d4 => by omega⟩
      · rw [if_neg hv] at hin
        rw [hin]
        have hno : ∀ e ∈ ts, e.2.1 = v → val st v = val st e.1 + 1 → e.1 ≠ u := fun e he e1 e2 c => hv ⟨(hnb u hu0.1 hu0.2 v).2 ⟨e, he, c, e1⟩, by rw [← c]; exact e2⟩
        rcases ih with ⟨a, b⟩ | ⟨⟨e, he, e1, e2, e3, e4, e5⟩, b⟩
        · left
          refine ⟨a, fun e he e1 e2 e3 => ?_⟩
          have := b e he e1 e2 e3
          have := hno e he e1 e3
          omega
        · right
          refine ⟨⟨e, he, e1, e2, e3, by omega, e5⟩, fun d hd d1 d2 d3 d4 => ?_⟩
          have := hno d hd d1 d3
          exact b d hd d1 d2 d3 (by omega)
theorem parI_isPar {m : Nat} {ts : List E3} {nb : Int → List Int} {s : Int} {st : List Int} (hI : Inside m ts) (hs : 0 ≤ s ∧ s < (m : Int)) (hnb : ∀ v : Int, 0 ≤ v → v < (m : Int) → ∀ u : Int, u ∈ nb v ↔ ∃ e ∈ ts, e.1 = v ∧ e.2.1 = u) (hH : IsH m ts s st) : IsPar m ts st (parI m nb st m) := by
  have hst : ∀ v : Int, 0 ≤ v → v < (m : Int) → val st v = -1 ∨ 0 ≤ val st v := fun v h0 h1 => by
    rcases hH.cases h0 h1 with ⟨k, _, h⟩ | ⟨_, h⟩
    · right; omega
    · exact .inl h
  refine ⟨parI_len _ _ _ _, fun v h0 h1 h2 => ?_, fun v h0 h1 h2 => ?_⟩
  · rcases parI_ok hI hnb hst m (Nat.le_refl _) v h0 h1 with ⟨a, b⟩ | ⟨⟨e, he, e1, e2, e3, e4, e5⟩, b⟩
    · exact a
    · omega
  · have hex : ∃ e ∈ ts, e.2.1 = v ∧ 0 ≤ val st e.1 ∧ val st v = val st e.1 + 1 := by
      rcases hH.cases h0 h1 with ⟨k, hL, h⟩ | ⟨_, h⟩
      · cases k with
        | zero => omega
        | succ k =>
          obtain ⟨e, he, e1, e2⟩ := least_pred hL
          have := hH.some e.1 (hI e he).1.1 (hI e he).1.2 k e2
          exact ⟨e, he, e1, by omega, by omega⟩
      · omega
    rcases parI_ok hI hnb hst m (Nat.le_refl _) v h0 h1 with ⟨a, b⟩ | ⟨⟨e, he, e1, e2, e3, e4, e5⟩, b⟩
    · obtain ⟨e, he, e1, e2, e3⟩ := hex
      have := b e he e1 e2 e3
      have := (hI e he).1
      omega
    · refine ⟨⟨e, he, e1, e5, by omega⟩, fun d hd d1 d2 => ?_⟩
      have := (hI d hd).1
      rcases hst d.1 this.1 this.2 with c | c
      · omega
      · exact b d hd d1 c (by omega) (by omega)
theorem tes_inside {cs : List Int} {m : Nat} {es : List E3} (hI : Inside m es) : Inside m (tes cs es) := fun e he => hI e (mem_tes.1 he).1
/-- Every vertex with a cost is reached by edges on least ways. -/
theorem tes_way {m : Nat} {es : List E3} {s : Int} {cs : List Int} {rk : Int → Nat} (hI : Inside m es) (h : IsC m es s cs rk) : ∀ (n : Nat) (v : Int), rk v ≤ n → 0 ≤ v → v < (m : Int) → 0 ≤ val cs v → ∃ k, way (tes cs es) s k v := by
  intro n
  induction n with
  | zero =>
    intro v hr h0 h1 h2
    rcases h.par v h0 h1 h2 with rfl | ⟨e, he, _, _, _, h6⟩
    · exact ⟨0, rfl⟩
    · omega
  | succ n ih =>
    intro v hr h0 h1 h2
    rcases h.par v h0 h1 h2 with rfl | ⟨e, he, e1, e2, e3, h6⟩
    · exact ⟨0, rfl⟩
    · obtain ⟨k, hk⟩ := ih e.1 (by omega) (hI e he).1.1 (hI e he).1.2 e2
      exact ⟨k + 1, e, mem_tes.2 ⟨he, e2, by rw [e1]; omega⟩, e1, hk⟩
theorem tes_cost {m : Nat} {es : List E3} {s : Int} {cs : List Int} {rk : Int → Nat} (hw : ∀ e ∈ es, 0 ≤ e.2.2) (h : IsC m es s cs rk) : ∀ (k : Nat) (v : Int), way (tes cs es) s k v → 0 ≤ val cs v
  | 0, v, hv => by have : v = s := hv; rw [this, h.src]; omega
  | k + 1, v, ⟨e, he, hv, hk⟩ => by
    have h1 := mem_tes.1 he
    have := hw e h1.1
    rw [← hv]; omega
end Go.Proofs.YthjnidcmhegoeaaDoor
