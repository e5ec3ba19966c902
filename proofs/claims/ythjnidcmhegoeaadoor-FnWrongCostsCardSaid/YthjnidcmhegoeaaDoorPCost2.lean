/- Costs and parents: what CostsRight says of them. No statement of the seat is proved here. -/
import Derived.Test.YthjnidcmhegoeaaDoorGIns
import Derived.Test.YthjnidcmhegoeaaDoorTy
import Derived.Lib.Hide
import Derived.Test.YthjnidcmhegoeaaDoorACostP
import Derived.Test.YthjnidcmhegoeaaDoorECosts
set_option linter.unusedSimpArgs false
set_option linter.unusedVariables false
namespace Go.Proofs.YthjnidcmhegoeaaDoor.Abs
open Go.RowKit
open R (val row ref)

theorem dV_val (xs : List Int) (v : Int) : dV xs v = Go.Proofs.YthjnidcmhegoeaaDoor.val xs v := rfl
theorem ends_uniq {m : Int} {X : List E3} (hg : gOk m X = true) {x y : E3} (hx : x ∈ X) (hy : y ∈ X) (h1 : x.1 = y.1) (h2 : x.2.1 = y.2.1) : x = y := by
  have hc : chain (hasV m) none X = true := by unfold gOk at hg; simp only [Bool.and_eq_true] at hg; exact hg.2
  obtain ⟨i, hi, rfl⟩ := List.getElem_of_mem hx
  obtain ⟨j, hj, rfl⟩ := List.getElem_of_mem hy
  rcases Nat.lt_trichotomy i j with h | h | h
  · have := chain_before X none hc i j hi hj h
    unfold before at this
    rw [decide_eq_true_eq] at this
    omega
  · subst h; rfl
  · have := chain_before X none hc j i hj hi h
    unfold before at this
    rw [decide_eq_true_eq] at this
    omega
theorem wOf_edge {m : Int} {X : List E3} (hg : gOk m X = true) {o : E3} (ho : o ∈ X) : wOf m X o.1 o.2.1 = o.2.2 := by
  unfold wOf
  rw [if_pos hg]
  unfold wE
  cases hf : X.find? (isE o.1 o.2.1) with
  | none =>
    have := List.find?_eq_none.1 hf o ho
    unfold isE at this
    simp at this
  | some x =>
    have h1 := List.find?_some hf
    have h2 := List.mem_of_find?_eq_some hf
    unfold isE at h1
    simp only [Bool.and_eq_true, decide_eq_true_eq] at h1
    dsimp only
    rw [ends_uniq hg h2 ho h1.1 h1.2]
theorem wOf_some {m : Int} {X : List E3} (hg : gOk m X = true) {a b : Int} (h : 0 ≤ wOf m X a b) : ∃ e ∈ X, e.1 = a ∧ e.2.1 = b ∧ e.2.2 = wOf m X a b := by
  unfold wOf at h ⊢
  rw [if_pos hg] at h ⊢
  unfold wE at h ⊢
  cases hf : X.find? (isE a b) with
  | none => rw [hf] at h; dsimp only at h; omega
  | some x =>
    have h1 := List.find?_some hf
    unfold isE at h1
    simp only [Bool.and_eq_true, decide_eq_true_eq] at h1
    exact ⟨x, List.mem_of_find?_eq_some hf, h1.1, h1.2, rfl⟩
theorem cI_spec {M : Nat} {es : List E3} {s : Int} {vs fs : List Int} (hl : vs.length = M) : cI M es s vs fs = true ↔ (∀ v : Int, 0 ≤ v → v < (M : Int) → Costs.vI M s (dV vs) (dV fs) (wOf M es) v = true) ∧ ∀ e ∈ es, Costs.eI (dV vs) e = true := by
  unfold cI
  rw [Bool.and_eq_true, List.all_eq_true, List.all_eq_true, hl]
  constructor
  · rintro ⟨h1, h2⟩
    refine ⟨fun v h0 hv => ?_, h2⟩
    have := h1 v.toNat (by simp; omega)
    rwa [Int.toNat_of_nonneg h0] at this
  · rintro ⟨h1, h2⟩
    refine ⟨fun v hv => ?_, h2⟩
    simp at hv
    exact h1 v (by omega) (by omega)
/-- What CostsRight accepts are the costs. -/
theorem costsOk_uniq {M : Nat} {es : List E3} {s : Int} {vs fs : List Int} (hI64 : ∀ z ∈ vs, I64 z) (h : costsOk M es s vs fs = true) : vs = costsN M es s M := by
  unfold costsOk at h
  simp only [Bool.and_eq_true, decide_eq_true_eq] at h
  obtain ⟨⟨⟨⟨⟨⟨hg, hV⟩, h1⟩, h2⟩, h3⟩, h4⟩, h5⟩ := h
  have hm := gOk_m hg
  have hI := gOk_edges hg
  have hww := valid_w hg
  have hs : 0 ≤ s ∧ s < (M : Int) := by unfold hasV at hV; simpa using hV
  have hIn : Inside M es := fun e he => ⟨(hI e he).1, (hI e he).2.1⟩
  have hvl : vs.length = M := by omega
  obtain ⟨c1, c2⟩ := (cI_spec hvl).1 h5
  have hG : Costs.Good M s (dV vs) (dV fs) (wOf M es) := ⟨by omega, hs.1, hs.2, h3, h4, fun v => dV_I hI64 v, fun p v hw => wOf_in hw⟩
  obtain ⟨rk, hC⟩ := costsN_isC hIn (fun e he => (hww e he).1) hs
  have hcl := costsN_len M es s M
  generalize costsN M es s M = cs at *
  have feas : ∀ e ∈ es, 0 ≤ Go.Proofs.YthjnidcmhegoeaaDoor.val vs e.1 → 0 ≤ Go.Proofs.YthjnidcmhegoeaaDoor.val vs e.2.1 ∧ Go.Proofs.YthjnidcmhegoeaaDoor.val vs e.2.1 ≤ Go.Proofs.YthjnidcmhegoeaaDoor.val vs e.1 + e.2.2 := fun e he h0 => by
    have h6 := c2 e he
    unfold Costs.eI at h6
    rw [Bool.not_eq_true', Bool.and_eq_false_imp] at h6
    have h7 := h6 (by rw [decide_eq_true_eq]; exact h0)
    rw [Bool.or_eq_false_iff, decide_eq_false_iff_not, decide_eq_false_iff_not] at h7
    have h8 := dV_I hI64 e.2.1
    have h9 := hww e he
    unfold I64 at h8
    rw [IntWalk.i64_in (dV vs e.2.1 - e.2.2) (by omega)] at h7
    rw [dV_val, dV_val] at h7
    omega
  -- never more than the costs
  have up : ∀ (n : Nat) (v : Int), rk v ≤ n → 0 ≤ v → v < (M : Int) → 0 ≤ Go.Proofs.YthjnidcmhegoeaaDoor.val cs v → 0 ≤ Go.Proofs.YthjnidcmhegoeaaDoor.val vs v ∧ Go.Proofs.YthjnidcmhegoeaaDoor.val vs v ≤ Go.Proofs.YthjnidcmhegoeaaDoor.val cs v := by
    intro n
    induction n with
    | zero =>
      intro v hr h0 hv hc
      rcases hC.par v h0 hv hc with rfl | ⟨e, he, _, _, _, h6⟩
      · rw [← dV_val, h3, hC.src]; omega
      · omega
    | succ n ih =>
      intro v hr h0 hv hc
      rcases hC.par v h0 hv hc with rfl | ⟨e, he, e1, e2, e3, h6⟩
      · rw [← dV_val, h3, hC.src]; omega
      · have h7 := ih e.1 (by omega) (hIn e he).1.1 (hIn e he).1.2 e2
        have h8 := feas e he h7.1
        rw [e1] at h8
        omega
  have down : ∀ (n : Nat) (v : Int), 0 ≤ v → v < (M : Int) → Costs.climb M s (dV fs) n v = true → 0 ≤ Go.Proofs.YthjnidcmhegoeaaDoor.val vs v ∧ 0 ≤ Go.Proofs.YthjnidcmhegoeaaDoor.val cs v ∧ Go.Proofs.YthjnidcmhegoeaaDoor.val cs v ≤ Go.Proofs.YthjnidcmhegoeaaDoor.val vs v := by
    intro n
    induction n with
    | zero =>
      intro v h0 hv hc
      have : v = s := by simpa [Costs.climb] using hc
      subst this
      rw [hC.src, ← dV_val, h3]; omega
    | succ n ih =>
      intro v h0 hv hc
      by_cases hvs : v = s
      · subst hvs
        rw [hC.src, ← dV_val, h3]; omega
      · by_cases hd : dV vs v = -1
        · have h6 := c1 v h0 hv
          unfold Costs.vI at h6
          rw [decide_eq_false hvs, Bool.false_or, if_pos hd, decide_eq_true_eq] at h6
          unfold Costs.climb at hc
          rw [decide_eq_false hvs, Bool.false_or, Bool.and_eq_true] at hc
          rw [h6, Costs.climb_dead hG] at hc
          cases hc.2
        · obtain ⟨e1, e2, e3, e4, e5⟩ := Costs.vI_of hG (c1 v h0 hv) hvs hd
          have hp := (hG.hw _ _ e2).1
          unfold Costs.climb at hc
          rw [decide_eq_false hvs, Bool.false_or, Bool.and_eq_true] at hc
          have h7 := ih (dV fs v) hp.1 hp.2 hc.2
          obtain ⟨e, he, q1, q2, q3⟩ := wOf_some hg e2
          have h8 := hC.feas e he (by rw [q1]; exact h7.2.1)
          rw [q1, q2, q3] at h8
          rw [dV_val vs, dV_val vs] at e4
          rw [dV_val] at e1
          omega
  refine ext_val (by omega) (fun v h0 hv => ?_)
  rw [hvl] at hv
  by_cases hd : dV vs v = -1
  · rcases hC.rng v h0 hv with a | a
    · rw [a, ← dV_val]; exact hd
    · have := up _ v (Nat.le_refl _) h0 hv a
      rw [dV_val] at hd
      omega
  · by_cases hvs : v = s
    · subst hvs
      rw [hC.src, ← dV_val, h3]
    · obtain ⟨e1, e2, e3, e4, e5⟩ := Costs.vI_of hG (c1 v h0 hv) hvs hd
      have hp := (hG.hw _ _ e2).1
      have h7 := down (M + 1) v h0 hv (by
        unfold Costs.climb
        rw [e5, decide_eq_false (show ¬ v < 0 by omega), decide_eq_false (show ¬ v ≥ (M : Int) by omega)]
        simp)
      have h8 := up _ v (Nat.le_refl _) h0 hv h7.2.1
      omega
/-- The costs with the parents are accepted. -/
theorem costsOk_yes {M : Nat} {es : List E3} {s : Int} (hg : gOk M es = true) (hs : 0 ≤ s ∧ s < (M : Int)) : costsOk M es s (costsN M es s M) (parF M es s) = true ∧ (parF M es s).length = M ∧ (∀ z ∈ parF M es s, -1 ≤ z ∧ z < (M : Int)) ∧ dV (parF M es s) s = -1 ∧
    (∀ v : Int, 0 ≤ v → v < (M : Int) → dV (parF M es s) v = -1 → v = s ∨ dV (costsN M es s M) v < 0) ∧
    (∀ v : Int, 0 ≤ v → v < (M : Int) → dV (parF M es s) v ≠ -1 → (0 ≤ dV (parF M es s) v ∧ dV (parF M es s) v < (M : Int)) ∧ 0 ≤ wOf M es (dV (parF M es s) v) v ∧ wOf M es (dV (parF M es s) v) v ≤ 20 ∧ dV (costsN M es s M) (dV (parF M es s) v) + wOf M es (dV (parF M es s) v) v = dV (costsN M es s M) v) := by
  have hm := gOk_m hg
  have h40 := gOk_len hg
  have hI := gOk_edges hg
  have hww := valid_w hg
  have hIn : Inside M es := fun e he => ⟨(hI e he).1, (hI e he).2.1⟩
  have hR : inR 0 ((M : Int) - 1) s = true := by unfold inR; simp; omega
  have hV : hasV M s = true := by rw [hasV_inR]; exact hR
  have e : parF M es s = (parS (costsN M es s M) M es s M).2 := by unfold parF; rw [hg, hR]; rfl
  obtain ⟨rk, hC⟩ := costsN_isC hIn (fun e he => (hww e he).1) hs
  have hcl := costsN_len M es s M
  have hcb := costsN_bd hIn hww h40 hs M
  rw [e]
  generalize costsN M es s M = cs at *
  have hcs0 : 0 ≤ Go.Proofs.YthjnidcmhegoeaaDoor.val cs s := by rw [hC.src]; omega
  obtain ⟨hP, _⟩ := parS_isPar hIn (fun e he => (hww e he).1) hs hcs0
  have hIt : Inside M (tes cs es) := tes_inside hIn
  have hH := hopsN_isH hIt hs
  have hHl := hopsN_len M (tes cs es) s M
  generalize (parS cs M es s M).2 = ps at *
  have hst : ∀ v : Int, 0 ≤ v → v < (M : Int) → (Go.Proofs.YthjnidcmhegoeaaDoor.val (hopsN M (tes cs es) s M) v = -1 ∧ Go.Proofs.YthjnidcmhegoeaaDoor.val cs v = -1) ∨ (0 ≤ Go.Proofs.YthjnidcmhegoeaaDoor.val (hopsN M (tes cs es) s M) v ∧ Go.Proofs.YthjnidcmhegoeaaDoor.val (hopsN M (tes cs es) s M) v ≤ M ∧ 0 ≤ Go.Proofs.YthjnidcmhegoeaaDoor.val cs v) := fun v h0 h1 => by
    rcases (lv_all hIt hs M).cases h0 h1 with ⟨k, hk, hL, hv⟩ | ⟨hn, hv⟩
    · exact .inr ⟨by omega, by omega, tes_cost (fun e he => (hww e he).1) hC k v hL.1⟩
    · left
      refine ⟨hv, ?_⟩
      rcases hC.rng v h0 h1 with a | a
      · exact a
      · obtain ⟨k, hk⟩ := tes_way hIn hC _ v (Nat.le_refl _) h0 h1 a
        rcases hH.cases h0 h1 with ⟨j, _, hj⟩ | ⟨hno, _⟩
        · omega
        · exact absurd hk (hno k)
  have hss : Go.Proofs.YthjnidcmhegoeaaDoor.val (hopsN M (tes cs es) s M) s = 0 := hH.some s hs.1 hs.2 0 ⟨rfl, fun j hj => by omega⟩
  have hzero : ∀ v : Int, 0 ≤ v → v < (M : Int) → Go.Proofs.YthjnidcmhegoeaaDoor.val (hopsN M (tes cs es) s M) v = 0 → v = s := fun v h0 h1 hz => by
    rcases hH.cases h0 h1 with ⟨k, hL, hk⟩ | ⟨_, hk⟩
    · obtain rfl : k = 0 := by omega
      exact hL.1
    · omega
  generalize hopsN M (tes cs es) s M = st at *
  have hps : dV ps s = -1 := hP.none s hs.1 hs.2 (by omega)
  have hpar : ∀ v : Int, 0 ≤ v → v < (M : Int) → 1 ≤ Go.Proofs.YthjnidcmhegoeaaDoor.val st v → ∃ e ∈ es, e.1 = dV ps v ∧ e.2.1 = v ∧ 0 ≤ Go.Proofs.YthjnidcmhegoeaaDoor.val cs e.1 ∧ Go.Proofs.YthjnidcmhegoeaaDoor.val cs e.1 + e.2.2 = Go.Proofs.YthjnidcmhegoeaaDoor.val cs v ∧ Go.Proofs.YthjnidcmhegoeaaDoor.val st e.1 = Go.Proofs.YthjnidcmhegoeaaDoor.val st v - 1 ∧ e.2.2 = wOf M es (dV ps v) v := fun v h0 h1 hv => by
    obtain ⟨⟨e, he, e1, e2, e3⟩, _⟩ := hP.some v h0 h1 hv
    obtain ⟨he', t1, t2⟩ := mem_tes.1 he
    refine ⟨e, he', e2, e1, t1, by rw [t2, e1], e3, ?_⟩
    have := wOf_edge hg he'
    rw [e1, e2] at this
    exact this.symm
  have hclimb : ∀ (n : Nat) (v : Int), 0 ≤ v → v < (M : Int) → 0 ≤ Go.Proofs.YthjnidcmhegoeaaDoor.val st v → Go.Proofs.YthjnidcmhegoeaaDoor.val st v ≤ n → Costs.climb M s (dV ps) n v = true := by
    intro n
    induction n with
    | zero =>
      intro v h0 h1 h2 h3
      unfold Costs.climb
      rw [decide_eq_true_eq]
      exact hzero v h0 h1 (by omega)
    | succ n ih =>
      intro v h0 h1 h2 h3
      unfold Costs.climb
      by_cases hvs : v = s
      · rw [decide_eq_true hvs]; rfl
      · have hne : Go.Proofs.YthjnidcmhegoeaaDoor.val st v ≠ 0 := fun hz => hvs (hzero v h0 h1 hz)
        obtain ⟨e, he, q1, q2, q3, q4, q5, _⟩ := hpar v h0 h1 (by omega)
        have hb := (hIn e he).1
        rw [q1] at hb q5
        rw [ih (dV ps v) hb.1 hb.2 (by omega) (by omega), decide_eq_false (show ¬ v < 0 by omega), decide_eq_false (show ¬ v ≥ (M : Int) by omega)]
        simp
  refine ⟨?_, hP.len, fun z hz => ?_, hps, fun v h0 h1 hv => ?_, fun v h0 h1 hv => ?_⟩
  · unfold costsOk
    have hcI : cI M es s cs ps = true := by
      rw [cI_spec hcl]
      refine ⟨fun v h0 h1 => ?_, fun e he => ?_⟩
      · unfold Costs.vI
        by_cases hvs : v = s
        · rw [decide_eq_true hvs]; rfl
        · rw [decide_eq_false hvs, Bool.false_or]
          rcases hst v h0 h1 with ⟨a, b⟩ | ⟨a, a', b⟩
          · rw [if_pos (by rw [dV_val]; exact b), decide_eq_true_eq]
            exact hP.none v h0 h1 (by omega)
          · rw [if_neg (by rw [dV_val]; omega)]
            have hne : Go.Proofs.YthjnidcmhegoeaaDoor.val st v ≠ 0 := fun hz => hvs (hzero v h0 h1 hz)
            obtain ⟨e, he, q1, q2, q3, q4, q5, q6⟩ := hpar v h0 h1 (by omega)
            have hb := (hIn e he).1
            have hw2 := hww e he
            have hbb := hcb v h0 h1
            rw [q1] at hb q3 q4 q5
            rw [hclimb M (dV ps v) hb.1 hb.2 (by omega) (by omega), dV_val cs v, dV_val cs (dV ps v), IntWalk.i64_in _ (by omega)]
            simp only [Bool.and_true, Bool.not_eq_true', Bool.or_eq_false_iff, decide_eq_false_iff_not, Bool.not_eq_false', decide_eq_true_eq]
            omega
      · unfold Costs.eI
        rw [Bool.not_eq_true', Bool.and_eq_false_imp]
        intro h6
        rw [decide_eq_true_eq, dV_val] at h6
        have h7 := hC.feas e he h6
        have h8 := hcb e.2.1 (hIn e he).2.1 (hIn e he).2.2
        have h9 := hww e he
        rw [Bool.or_eq_false_iff, decide_eq_false_iff_not, decide_eq_false_iff_not, dV_val, dV_val, IntWalk.i64_in _ (by omega)]
        omega
    have hd0 : dV cs s = 0 := hC.src
    rw [hg, hV, hcI, hcl, hP.len, hps, hd0]
    simp
  · obtain ⟨i, hi, rfl⟩ := List.mem_iff_getElem.1 hz
    have hil : i < M := by rw [hP.len] at hi; exact hi
    have hv : Go.Proofs.YthjnidcmhegoeaaDoor.val ps (i : Int) = ps[i] := by unfold Go.Proofs.YthjnidcmhegoeaaDoor.val; rw [Int.toNat_natCast, List.getD_eq_getElem?_getD, List.getElem?_eq_getElem hi]; rfl
    rw [← hv]
    rcases Int.lt_or_le (Go.Proofs.YthjnidcmhegoeaaDoor.val st (i : Int)) 1 with a | a
    · rw [hP.none i (by omega) (by omega) (by omega)]; omega
    · obtain ⟨e, he, q1, _⟩ := hpar i (by omega) (by omega) a
      rw [dV_val] at q1
      have := (hIn e he).1
      omega
  · rcases hst v h0 h1 with ⟨a, b⟩ | ⟨a, a', b⟩
    · right; rw [dV_val]; omega
    · left
      by_cases hz : Go.Proofs.YthjnidcmhegoeaaDoor.val st v = 0
      · exact hzero v h0 h1 hz
      · obtain ⟨e, he, q1, _⟩ := hpar v h0 h1 (by omega)
        have := (hIn e he).1
        omega
  · have h1v : 1 ≤ Go.Proofs.YthjnidcmhegoeaaDoor.val st v := by
      rcases Int.lt_or_le (Go.Proofs.YthjnidcmhegoeaaDoor.val st v) 1 with a | a
      · exact absurd (hP.none v h0 h1 (by omega)) hv
      · exact a
    obtain ⟨e, he, q1, q2, q3, q4, q5, q6⟩ := hpar v h0 h1 h1v
    have hb := (hIn e he).1
    have hw2 := hww e he
    rw [q1] at hb q4
    rw [dV_val cs, dV_val cs]
    exact ⟨hb, by omega, by omega, by omega⟩
/-- Costs and hops. -/
theorem costs_hops {M : Nat} {es : List E3} {s : Int} (hg : gOk M es = true) (hs : 0 ≤ s ∧ s < (M : Int)) (v : Int) (h0 : 0 ≤ v) (h1 : v < (M : Int)) :
    (Go.Proofs.YthjnidcmhegoeaaDoor.val (costsN M es s M) v = -1 ∧ Go.Proofs.YthjnidcmhegoeaaDoor.val (hopsN M es s M) v = -1) ∨ (0 ≤ Go.Proofs.YthjnidcmhegoeaaDoor.val (costsN M es s M) v ∧ 0 ≤ Go.Proofs.YthjnidcmhegoeaaDoor.val (hopsN M es s M) v ∧ Go.Proofs.YthjnidcmhegoeaaDoor.val (hopsN M es s M) v ≤ M ∧ Go.Proofs.YthjnidcmhegoeaaDoor.val (costsN M es s M) v ≤ 20 * Go.Proofs.YthjnidcmhegoeaaDoor.val (hopsN M es s M) v) := by
  have hI := gOk_edges hg
  have hww := valid_w hg
  have hIn : Inside M es := fun e he => ⟨(hI e he).1, (hI e he).2.1⟩
  obtain ⟨rk, hC⟩ := costsN_isC hIn (fun e he => (hww e he).1) hs
  generalize costsN M es s M = cs at *
  have hH := hopsN_isH hIn hs
  have along : ∀ (k : Nat) (u : Int), way es s k u → 0 ≤ Go.Proofs.YthjnidcmhegoeaaDoor.val cs u ∧ Go.Proofs.YthjnidcmhegoeaaDoor.val cs u ≤ 20 * k := by
    intro k
    induction k with
    | zero => intro u hu; have : u = s := hu; rw [this, hC.src]; omega
    | succ k ih =>
      rintro u ⟨e, he, rfl, hw⟩
      have h2 := ih e.1 hw
      have h3 := hC.feas e he h2.1
      have h4 := hww e he
      omega
  have sub : ∀ (k : Nat) (u : Int), way (tes cs es) s k u → way es s k u := by
    intro k
    induction k with
    | zero => intro u hu; exact hu
    | succ k ih => rintro u ⟨e, he, hu, hw⟩; exact ⟨e, (mem_tes.1 he).1, hu, ih e.1 hw⟩
  rcases (lv_all hIn hs M).cases h0 h1 with ⟨k, hk, hL, hv⟩ | ⟨hn, hv⟩
  · have := along k v hL.1
    right
    rw [hv]
    omega
  · left
    refine ⟨?_, hv⟩
    rcases hC.rng v h0 h1 with a | a
    · exact a
    · obtain ⟨k, hk⟩ := tes_way hIn hC _ v (Nat.le_refl _) h0 h1 a
      rcases hH.cases h0 h1 with ⟨j, _, hj⟩ | ⟨hno, _⟩
      · omega
      · exact absurd (sub k v hk) (hno k)
end Go.Proofs.YthjnidcmhegoeaaDoor.Abs
