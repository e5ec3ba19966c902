/- The texts of jobs: plain law. No statement of the seat is proved here. -/
import Derived.Lib.ItoaNum
import Derived.Lib.Strings
import Derived.Test.YthjnidcmhegoeaaDoorTy
import Derived.Lib.Hide
import Derived.Test.YthjnidcmhegoeaaDoorADat
import Derived.Test.YthjnidcmhegoeaaDoorJobs
set_option linter.unusedSimpArgs false
set_option linter.unusedVariables false
namespace Go.Proofs.YthjnidcmhegoeaaDoor.Abs
open Go.RowKit
open R (val row ref)

open Go.Lib (decDigits decDigits_one decDigits_length nDigits nDigits_small nDigits_big hasPrefix)
theorem snocInd {α : Type} {P : List α → Prop} (h0 : P []) (h1 : ∀ l a, P l → P (l ++ [a])) : ∀ l, P l := by
  intro l
  rw [← List.reverse_reverse l]
  generalize l.reverse = r
  induction r with
  | nil => exact h0
  | cons a r ih => rw [List.reverse_cons]; exact h1 _ _ ih
theorem hd_app {α : Type} {l r : List α} (h : l ≠ []) : (l ++ r).head? = l.head? := by
  cases l with
  | nil => exact absurd rfl h
  | cons a l => rfl
/-- The digits. -/
def isDg (b : UInt8) : Bool := decide (48 ≤ b.toNat ∧ b.toNat ≤ 57)
def valD (l : List UInt8) : Nat := l.foldl (fun n b => 10 * n + (b.toNat - 48)) 0
theorem valD_snoc (l : List UInt8) (b : UInt8) : valD (l ++ [b]) = 10 * valD l + (b.toNat - 48) := by unfold valD; rw [List.foldl_append]; rfl
theorem dg_toNat {u : Nat} (h : u < 10) : (UInt8.ofNat (48 + u)).toNat = 48 + u := by
  rw [UInt8.toNat_ofNat']; omega
theorem dig_isDg : ∀ u : Nat, ∀ b ∈ decDigits u, isDg b = true := by
  intro u
  induction u using Nat.strongRecOn with
  | _ u ih =>
    intro b hb
    rw [decDigits] at hb
    split at hb
    · rw [List.mem_singleton.1 hb]; unfold isDg; rw [dg_toNat (by omega)]; simp; omega
    · rcases List.mem_append.1 hb with hb | hb
      · exact ih (u / 10) (by omega) b hb
      · rw [List.mem_singleton.1 hb]; unfold isDg; rw [dg_toNat (by omega)]; simp; omega
theorem dig_val : ∀ u : Nat, valD (decDigits u) = u := by
  intro u
  induction u using Nat.strongRecOn with
  | _ u ih =>
    rw [decDigits]
    split
    · show valD ([] ++ [_]) = _
      rw [valD_snoc, dg_toNat (by omega)]; simp [valD]
    · rw [valD_snoc, ih (u / 10) (by omega), dg_toNat (by omega)]; omega
theorem dig_ne (u : Nat) : decDigits u ≠ [] := by
  rw [decDigits]; split <;> simp
theorem dig_head : ∀ u : Nat, (decDigits u).head? = some 48 → u = 0 := by
  intro u
  induction u using Nat.strongRecOn with
  | _ u ih =>
    intro h
    rw [decDigits] at h
    split at h
    · simp only [List.head?_cons, Option.some.injEq] at h
      have := congrArg UInt8.toNat h
      rw [dg_toNat (by omega)] at this
      have h2 : (48 : UInt8).toNat = 48 := rfl
      omega
    · rw [hd_app (dig_ne _)] at h
      have := ih (u / 10) (by omega) h
      omega
theorem dig_len {u : Nat} (h : u < 1000000) : (decDigits u).length ≤ 6 := by
  rw [decDigits_length]
  by_cases h1 : u = 0
  · subst h1; rw [nDigits_small (by omega)]; omega
  · have keyD : ∀ k v, v < 10 ^ k → nDigits v ≤ max 1 k := by
      intro k
      induction k with
      | zero => intro v hv; simp at hv; subst hv; rw [nDigits_small (by omega)]; omega
      | succ k ih =>
        intro v hv
        by_cases h10 : v < 10
        · rw [nDigits_small h10]; omega
        · rw [nDigits_big h10]
          have := ih (v / 10) (by rw [Nat.pow_succ] at hv; omega)
          cases k with
          | zero => simp at hv; omega
          | succ k => omega
    have := keyD 6 u (by omega)
    omega
theorem val_pos : ∀ (l : List UInt8), l ≠ [] → (∀ b ∈ l, isDg b = true) → l.head? ≠ some 48 → 0 < valD l := by
  refine snocInd (fun h => absurd rfl h) ?_
  · intro u b ih _ hd hh
    rw [valD_snoc]
    by_cases hu : u = []
    · subst hu
      have hb := hd b (by simp)
      unfold isDg at hb
      simp at hb hh
      have : b.toNat ≠ 48 := fun h => hh (UInt8.toNat_inj.1 h)
      simp [valD]; omega
    · have := ih hu (fun b hb => hd b (by simp [hb])) (by rwa [hd_app hu] at hh)
      omega
theorem dig_canon : ∀ (l : List UInt8), l ≠ [] → (∀ b ∈ l, isDg b = true) → (1 < l.length → l.head? ≠ some 48) → decDigits (valD l) = l := by
  refine snocInd (fun h => absurd rfl h) ?_
  · intro u b ih _ hd hh
    have hb := hd b (by simp)
    unfold isDg at hb
    simp at hb
    rw [valD_snoc]
    by_cases hu : u = []
    · subst hu
      rw [show valD [] = 0 from rfl, decDigits_one (by omega)]
      simp only [List.nil_append, List.cons.injEq, and_true]
      apply UInt8.toNat_inj.1
      rw [UInt8.toNat_ofNat']; omega
    · have hl : 1 < (u ++ [b]).length := by have := List.length_pos_iff.2 hu; simp; omega
      have hh' := hh hl
      rw [hd_app hu] at hh'
      have hp := val_pos u hu (fun b hb => hd b (by simp [hb])) hh'
      rw [decDigits, dif_neg (by omega)]
      rw [show (10 * valD u + (b.toNat - 48)) / 10 = valD u by omega, show (10 * valD u + (b.toNat - 48)) % 10 = b.toNat - 48 by omega, ih hu (fun b hb => hd b (by simp [hb])) (fun _ => hh')]
      congr 1
      simp only [List.cons.injEq, and_true]
      apply UInt8.toNat_inj.1
      rw [UInt8.toNat_ofNat']; omega

/-! ### the texts of jobs -/
def kindB (k : Int) : List UInt8 := if k = 1 then [104, 111, 112, 115] else if k = 2 then [99, 111, 115, 116, 115] else if k = 3 then [112, 97, 114, 116, 115] else if k = 4 then [108, 97, 98, 101, 108, 115] else if k = 5 then [116, 114, 105, 97, 110, 103, 108, 101, 115] else [99, 111, 114, 101, 115]
def withB : List UInt8 := [32, 119, 105, 116, 104, 32]
def midB (k s r : Int) : List UInt8 := if k = 1 ∨ k = 2 then 32 :: decDigits s.toNat else if k = 4 ∨ k = 6 then 32 :: decDigits r.toNat else []
/-- The text of a job. -/
def jobB (k s r n : Int) : List UInt8 := kindB k ++ (midB k s r ++ (withB ++ decDigits n.toNat))
/-- A number at the beginning, and what stands behind it. -/
def jNum (u : List UInt8) : Option (Nat × List UInt8) := if 1 ≤ (u.takeWhile isDg).length ∧ (u.takeWhile isDg).length ≤ 6 ∧ ¬ (1 < (u.takeWhile isDg).length ∧ u.head? = some 48) then some (valD (u.takeWhile isDg), u.drop (u.takeWhile isDg).length) else none
def jTk (p u : List UInt8) : Option (List UInt8) := if hasPrefix u p = true then some (u.drop p.length) else none
theorem jTk_app (p u : List UInt8) : jTk p (p ++ u) = some u := by
  unfold jTk hasPrefix
  rw [if_pos (by simp)]
  simp
theorem jTk_some {p u v : List UInt8} (h : jTk p u = some v) : u = p ++ v := by
  unfold jTk hasPrefix at h
  split at h
  · rename_i hp
    injection h with h
    rw [List.isPrefixOf_iff_prefix] at hp
    obtain ⟨w, rfl⟩ := hp
    rw [List.drop_left] at h
    rw [h]
  · cases h
theorem tw_dig {n : Nat} {r : List UInt8} (hr : r = [] ∨ ∃ b t, r = b :: t ∧ isDg b = false) : (decDigits n ++ r).takeWhile isDg = decDigits n := by
  rw [List.takeWhile_append_of_pos (dig_isDg n)]
  have : r.takeWhile isDg = [] := by
    rcases hr with rfl | ⟨b, t, rfl, hb⟩
    · rfl
    · rw [List.takeWhile_cons, hb]; rfl
  rw [this, List.append_nil]
theorem jNum_dig {n : Nat} {r : List UInt8} (hn : n < 1000000) (hr : r = [] ∨ ∃ b t, r = b :: t ∧ isDg b = false) : jNum (decDigits n ++ r) = some (n, r) := by
  unfold jNum
  rw [tw_dig hr, hd_app (dig_ne n), dig_val]
  have h1 := List.length_pos_iff.2 (dig_ne n)
  have h2 := dig_len hn
  rw [if_pos]
  · rw [List.drop_left]
  · refine ⟨h1, h2, fun h => ?_⟩
    have := dig_head n h.2
    subst this
    rw [decDigits_one (by omega)] at h
    simp at h
theorem tw_all : ∀ (u : List UInt8), ∀ b ∈ u.takeWhile isDg, isDg b = true
  | [], b, h => by simp at h
  | a :: u, b, h => by
    rw [List.takeWhile_cons] at h
    split at h
    · rename_i ha
      rcases List.mem_cons.1 h with rfl | h
      · exact ha
      · exact tw_all u b h
    · simp at h
theorem jNum_some {u r : List UInt8} {n : Nat} (h : jNum u = some (n, r)) : u = decDigits n ++ r ∧ (r = [] ∨ ∃ b t, r = b :: t ∧ isDg b = false) := by
  unfold jNum at h
  split at h
  · rename_i hc
    obtain ⟨h1, h2, h3⟩ := hc
    injection h with h
    injection h with hn hr
    have hu : u = u.takeWhile isDg ++ u.dropWhile isDg := (List.takeWhile_append_dropWhile).symm
    have hd : u.drop (u.takeWhile isDg).length = u.dropWhile isDg := (congrArg (List.drop (u.takeWhile isDg).length) hu).trans List.drop_left
    have hne : u.takeWhile isDg ≠ [] := fun h => by rw [h] at h1; simp at h1
    have hall : ∀ b ∈ u.takeWhile isDg, isDg b = true := tw_all u
    have hhd : u.head? = (u.takeWhile isDg).head? := (congrArg List.head? hu).trans (hd_app hne)
    have hcan := dig_canon _ hne hall (fun hl h => h3 ⟨hl, by rw [hhd]; exact h⟩)
    rw [hn] at hcan
    refine ⟨by rw [hcan, ← hr, hd]; exact hu, ?_⟩
    rw [← hr, hd]
    cases hw : u.dropWhile isDg with
    | nil => exact .inl rfl
    | cons b t =>
      refine .inr ⟨b, t, rfl, ?_⟩
      have := List.head?_dropWhile_not isDg u
      rw [hw] at this
      simpa using this
  · cases h
def jS (k : Int) (n : Nat) : Int := if k = 1 ∨ k = 2 then n else 0
def jR (k : Int) (n : Nat) : Int := if k = 4 ∨ k = 6 then n else 0
def parseJ (k : Int) (l : List UInt8) : Option (Int × Int × Int × Int) :=
  match jTk (kindB k) l with
  | none => none
  | some l1 => match (if k = 1 ∨ k = 2 ∨ k = 4 ∨ k = 6 then (match jTk [32] l1 with | none => none | some l2 => jNum l2) else some ((0 : Nat), l1)) with
    | none => none
    | some (n, l3) => match jTk withB l3 with
      | none => none
      | some l4 => match jNum l4 with
        | none => none
        | some (w, l5) => if l5 = [] ∧ jobOk k (jS k n) (jR k n) w = true then some (k, jS k n, jR k n, (w : Int)) else none
theorem parse_some {k : Int} {l : List UInt8} {j : Int × Int × Int × Int} (h : parseJ k l = some j) : jobOk j.1 j.2.1 j.2.2.1 j.2.2.2 = true ∧ jobB j.1 j.2.1 j.2.2.1 j.2.2.2 = l ∧ j.1 = k := by
  unfold parseJ at h
  cases h1 : jTk (kindB k) l with
  | none => rw [h1] at h; cases h
  | some l1 =>
    rw [h1] at h
    dsimp only at h
    have e1 := jTk_some h1
    cases hm : (if k = 1 ∨ k = 2 ∨ k = 4 ∨ k = 6 then (match jTk [32] l1 with | none => none | some l2 => jNum l2) else some ((0 : Nat), l1) : Option (Nat × List UInt8)) with
    | none => rw [hm] at h; cases h
    | some x =>
      obtain ⟨n, l3⟩ := x
      rw [hm] at h
      dsimp only at h
      cases h4 : jTk withB l3 with
      | none => rw [h4] at h; cases h
      | some l4 =>
        rw [h4] at h
        dsimp only at h
        have e4 := jTk_some h4
        cases h5 : jNum l4 with
        | none => rw [h5] at h; cases h
        | some y =>
          obtain ⟨w, l5⟩ := y
          rw [h5] at h
          dsimp only at h
          obtain ⟨e5, _⟩ := jNum_some h5
          split at h
          · rename_i hc
            injection h with h
            subst h
            obtain ⟨hc1, hc2⟩ := hc
            subst hc1
            refine ⟨hc2, ?_, rfl⟩
            rw [List.append_nil] at e5
            dsimp only
            unfold jobB midB jS jR
            rw [e1, show ((w : Int)).toNat = w by omega, ← e5, ← e4]
            congr 1
            by_cases hk : k = 1 ∨ k = 2
            · rw [if_pos hk, if_pos hk]
              rw [if_pos (by omega)] at hm
              cases h2 : jTk [32] l1 with
              | none => rw [h2] at hm; cases hm
              | some l2 =>
                rw [h2] at hm
                dsimp only at hm
                have e2 := jTk_some h2
                obtain ⟨e3, _⟩ := jNum_some hm
                rw [e2, e3, show ((n : Int)).toNat = n by omega]; simp
            · rw [if_neg hk]
              by_cases hk2 : k = 4 ∨ k = 6
              · rw [if_pos hk2, if_pos hk2]
                rw [if_pos (by omega)] at hm
                cases h2 : jTk [32] l1 with
                | none => rw [h2] at hm; cases hm
                | some l2 =>
                  rw [h2] at hm
                  dsimp only at hm
                  have e2 := jTk_some h2
                  obtain ⟨e3, _⟩ := jNum_some hm
                  rw [e2, e3, show ((n : Int)).toNat = n by omega]; simp
              · rw [if_neg hk2]
                rw [if_neg (by omega)] at hm
                injection hm with hm
                injection hm with hm1 hm2
                rw [hm2]; rfl
          · cases h
theorem isDg32 : isDg 32 = false := by decide
theorem parse_job {k s r n : Int} (h : jobOk k s r n = true) : parseJ k (jobB k s r n) = some (k, s, r, n) := by
  have h0 := h
  unfold jobOk progOk at h
  simp only [Bool.and_eq_true, decide_eq_true_eq] at h
  obtain ⟨hp, hn1, hn2⟩ := h
  have hb : withB ++ decDigits n.toNat = [] ∨ ∃ b t, withB ++ decDigits n.toNat = b :: t ∧ isDg b = false := .inr ⟨32, _, rfl, isDg32⟩
  have hnn : jNum (decDigits n.toNat) = some (n.toNat, []) := by
    have := jNum_dig (n := n.toNat) (r := []) (by omega) (.inl rfl)
    rwa [List.append_nil] at this
  unfold parseJ jobB
  rw [jTk_app]
  dsimp only
  have hni : ((n.toNat : Nat) : Int) = n := by omega
  by_cases hk : k = 1 ∨ k = 2
  · rw [if_pos hk] at hp
    simp only [decide_eq_true_eq] at hp
    obtain ⟨hs0, hs1, rfl⟩ := hp
    have hsi : ((s.toNat : Nat) : Int) = s := by omega
    rw [if_pos (by omega)]
    unfold midB
    rw [if_pos hk, List.cons_append, show (32 : UInt8) :: (decDigits s.toNat ++ (withB ++ decDigits n.toNat)) = [32] ++ (decDigits s.toNat ++ (withB ++ decDigits n.toNat)) from rfl, jTk_app]
    dsimp only
    rw [jNum_dig (by omega) hb]
    dsimp only
    rw [jTk_app]
    dsimp only
    rw [hnn]
    dsimp only
    have e1 : jS k s.toNat = s := by unfold jS; rw [if_pos hk]; exact hsi
    have e2 : jR k s.toNat = 0 := by unfold jR; rw [if_neg (by omega)]
    rw [e1, e2, hni, if_pos ⟨rfl, h0⟩]
  · rw [if_neg hk] at hp
    by_cases hk3 : k = 3 ∨ k = 5
    · rw [if_pos hk3] at hp
      simp only [decide_eq_true_eq] at hp
      obtain ⟨rfl, rfl⟩ := hp
      rw [if_neg (by omega)]
      unfold midB
      rw [if_neg hk, if_neg (by omega), List.nil_append]
      dsimp only
      rw [jTk_app]
      dsimp only
      rw [hnn]
      dsimp only
      have e1 : jS k 0 = 0 := by unfold jS; rw [if_neg hk]
      have e2 : jR k 0 = 0 := by unfold jR; rw [if_neg (by omega)]
      rw [e1, e2, hni, if_pos ⟨rfl, h0⟩]
    · rw [if_neg hk3] at hp
      by_cases hk4 : k = 4 ∨ k = 6
      · rw [if_pos hk4] at hp
        simp only [decide_eq_true_eq] at hp
        obtain ⟨rfl, hr0, hr1⟩ := hp
        have hri : ((r.toNat : Nat) : Int) = r := by omega
        rw [if_pos (by omega)]
        unfold midB
        rw [if_neg hk, if_pos hk4, List.cons_append, show (32 : UInt8) :: (decDigits r.toNat ++ (withB ++ decDigits n.toNat)) = [32] ++ (decDigits r.toNat ++ (withB ++ decDigits n.toNat)) from rfl, jTk_app]
        dsimp only
        rw [jNum_dig (by omega) hb]
        dsimp only
        rw [jTk_app]
        dsimp only
        rw [hnn]
        dsimp only
        have e1 : jS k r.toNat = 0 := by unfold jS; rw [if_neg hk]
        have e2 : jR k r.toNat = r := by unfold jR; rw [if_pos hk4]; exact hri
        rw [e1, e2, hni, if_pos ⟨rfl, h0⟩]
      · rw [if_neg hk4] at hp; cases hp
/-- The jobs' texts differ. -/
theorem kindB_head {k k' : Int} {u v : List UInt8} (hk : 1 ≤ k ∧ k ≤ 6) (hk' : 1 ≤ k' ∧ k' ≤ 6) (h : kindB k ++ u = kindB k' ++ v) : k = k' := by
  have h1 : k = 1 ∨ k = 2 ∨ k = 3 ∨ k = 4 ∨ k = 5 ∨ k = 6 := by omega
  have h2 : k' = 1 ∨ k' = 2 ∨ k' = 3 ∨ k' = 4 ∨ k' = 5 ∨ k' = 6 := by omega
  rcases h1 with rfl | rfl | rfl | rfl | rfl | rfl <;> rcases h2 with rfl | rfl | rfl | rfl | rfl | rfl <;> first | rfl | (exfalso; simp [kindB] at h)
theorem jobOk_kind {k s r n : Int} (h : jobOk k s r n = true) : 1 ≤ k ∧ k ≤ 6 := by
  unfold jobOk progOk at h
  by_cases h1 : k = 1 ∨ k = 2
  · omega
  · by_cases h2 : k = 3 ∨ k = 5
    · omega
    · by_cases h3 : k = 4 ∨ k = 6
      · omega
      · simp [h1, h2, h3] at h
theorem jobB_inj {k s r n k' s' r' n' : Int} (h : jobOk k s r n = true) (h' : jobOk k' s' r' n' = true) (e : jobB k s r n = jobB k' s' r' n') : (k, s, r, n) = (k', s', r', n') := by
  have hk := kindB_head (jobOk_kind h) (jobOk_kind h') e
  subst hk
  have a := parse_job h
  rw [e, parse_job h'] at a
  exact (Option.some.inj a).symm
end Go.Proofs.YthjnidcmhegoeaaDoor.Abs
