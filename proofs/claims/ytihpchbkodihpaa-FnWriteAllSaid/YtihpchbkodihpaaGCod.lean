/- Numbers, edges and frames as bytes: plain lemmas. No statement of the seat is proved here. -/
import Derived.Test.YtihpchbkodihpaaTy
import Derived.Lib.Hide
import Derived.Test.YtihpchbkodihpaaCodes3
import Derived.Test.YtihpchbkodihpaaFrames2
import Derived.Test.YtihpchbkodihpaaAGraph
import Derived.Test.YtihpchbkodihpaaHopsR
import Derived.Test.YtihpchbkodihpaaGAdd
import Derived.Test.YtihpchbkodihpaaEdges
set_option linter.unusedSimpArgs false
set_option linter.unusedVariables false
namespace Go.Proofs.Ytihpchbkodihpaa.Abs
open Go.RowKit
open R (val row ref)

theorem dec_enc {n : Int} (h0 : 0 ≤ n) (h1 : n ≤ 1000000) (r : List Int) : dec (enc n ++ r) = some (n, (enc n).length) := by
  unfold enc dec
  rw [if_neg (by omega)]
  split
  · simp [decF]
    rw [if_neg (by omega), if_pos h1]
  · split
    · simp only [List.cons_append, List.nil_append, decF]
      rw [if_pos (by omega), if_neg (by omega), if_neg (by omega), if_pos (by omega)]
      simp; omega
    · simp only [List.cons_append, List.nil_append, decF]
      rw [if_pos (by omega), if_pos (by omega), if_neg (by omega), if_neg (by omega), if_pos (by omega)]
      simp; omega
theorem enc_bytes (n : Int) : ∀ z ∈ enc n, 0 ≤ z ∧ z ≤ 255 := by
  unfold enc
  split
  · simp
  · split
    · intro z hz; simp at hz; omega
    · split
      · intro z hz; simp at hz; omega
      · intro z hz; simp at hz; omega
theorem bytesOk_of {l : List Int} (h : ∀ z ∈ l, 0 ≤ z ∧ z ≤ 255) (hl : l.length ≤ 2000) : bytesOk l = true := by
  simp [bytesOk, hl, byteOk]
  intro z hz
  exact h z hz
theorem decAt_enc {n : Int} (h0 : 0 ≤ n) (h1 : n ≤ 1000000) : decAt (enc n) 0 = some (n, ((enc n).length : Int)) := by
  have hp := enc_pos h0 h1
  have := enc_len n
  have h := decAt_yes (i := 0) (bytesOk_of (enc_bytes n) (by omega)) hp
  rw [List.drop_zero] at h
  have h2 := dec_enc h0 h1 []
  rw [List.append_nil] at h2
  rw [h2] at h
  simpa using h
theorem enc1 {n a : Int} (h : n = a) (h0 : 0 ≤ a) (h1 : a < 128) : enc n = [a] := by
  subst h
  unfold enc
  rw [if_neg (by omega), if_pos (by omega)]
theorem enc2 {n a b : Int} (h : n = a - 128 + b * 128) (h0 : 128 ≤ a) (h1 : a ≤ 255) (h2 : 0 < b) (h3 : b < 128) : enc n = [a, b] := by
  unfold enc
  rw [if_neg (by omega), if_neg (by omega), if_pos (by omega), show n % 128 + 128 = a by omega, show n / 128 = b by omega]
theorem enc3 {n a b c : Int} (h : n = a - 128 + (b - 128) * 128 + c * 16384) (h0 : 128 ≤ a) (h1 : a ≤ 255) (h2 : 128 ≤ b) (h3 : b ≤ 255) (h4 : 0 < c) (h5 : n ≤ 1000000) : enc n = [a, b, c] := by
  unfold enc
  rw [if_neg (by omega), if_neg (by omega), if_neg (by omega), show n % 128 + 128 = a by omega, show n / 128 % 128 + 128 = b by omega, show n / 128 / 128 = c by omega]
theorem dec_canon {l : List Int} {n : Int} {k : Nat} (hb : ∀ z ∈ l, 0 ≤ z ∧ z ≤ 255) (h : dec l = some (n, k)) : l.take k = enc n ∧ k ≤ l.length ∧ 0 < k ∧ 0 ≤ n ∧ n ≤ 1000000 := by
  unfold dec at h
  rcases l with _ | ⟨a, l⟩
  · simp [decF] at h
  have ha := hb a (by simp)
  simp only [decF] at h
  by_cases h1 : 128 ≤ a
  · rw [if_pos h1] at h
    rcases l with _ | ⟨b, l⟩
    · simp [decF] at h
    have hb' := hb b (by simp)
    simp only [decF] at h
    by_cases h2 : 128 ≤ b
    · rw [if_pos h2] at h
      rcases l with _ | ⟨c, l⟩
      · simp [decF] at h
      have hc := hb c (by simp)
      simp only [decF] at h
      by_cases h3 : 128 ≤ c
      · rw [if_pos h3] at h; cases h
      rw [if_neg h3] at h
      split at h
      · cases h
      · split at h
        · injection h with h
          injection h with h4 h5
          subst h5
          rename_i hz hle
          refine ⟨?_, by simp, by omega, by omega, by omega⟩
          rw [enc3 (a := a) (b := b) (c := c) (by omega) h1 (by omega) h2 (by omega) (by omega) (by omega)]
          simp
        · cases h
    · rw [if_neg h2] at h
      split at h
      · cases h
      · split at h
        · injection h with h
          injection h with h4 h5
          subst h5
          rename_i hz hle
          refine ⟨?_, by simp, by omega, by omega, by omega⟩
          rw [enc2 (a := a) (b := b) (by omega) h1 (by omega) (by omega) (by omega)]
          simp
        · cases h
  · rw [if_neg h1] at h
    split at h
    · cases h
    · split at h
      · injection h with h
        injection h with h4 h5
        subst h5
        refine ⟨?_, by simp, by omega, by omega, by omega⟩
        rw [enc1 (a := a) (by omega) (by omega) (by omega)]
        simp
      · cases h
theorem decAt_canon {xs : List Int} {i n j : Int} (h : decAt xs i = some (n, j)) : 0 ≤ i ∧ i < j ∧ j ≤ xs.length ∧ (xs.drop i.toNat).take (j.toNat - i.toNat) = enc n := by
  unfold decAt at h
  split at h
  · rename_i hc
    obtain ⟨h1, h2, h3⟩ := hc
    cases hd : dec (xs.drop i.toNat) with
    | none => rw [hd] at h; cases h
    | some p =>
      obtain ⟨m, k⟩ := p
      rw [hd] at h
      simp at h
      obtain ⟨rfl, rfl⟩ := h
      have hb : ∀ z ∈ xs.drop i.toNat, 0 ≤ z ∧ z ≤ 255 := fun z hz => by
        obtain ⟨q, hq, rfl⟩ := List.getElem_of_mem (List.mem_of_mem_drop hz)
        exact bytesOk_get h1 q hq
      obtain ⟨c1, c2, c3, c4, c5⟩ := dec_canon hb hd
      rw [List.length_drop] at c2
      refine ⟨h2, by omega, by omega, ?_⟩
      rw [show (i + (k : Int)).toNat - i.toNat = k by omega]
      exact c1
  · cases h
def fits (n : Int) : Bool := decide (0 ≤ n ∧ n ≤ 1000000)
def edgeB (a b c : Int) : List Int := if fits a && fits b && fits c then enc a ++ enc b ++ enc c else []
theorem decAt_canon2 {xs : List Int} {i n j : Int} (h : decAt xs i = some (n, j)) : 0 ≤ i ∧ i < j ∧ j ≤ xs.length ∧ (xs.drop i.toNat).take (j.toNat - i.toNat) = enc n ∧ fits n = true := by
  obtain ⟨h1, h2, h3, h4⟩ := decAt_canon h
  refine ⟨h1, h2, h3, h4, ?_⟩
  by_cases hf : 0 ≤ n ∧ n ≤ 1000000
  · simp [fits, hf]
  · exfalso
    rw [enc_no (by omega)] at h4
    have := congrArg List.length h4
    simp at this
    omega
theorem readE_canon {xs : List Int} {a b c : Int} (h : readE xs = some (a, b, c)) : edgeB a b c = xs := by
  unfold readE at h
  split at h
  · rename_i a1 i h1
    split at h
    · rename_i b1 j h2
      split at h
      · rename_i c1 e h3
        split at h
        · rename_i he
          simp at h
          obtain ⟨rfl, rfl, rfl⟩ := h
          obtain ⟨p1, p2, p3, p4, p5⟩ := decAt_canon2 h1
          obtain ⟨q1, q2, q3, q4, q5⟩ := decAt_canon2 h2
          obtain ⟨r1, r2, r3, r4, r5⟩ := decAt_canon2 h3
          obtain ⟨I, rfl⟩ := Int.eq_ofNat_of_zero_le q1
          obtain ⟨J, rfl⟩ := Int.eq_ofNat_of_zero_le r1
          subst he
          unfold edgeB
          rw [if_pos (by simp [p5, q5, r5]), ← p4, ← q4, ← r4]
          simp only [Int.toNat_natCast, Int.toNat_zero, List.drop_zero, Nat.sub_zero]
          have e1 : xs.take I ++ (xs.drop I).take (J - I) = xs.take J := by
            conv => rhs; rw [show J = I + (J - I) by omega, List.take_add]
          rw [e1]
          have e2 : (xs.drop J).take (xs.length - J) = xs.drop J := List.take_of_length_le (by simp)
          rw [e2, List.take_append_drop]
        · cases h
      · cases h
    · cases h
  · cases h
theorem enc_one {n : Int} (h0 : 0 ≤ n) (h1 : n ≤ 1000000) {l r : List Int} (hb : bytesOk (l ++ (enc n ++ r)) = true) : decAt (l ++ (enc n ++ r)) (l.length : Int) = some (n, ((l.length + (enc n).length : Nat) : Int)) := by
  have hp := enc_pos h0 h1
  rw [decAt_yes hb (by simp; omega), List.drop_left, dec_enc h0 h1 r]
  simp
theorem readE_edgeB {a b c : Int} (ha : fits a = true) (hb : fits b = true) (hc : fits c = true) : readE (enc a ++ enc b ++ enc c) = some (a, b, c) := by
  simp only [fits, decide_eq_true_eq] at ha hb hc
  have h1 := enc_len a
  have h2 := enc_len b
  have h3 := enc_len c
  have hok : bytesOk (enc a ++ enc b ++ enc c) = true := bytesOk_of (fun z hz => by
    simp only [List.mem_append] at hz
    rcases hz with (hz | hz) | hz
    · exact enc_bytes a z hz
    · exact enc_bytes b z hz
    · exact enc_bytes c z hz) (by simp; omega)
  have d1 := enc_one (l := []) (r := enc b ++ enc c) ha.1 ha.2 (by simpa using hok)
  have d2 := enc_one (l := enc a) (r := enc c) hb.1 hb.2 (by simpa using hok)
  have d3 := enc_one (l := enc a ++ enc b) (r := []) hc.1 hc.2 (by simpa using hok)
  simp only [List.nil_append, List.append_nil, List.length_nil, List.append_assoc, Nat.zero_add, List.length_append] at d1 d2 d3
  unfold readE
  rw [List.append_assoc, show (0 : Int) = ((0 : Nat) : Int) from rfl, d1]
  simp only []
  rw [d2]
  simp only []
  rw [d3]
  simp only []
  rw [if_pos (by simp; omega)]
theorem edgeB_len (a b c : Int) : (edgeB a b c).length ≤ 9 := by
  have h1 := enc_len a
  have h2 := enc_len b
  have h3 := enc_len c
  unfold edgeB
  split <;> simp <;> omega
theorem edgeB_read {a b c : Int} (h : (edgeB a b c).length ≠ 0) : readE (edgeB a b c) = some (a, b, c) := by
  unfold edgeB at h ⊢
  split at h
  · rename_i hf
    rw [if_pos hf]
    simp only [Bool.and_eq_true] at hf
    exact readE_edgeB hf.1.1 hf.1.2 hf.2
  · simp at h
theorem edgeB_bytes (a b c : Int) : ∀ z ∈ edgeB a b c, 0 ≤ z ∧ z ≤ 255 := by
  unfold edgeB
  split
  · intro z hz
    simp only [List.mem_append] at hz
    rcases hz with (hz | hz) | hz
    · exact enc_bytes a z hz
    · exact enc_bytes b z hz
    · exact enc_bytes c z hz
  · simp
theorem edgeB_pos {a b c : Int} (ha : fits a = true) (hb : fits b = true) (hc : fits c = true) : 1 ≤ (edgeB a b c).length := by
  have h := ha
  simp only [fits, decide_eq_true_eq] at h
  have := enc_pos h.1 h.2
  unfold edgeB
  rw [ha, hb, hc]
  simp
  omega
/-! ## frames -/
theorem sumOf_bd {xs : List Int} (h : bytesOk xs = true) : 0 ≤ sumOf xs ∧ sumOf xs ≤ 250 := by
  unfold sumOf
  rw [if_pos h]
  have : ∀ (l : List Int) (s : Int), 0 ≤ s ∧ s ≤ 250 → 0 ≤ l.foldl sumStep s ∧ l.foldl sumStep s ≤ 250 := by
    intro l
    induction l with
    | nil => intro s hs; exact hs
    | cons z l ih => intro s _; exact ih _ (sumStep_bd s z)
  exact this xs 7 (by omega)
theorem bytesOk_sub {xs ys : List Int} (h : bytesOk xs = true) (hs : ∀ z ∈ ys, z ∈ xs) (hl : ys.length ≤ xs.length) : bytesOk ys = true := by
  have h1 := bytesOk_len h
  refine bytesOk_of (fun z hz => ?_) (by omega)
  obtain ⟨k, hk, rfl⟩ := List.getElem_of_mem (hs z hz)
  exact bytesOk_get h k hk
theorem bytesOk_mem {xs : List Int} (h : bytesOk xs = true) {z : Int} (hz : z ∈ xs) : 0 ≤ z ∧ z ≤ 255 := by
  obtain ⟨k, hk, rfl⟩ := List.getElem_of_mem hz
  exact bytesOk_get h k hk
theorem bodyOk_len {b : List Int} (h : bodyOk b = true) : 1 ≤ b.length ∧ b.length ≤ 100 := by
  unfold bodyOk at h
  simp only [Bool.and_eq_true, decide_eq_true_eq] at h
  exact ⟨h.1.2, h.2⟩
theorem bodyOk_bytes {b : List Int} (h : bodyOk b = true) : bytesOk b = true := by
  unfold bodyOk at h
  simp only [Bool.and_eq_true, decide_eq_true_eq] at h
  exact h.1.1
theorem frame_eq {b : List Int} (h : bodyOk b = true) : frameOf b = (b.length : Int) :: b ++ [sumOf b] := by
  unfold frameOf; rw [if_pos h]
theorem frame_bytes (b : List Int) : ∀ z ∈ frameOf b, 0 ≤ z ∧ z ≤ 255 := by
  intro z hz
  cases h : bodyOk b with
  | false => unfold frameOf at hz; rw [if_neg (by rw [h]; simp)] at hz; cases hz
  | true =>
    rw [frame_eq h] at hz
    have h1 := bodyOk_len h
    have h2 := sumOf_bd (bodyOk_bytes h)
    simp only [List.cons_append, List.mem_cons, List.mem_append, List.not_mem_nil, or_false] at hz
    rcases hz with rfl | hz | rfl
    · omega
    · exact bytesOk_mem (bodyOk_bytes h) hz
    · omega
/-- The record whose frame stands at the beginning. -/
def frHd : List Int → Option (List Int)
  | [] => none
  | n :: r => if 1 ≤ n ∧ n ≤ 100 ∧ n < (r.length : Int) ∧ r.getD n.toNat 0 = sumOf (r.take n.toNat) then some (r.take n.toNat) else none
theorem frHd_frame {b : List Int} (h : bodyOk b = true) (r : List Int) : frHd (frameOf b ++ r) = some b := by
  have h1 := bodyOk_len h
  rw [frame_eq h]
  simp only [List.cons_append, List.append_assoc, List.nil_append, frHd]
  have e1 : ((b.length : Int)).toNat = b.length := by omega
  rw [e1]
  have e2 : (b ++ (sumOf b :: r)).take b.length = b := by simp
  have e3 : (b ++ (sumOf b :: r)).getD b.length 0 = sumOf b := by simp [List.getD_eq_getElem?_getD]
  rw [e2, e3, if_pos]
  refine ⟨by omega, by omega, ?_, rfl⟩
  simp
  omega
theorem frHd_some {xs b : List Int} (hx : bytesOk xs = true) (h : frHd xs = some b) : bodyOk b = true ∧ ∃ r, xs = frameOf b ++ r := by
  cases xs with
  | nil => cases h
  | cons n r =>
    simp only [frHd] at h
    split at h
    · rename_i hc
      obtain ⟨h1, h2, h3, h4⟩ := hc
      injection h with h
      subst h
      obtain ⟨N, rfl⟩ := Int.eq_ofNat_of_zero_le (show 0 ≤ n by omega)
      simp only [Int.toNat_natCast] at h4 ⊢
      have hN : N < r.length := by omega
      have hl : (r.take N).length = N := by rw [List.length_take]; omega
      have hb : bytesOk (r.take N) = true := bytesOk_sub hx (fun z hz => List.mem_cons_of_mem _ (List.mem_of_mem_take hz)) (by rw [hl, List.length_cons]; omega)
      have ho : bodyOk (r.take N) = true := by unfold bodyOk; rw [hb, hl]; simp; omega
      refine ⟨ho, r.drop (N + 1), ?_⟩
      rw [frame_eq ho, hl, ← h4]
      rw [List.getD_eq_getElem?_getD, List.getElem?_eq_getElem hN, Option.getD_some]
      simp only [List.cons_append, List.append_assoc, List.nil_append, List.cons.injEq, true_and]
      rw [← List.drop_eq_getElem_cons hN, List.take_append_drop]
    · cases h
/-- The records whose frames stand one behind the other, and how many bytes they take. -/
def scan : Nat → List Int → List (List Int) × Nat
  | 0, _ => ([], 0)
  | f + 1, xs => match frHd xs with
    | none => ([], 0)
    | some b => (b :: (scan f (xs.drop (b.length + 2))).1, b.length + 2 + (scan f (xs.drop (b.length + 2))).2)
def scanF (xs : List Int) : List (List Int) × Nat := scan (xs.length + 1) xs
theorem scan_fuel : ∀ (f : Nat) (xs : List Int), xs.length < f → scan f xs = scan (xs.length + 1) xs
  | 0, xs, h => by omega
  | f + 1, xs, h => by
    simp only [scan]
    cases hh : frHd xs with
    | none => rfl
    | some b =>
      simp only
      have hd : (xs.drop (b.length + 2)).length < xs.length := by
        cases xs with
        | nil => cases hh
        | cons n r => simp; omega
      rw [scan_fuel f _ (by omega), scan_fuel xs.length _ hd]
theorem scanF_none {xs : List Int} (h : frHd xs = none) : scanF xs = ([], 0) := by unfold scanF; simp only [scan, h]
theorem scanF_some {xs b : List Int} (h : frHd xs = some b) : scanF xs = (b :: (scanF (xs.drop (b.length + 2))).1, b.length + 2 + (scanF (xs.drop (b.length + 2))).2) := by
  have hd : (xs.drop (b.length + 2)).length < xs.length := by
    cases xs with
    | nil => cases h
    | cons n r => simp; omega
  have e := scan_fuel xs.length _ hd
  unfold scanF
  rw [← e]
  simp only [scan, h]
/-- The frames of records, one behind the other. -/
def joined (bs : List (List Int)) : List Int := bs.flatMap frameOf
theorem joined_cons (b : List Int) (bs : List (List Int)) : joined (b :: bs) = frameOf b ++ joined bs := rfl
theorem joined_app (a b : List (List Int)) : joined (a ++ b) = joined a ++ joined b := by unfold joined; rw [List.flatMap_append]
theorem joined_bytes (bs : List (List Int)) : ∀ z ∈ joined bs, 0 ≤ z ∧ z ≤ 255 := by
  intro z hz
  obtain ⟨b, _, hz⟩ := List.mem_flatMap.1 hz
  exact frame_bytes b z hz
theorem scanF_joined : ∀ (bs : List (List Int)) (r : List Int), (∀ b ∈ bs, bodyOk b = true) → scanF (joined bs ++ r) = (bs ++ (scanF r).1, (joined bs).length + (scanF r).2)
  | [], r, _ => by simp [joined]
  | b :: bs, r, h => by
    have hb := h b (by simp)
    have ih := scanF_joined bs r (fun x hx => h x (by simp [hx]))
    have hf := frame_pos hb
    rw [joined_cons, List.append_assoc, scanF_some (frHd_frame hb _)]
    have : (frameOf b ++ (joined bs ++ r)).drop (b.length + 2) = joined bs ++ r := by rw [← hf, List.drop_left]
    rw [this, ih]
    simp only [List.cons_append, List.length_append, hf, Prod.mk.injEq, true_and]
    omega
theorem scanF_inv : ∀ (n : Nat) (xs : List Int), xs.length ≤ n → bytesOk xs = true → (∀ b ∈ (scanF xs).1, bodyOk b = true) ∧ (scanF xs).2 = (joined (scanF xs).1).length ∧ ∃ r, xs = joined (scanF xs).1 ++ r ∧ frHd r = none
  | n, xs, hn, hx => by
    cases hh : frHd xs with
    | none => rw [scanF_none hh]; exact ⟨by simp, rfl, xs, rfl, hh⟩
    | some b =>
      obtain ⟨hb, r, hr⟩ := frHd_some hx hh
      have hf := frame_pos hb
      have hd : xs.drop (b.length + 2) = r := by rw [hr, ← hf, List.drop_left]
      have hlen : xs.length = b.length + 2 + r.length := by rw [hr, List.length_append, hf]
      cases n with
      | zero => omega
      | succ n =>
        obtain ⟨i1, i2, r', i3, i4⟩ := scanF_inv n r (by omega) (bytesOk_sub hx (fun z hz => by rw [hr]; simp [hz]) (by omega))
        rw [scanF_some hh, hd]
        refine ⟨?_, ?_, r', ?_, i4⟩
        · intro z hz
          simp only [List.mem_cons] at hz
          rcases hz with rfl | hz
          · exact hb
          · exact i1 z hz
        · simp only [joined_cons, List.length_append, hf, i2]
        · conv => lhs; rw [hr]
          simp only [joined_cons, List.append_assoc]
          rw [← i3]
theorem scanF_all {xs : List Int} (hx : bytesOk xs = true) (h : (scanF xs).2 = xs.length) : xs = joined (scanF xs).1 := by
  obtain ⟨h1, h2, r, h3, h4⟩ := scanF_inv xs.length xs (Nat.le_refl _) hx
  have h5 := congrArg List.length h3
  rw [List.length_append] at h5
  have : r = [] := by cases r with | nil => rfl | cons a r => simp at h5; omega
  rw [this, List.append_nil] at h3
  exact h3
theorem scanF_le {xs : List Int} (hx : bytesOk xs = true) : (scanF xs).2 ≤ xs.length := by
  obtain ⟨h1, h2, r, h3, h4⟩ := scanF_inv xs.length xs (Nat.le_refl _) hx
  have h5 := congrArg List.length h3
  rw [List.length_append] at h5
  omega
/-- The frames of records, if all have one and there is room. -/
def joinF : List (List Int) → List Int → Option (List Int)
  | [], acc => some acc
  | b :: bs, acc => if bodyOk b = true ∧ acc.length + (frameOf b).length ≤ 2000 then joinF bs (acc ++ frameOf b) else none
theorem joinF_some : ∀ {bs : List (List Int)} {acc out : List Int}, joinF bs acc = some out → (∀ b ∈ bs, bodyOk b = true) ∧ out = acc ++ joined bs ∧ (acc.length ≤ 2000 → out.length ≤ 2000)
  | [], acc, out, h => by
    simp only [joinF, Option.some.injEq] at h
    subst h
    exact ⟨by simp, by simp [joined], fun h => h⟩
  | b :: bs, acc, out, h => by
    simp only [joinF] at h
    split at h
    · rename_i hc
      obtain ⟨i1, i2, i3⟩ := joinF_some h
      refine ⟨?_, by rw [i2, joined_cons, List.append_assoc], fun _ => i3 (by rw [List.length_append]; omega)⟩
      intro z hz
      simp only [List.mem_cons] at hz
      rcases hz with rfl | hz
      · exact hc.1
      · exact i1 z hz
    · cases h
theorem joinF_yes : ∀ {bs : List (List Int)} {acc : List Int}, (∀ b ∈ bs, bodyOk b = true) → (acc ++ joined bs).length ≤ 2000 → joinF bs acc = some (acc ++ joined bs)
  | [], acc, _, _ => by simp [joinF, joined]
  | b :: bs, acc, h, hl => by
    rw [joined_cons, ← List.append_assoc] at hl ⊢
    simp only [joinF]
    rw [if_pos ⟨h b (by simp), by simp only [List.length_append] at hl ⊢; omega⟩]
    exact joinF_yes (fun x hx => h x (by simp [hx])) hl
/-! ## graphs as bytes -/
theorem gOk_mC {m : Int} {es : List E3} (h : gOk m es = true) : 0 ≤ m ∧ m ≤ 16 ∧ es.length ≤ 40 := by
  unfold gOk at h; simp at h; omega
def bodiesG (m : Int) (es : List E3) : List (List Int) := enc m :: es.map fun e => edgeB e.1 e.2.1 e.2.2
/-- The bytes of a graph. -/
def bytesG (m : Int) (es : List E3) : List Int := joined (bodiesG m es)
/-- Edges, if all records are some. -/
def edgesB : List (List Int) → Option (List E3)
  | [] => some []
  | b :: bs => match readE b, edgesB bs with
    | some e, some es => some (e :: es)
    | _, _ => none
/-- The graph that records are. -/
def graphB : List (List Int) → Option (Int × List E3)
  | [] => none
  | b :: bs => match decAt b 0, edgesB bs with
    | some (n, j), some es => if j = (b.length : Int) ∧ gOk n es = true then some (n, es) else none
    | _, _ => none
/-- The graph that bytes are. -/
def readG (xs : List Int) : Option (Int × List E3) := if bytesOk xs = true ∧ (scanF xs).2 = xs.length then graphB (scanF xs).1 else none
theorem edgesB_canon : ∀ {bs : List (List Int)} {es : List E3}, edgesB bs = some es → bs = es.map fun e => edgeB e.1 e.2.1 e.2.2
  | [], es, h => by simp only [edgesB, Option.some.injEq] at h; subst h; rfl
  | b :: bs, es, h => by
    simp only [edgesB] at h
    split at h
    · rename_i e es' h1 h2
      simp only [Option.some.injEq] at h
      subst h
      obtain ⟨a, b', c⟩ := e
      rw [List.map_cons, ← edgesB_canon h2, readE_canon h1]
    · cases h
theorem edgesB_map : ∀ {es : List E3}, (∀ e ∈ es, fits e.1 = true ∧ fits e.2.1 = true ∧ fits e.2.2 = true) → edgesB (es.map fun e => edgeB e.1 e.2.1 e.2.2) = some es
  | [], _ => rfl
  | e :: es, h => by
    obtain ⟨a, b, c⟩ := e
    obtain ⟨h1, h2, h3⟩ := h (a, b, c) (by simp)
    have hp := edgeB_pos h1 h2 h3
    simp only [List.map_cons, edgesB]
    have hne : (edgeB a b c).length ≠ 0 := Nat.ne_of_gt hp
    rw [edgeB_read hne, edgesB_map (fun e he => h e (by simp [he]))]
theorem graphB_canon {bs : List (List Int)} {m : Int} {es : List E3} (h : graphB bs = some (m, es)) : bs = bodiesG m es ∧ gOk m es = true := by
  cases bs with
  | nil => cases h
  | cons b bs =>
    simp only [graphB] at h
    split at h
    · rename_i n j es' h1 h2
      split at h
      · rename_i hc
        simp only [Option.some.injEq, Prod.mk.injEq] at h
        obtain ⟨rfl, rfl⟩ := h
        obtain ⟨p1, p2, p3, p4, p5⟩ := decAt_canon2 h1
        refine ⟨?_, hc.2⟩
        unfold bodiesG
        rw [edgesB_canon h2, ← p4, hc.1]
        simp
      · cases h
    · cases h
theorem gOk_fits {m : Int} {es : List E3} (h : gOk m es = true) : ∀ e ∈ es, fits e.1 = true ∧ fits e.2.1 = true ∧ fits e.2.2 = true := by
  have hm := gOk_mC h
  have hI := gOk_edges h
  intro e he
  obtain ⟨⟨a1, a2⟩, ⟨b1, b2⟩, c⟩ := hI e he
  refine ⟨?_, ?_, ?_⟩ <;> simp only [fits, decide_eq_true_eq] <;> omega
theorem graphB_bodies {m : Int} {es : List E3} (h : gOk m es = true) : graphB (bodiesG m es) = some (m, es) := by
  have hm := gOk_mC h
  have := decAt_enc (n := m) (by omega) (by omega)
  unfold bodiesG
  simp only [graphB]
  rw [this, edgesB_map (gOk_fits h)]
  simp [h]
theorem bodiesG_ok {m : Int} {es : List E3} (h : gOk m es = true) : ∀ b ∈ bodiesG m es, bodyOk b = true := by
  have hm := gOk_mC h
  intro b hb
  unfold bodiesG at hb
  simp only [List.mem_cons, List.mem_map] at hb
  have key : ∀ b : List Int, (∀ z ∈ b, 0 ≤ z ∧ z ≤ 255) → 1 ≤ b.length → b.length ≤ 9 → bodyOk b = true := fun b h1 h2 h3 => by
    unfold bodyOk
    rw [bytesOk_of h1 (by omega)]
    simp; omega
  rcases hb with rfl | ⟨e, he, rfl⟩
  · exact key _ (enc_bytes m) (enc_pos (by omega) (by omega)) (by have := enc_len m; omega)
  · obtain ⟨h1, h2, h3⟩ := gOk_fits h e he
    exact key _ (edgeB_bytes _ _ _) (edgeB_pos h1 h2 h3) (edgeB_len _ _ _)
theorem joined_le (bs : List (List Int)) (h : ∀ b ∈ bs, b.length ≤ 9) : (joined bs).length ≤ 11 * bs.length := by
  induction bs with
  | nil => simp [joined]
  | cons b bs ih =>
    have h1 := h b (by simp)
    have h2 := ih (fun x hx => h x (by simp [hx]))
    rw [joined_cons, List.length_append, List.length_cons]
    have : (frameOf b).length ≤ 11 := by
      unfold frameOf
      split <;> simp <;> omega
    omega
theorem bytesG_len {m : Int} {es : List E3} (h : gOk m es = true) : (bytesG m es).length ≤ 451 := by
  have h1 := gOk_len h
  have := joined_le (bodiesG m es) (fun b hb => by
    unfold bodiesG at hb
    simp only [List.mem_cons, List.mem_map] at hb
    rcases hb with rfl | ⟨e, he, rfl⟩
    · have := enc_len m; omega
    · exact edgeB_len _ _ _)
  unfold bytesG
  have e : (bodiesG m es).length = es.length + 1 := by simp [bodiesG]
  omega
theorem bytesG_ok {m : Int} {es : List E3} (h : gOk m es = true) : bytesOk (bytesG m es) = true := bytesOk_of (joined_bytes _) (by have := bytesG_len h; omega)
theorem bytesG_join {m : Int} {es : List E3} (h : gOk m es = true) : joinF (bodiesG m es) [] = some (bytesG m es) := by
  have := joinF_yes (acc := []) (bodiesG_ok h) (by have := bytesG_len h; unfold bytesG at this; simpa using (by omega))
  simpa [bytesG] using this
theorem scan_bytesG {m : Int} {es : List E3} (h : gOk m es = true) : scanF (bytesG m es) = (bodiesG m es, (bytesG m es).length) := by
  have := scanF_joined (bodiesG m es) [] (bodiesG_ok h)
  rw [List.append_nil, scanF_none (xs := []) rfl] at this
  simpa [bytesG] using this
theorem readG_bytesG {m : Int} {es : List E3} (h : gOk m es = true) : readG (bytesG m es) = some (m, es) := by
  unfold readG
  rw [scan_bytesG h, if_pos ⟨bytesG_ok h, rfl⟩]
  exact graphB_bodies h
theorem readG_canon {xs : List Int} {m : Int} {es : List E3} (h : readG xs = some (m, es)) : xs = bytesG m es ∧ gOk m es = true := by
  unfold readG at h
  split at h
  · rename_i hc
    obtain ⟨h1, h2⟩ := graphB_canon h
    refine ⟨?_, h2⟩
    unfold bytesG
    rw [← h1]
    exact scanF_all hc.1 hc.2
  · cases h
/-- With one byte more no bytes of a graph are some. -/
theorem readG_more {xs : List Int} {m : Int} {es : List E3} (h : readG xs = some (m, es)) : readG (xs ++ [0]) = none := by
  obtain ⟨rfl, hg⟩ := readG_canon h
  unfold readG
  rw [if_neg]
  rintro ⟨_, h2⟩
  have e := scanF_joined (bodiesG m es) [0] (bodiesG_ok hg)
  rw [scanF_none (xs := [0]) (by simp [frHd])] at e
  change scanF (bytesG m es ++ [0]) = _ at e
  rw [e] at h2
  simp [bytesG] at h2
/-- Fewer bytes are those of fewer edges. -/
theorem readG_less {m m' : Int} {es es' : List E3} {k : Nat} (hg : gOk m es = true) (hk : k < (bytesG m es).length) (h : readG ((bytesG m es).take k) = some (m', es')) : es'.length < es.length := by
  obtain ⟨h1, hg'⟩ := readG_canon h
  have e1 := scan_bytesG hg
  have hs : bytesG m es = joined (bodiesG m' es') ++ (bytesG m es).drop k := by
    conv => lhs; rw [← List.take_append_drop k (bytesG m es), h1]
    rfl
  rw [hs, scanF_joined _ _ (bodiesG_ok hg')] at e1
  have e2 := (Prod.mk.inj e1).1
  have e3 := congrArg List.length e2
  have hl : (bodiesG m es).length = es.length + 1 := by simp [bodiesG]
  have hl' : (bodiesG m' es').length = es'.length + 1 := by simp [bodiesG]
  rw [List.length_append, hl, hl'] at e3
  rcases Nat.eq_zero_or_pos (scanF ((bytesG m es).drop k)).1.length with h0 | h0
  · have hn : (scanF ((bytesG m es).drop k)).1 = [] := List.eq_nil_of_length_eq_zero h0
    rw [hn, List.append_nil] at e2
    have e4 : bytesG m es = bytesG m' es' := by unfold bytesG; rw [e2]
    rw [← h1] at e4
    have := congrArg List.length e4
    rw [List.length_take] at this
    omega
  · omega
end Go.Proofs.Ytihpchbkodihpaa.Abs
