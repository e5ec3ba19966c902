/- Numbers as bytes: what the tests, the writers and the readers of codes return. No statement of the seat is proved here. -/
import Derived.Test.YthjnidcmhegoeaaDoorRows
import Derived.WalkKit
import Derived.WalkSpells
import Derived.WalkLawsBesides
import Derived.Lib.Hide
import Derived.Handy
import Derived.BigQuiet
import Derived.Deep.QuietTactic
import Derived.Test.YthjnidcmhegoeaaDoorLib
import Derived.Test.YthjnidcmhegoeaaDoorOwn
import Derived.Test.YthjnidcmhegoeaaDoorJobs
set_option linter.unusedSimpArgs false
set_option linter.unusedVariables false
namespace Go.Proofs.YthjnidcmhegoeaaDoor
open Go.RowKit

/-! ## Codes -/
theorem sz_int (w : World) : (sizeOf 3).run Tryd.prog w = .ok 1 w := by kernel_rfl
theorem el_int : El Tryd.prog 44 3 1 8 (.int .i64 0) := ⟨Tryd.underlying44, info_parts (by kernel_rfl), rfl, by omega⟩

def byteOk (z : Int) : Bool := decide (0 ≤ z) && decide (z ≤ 255)
def bytesOk (l : List Int) : Bool := decide (l.length ≤ 2000) && l.all byteOk

set_option maxRecDepth 100000 in
set_option maxHeartbeats 400000 in
theorem implBytesValid (ao : Option Addr) (b o c : Nat) (xs : List Int) (w : World) (hl : xs.length ≤ maxLen) (ha : At ao b o xs.length) (h : Ints w b o xs) :
    Calls Tryd.prog 83 #[.slice ao xs.length c] w fun e w' => e = .returned (.bool (bytesOk xs)) ∧ w = w' := by
  unfold maxLen at hl
  have hix := ha.ix (c := c) Tryd.underlying44 sz_int
  by_cases h2 : xs.length ≤ 2000
  · have HR : Hid (bytesOk xs = (xs.drop 0).all byteOk) := by simp [Hid, bytesOk, h2]
    go_enter Tryd.func83, Tryd.ntmps83
    go_wp2
    go_loop [4, 10] (fun _ i => ∃ k : Nat, k ≤ xs.length ∧ i = .int .i64 k ∧ Hid (bytesOk xs = (xs.drop k).all byteOk)) (fun _ i => xs.length - (intOf i).toNat)
    case atStart => exact ⟨0, Nat.zero_le _, rfl, HR⟩
    case round =>
      obtain ⟨k, hk, rfl, HP⟩ := hrel
      clear HR
      by_cases hlt : k < xs.length
      · have hc := h k hlt
        have HD : Hid (xs.drop k = xs[k] :: xs.drop (k + 1)) := List.drop_eq_getElem_cons hlt
        go_wp2
        · go_ret
          have HB : byteOk xs[k] = false := by simp [byteOk]; intros; omega
          exact ⟨ret_bool (by rw [HP.out, HD.out, List.all_cons, HB, Bool.false_and]), rfl⟩
        · go_round
          case rel =>
            have HB : byteOk xs[k] = true := by simp [byteOk]; omega
            exact ⟨k + 1, by omega, by go_num, by have h1 := HP.out; rw [HD.out, List.all_cons, HB, Bool.true_and] at h1; exact h1⟩
          case measure => simp [intOf]; omega
        · go_ret
          have HB : byteOk xs[k] = false := by simp [byteOk]; intros; omega
          exact ⟨ret_bool (by rw [HP.out, HD.out, List.all_cons, HB, Bool.false_and]), rfl⟩
      · go_wp2
        go_ret
        exact ⟨ret_bool (by rw [HP.out, List.drop_of_length_le (by omega)]; rfl), rfl⟩
  · go_enter Tryd.func83, Tryd.ntmps83
    go_wp2
    go_ret
    exact ⟨ret_bool (by simp [bytesOk, h2]), rfl⟩

/-! ### sums -/
def sumStep (s z : Int) : Int := (31 * s + z + 1) % 251
def sumOf (l : List Int) : Int := if bytesOk l then l.foldl sumStep 7 else -1
theorem sumStep_bd (s z : Int) : 0 ≤ sumStep s z ∧ sumStep s z ≤ 250 := by unfold sumStep; omega
theorem bytesOk_get {l : List Int} (h : bytesOk l = true) (k : Nat) (hk : k < l.length) : 0 ≤ l[k] ∧ l[k] ≤ 255 := by
  simp [bytesOk] at h
  have := h.2 l[k] (List.getElem_mem hk)
  simpa [byteOk] using this
theorem bytesOk_len {l : List Int} (h : bytesOk l = true) : l.length ≤ 2000 := by
  simp [bytesOk] at h
  exact h.1

set_option maxRecDepth 100000 in
set_option maxHeartbeats 400000 in
theorem implCheckSum (ao : Option Addr) (b o c : Nat) (xs : List Int) (w : World) (hl : xs.length ≤ maxLen) (ha : At ao b o xs.length) (h : Ints w b o xs) :
    Calls Tryd.prog 52 #[.slice ao xs.length c] w fun e w' => e = .returned (.int .i64 (sumOf xs)) ∧ w = w' := by
  have hix := ha.ix (c := c) Tryd.underlying44 sz_int
  cases hv : bytesOk xs
  · go_enter Tryd.func52, Tryd.ntmps52
    go_wp2_with (first | (go_at_call 83; refine (implBytesValid ao b o c xs w hl ha h).mono ?_; rw [hv]; rintro e w1 ⟨rfl, rfl⟩))
    go_ret
    exact ⟨ret_int (by simp [sumOf, hv]), rfl⟩
  · have hl2 := bytesOk_len hv
    have HR : Hid (sumOf xs = (xs.drop 0).foldl sumStep 7) := by simp [Hid, sumOf, hv]
    have HV := Lib.hid hv
    clear hv
    go_enter Tryd.func52, Tryd.ntmps52
    go_wp2_with fail
    refine (implBytesValid ao b o c xs w hl ha h).mono ?_
    rw [HV.out]
    rintro e w1 ⟨rfl, rfl⟩
    unfold maxLen at hl
    go_wp2
    go_loop [3, 11] (fun s i => ∃ (k : Nat) (t : Int), k ≤ xs.length ∧ i = .int .i64 k ∧ s = .int .i64 t ∧ 0 ≤ t ∧ t ≤ 250 ∧ Hid (sumOf xs = (xs.drop k).foldl sumStep t)) (fun _ i => xs.length - (intOf i).toNat)
    case atStart => exact ⟨0, 7, Nat.zero_le _, rfl, rfl, by omega, by omega, HR⟩
    case round =>
      obtain ⟨k, t, hk, rfl, rfl, ht0, ht1, HP⟩ := hrel
      clear HR
      by_cases hlt : k < xs.length
      · have hc := h k hlt
        have HD : Hid (xs.drop k = xs[k] :: xs.drop (k + 1)) := List.drop_eq_getElem_cons hlt
        obtain ⟨hb0, hb1⟩ := bytesOk_get HV.out k hlt
        go_wp2
        go_round
        case rel => exact ⟨k + 1, sumStep t xs[k], by omega, by go_num, rfl, (sumStep_bd _ _).1, (sumStep_bd _ _).2, by have h1 := HP.out; rw [HD.out, List.foldl_cons] at h1; exact h1⟩
        case measure => simp [intOf]; omega
      · go_wp2
        go_ret
        exact ⟨ret_int (by rw [HP.out, List.drop_of_length_le (by omega)]; rfl), rfl⟩
/-! ## Codes2 -/
theorem drop_eq_iff {xs ys : List Int} {k : Nat} (h1 : k < xs.length) (h2 : k < ys.length) : (xs.drop k = ys.drop k) = (xs[k] = ys[k] ∧ xs.drop (k + 1) = ys.drop (k + 1)) := by
  rw [List.drop_eq_getElem_cons h1, List.drop_eq_getElem_cons h2, List.cons.injEq]

set_option maxRecDepth 100000 in
set_option maxHeartbeats 600000 in
theorem lawsEqIntS (ao bo : Option Addr) (b o c b' o' c' : Nat) (xs ys : List Int) (w : World) (hl : xs.length ≤ maxLen) (hl' : ys.length ≤ maxLen) (ha : At ao b o xs.length) (h : Ints w b o xs)
    (ha' : At bo b' o' ys.length) (h' : Ints w b' o' ys) :
    Calls Tryd.prog 25 #[.slice ao xs.length c, .slice bo ys.length c'] w fun e w' => e = .returned (.bool (decide (xs = ys))) ∧ Below w.heap.size w w' := by
  unfold maxLen at hl hl'
  have hix := ha.ix (c := c) Tryd.underlying44 sz_int
  have hix' := ha'.ix (c := c') Tryd.underlying44 sz_int
  by_cases hn : xs.length = ys.length
  · have HN := Lib.hid hn
    have hn1 : ((xs.length : Int) != (ys.length : Int)) = false := by rw [hn]; simp
    clear hn
    go_enter Tryd.func25, Tryd.ntmps25
    go_wp2
    go_loopw [5] (fun i wr => ∃ k m : Nat, k ≤ xs.length ∧ i = .int .i64 k ∧ wr = w.drewN m ∧ Hid ((xs = ys) ↔ (xs.drop k = ys.drop k))) (fun i _ => xs.length - (intOf i).toNat)
    case atStart => exact ⟨0, 0, Nat.zero_le _, rfl, rfl, by simp [Hid]⟩
    case round =>
      obtain ⟨k, m, hk, rfl, rfl, HP⟩ := hrel
      clear hn1
      by_cases hlt : k < xs.length
      · have hlt' : k < ys.length := by have := HN.out; omega
        have hc := h k hlt
        have hc' := h' k hlt'
        have hi1 : (k : Int) < xs.length := by omega
        have hi2 : (k : Int) < ys.length := by omega
        go_wp2
        go_quiet (fail)
        cases hq : (xs[k] != ys[k])
        · have HQ := Lib.hid hq
          go_wp2
          go_roundw
          case rel => exact ⟨k + 1, _, by omega, by go_num, rfl, by unfold Hid; rw [HP.out, drop_eq_iff hlt hlt']; have := HQ.out; simp at this; simp [this]⟩
          case measure => simp [intOf]; omega
        · have HQ := Lib.hid hq
          go_wp2
          go_ret
          exact ⟨ret_bool (by have h1 := HP.out; rw [drop_eq_iff hlt hlt'] at h1; have := HQ.out; simp at this; simp [h1, this]), (by repeat' (first | (with_reducible exact Below.refl _ _) | (with_reducible assumption) | (with_reducible refine Below.alloc ?_ ?_ _) | (with_reducible refine Below.drew ?_) | (with_reducible refine below_drewN ?_ _) | (with_reducible refine Below.setCell ?_ ?_ _) | (refine bstep (by with_reducible assumption) ?_) | (refine bstep2 (by with_reducible assumption) (by first | omega | (simp; done) | (simp; omega)) ?_) | go_size))⟩
      · go_wp2
        go_ret
        exact ⟨ret_bool (by have h1 := HP.out; rw [List.drop_of_length_le (by omega), List.drop_of_length_le (by have := HN.out; omega)] at h1; simp [h1]), (by repeat' (first | (with_reducible exact Below.refl _ _) | (with_reducible assumption) | (with_reducible refine Below.alloc ?_ ?_ _) | (with_reducible refine Below.drew ?_) | (with_reducible refine below_drewN ?_ _) | (with_reducible refine Below.setCell ?_ ?_ _) | (refine bstep (by with_reducible assumption) ?_) | (refine bstep2 (by with_reducible assumption) (by first | omega | (simp; done) | (simp; omega)) ?_) | go_size))⟩
  · have hn1 : ((xs.length : Int) != (ys.length : Int)) = true := by simp; omega
    go_enter Tryd.func25, Tryd.ntmps25
    go_wp2
    go_ret
    exact ⟨ret_bool (by simp; intro h; rw [h] at hn; exact hn rfl), Below.refl _ _⟩

set_option maxRecDepth 100000 in
set_option maxHeartbeats 600000 in
theorem lawsSameInts (ao bo : Option Addr) (b o c b' o' c' : Nat) (xs ys : List Int) (w : World) (hl : xs.length ≤ maxLen) (hl' : ys.length ≤ maxLen) (ha : At ao b o xs.length) (h : Ints w b o xs)
    (ha' : At bo b' o' ys.length) (h' : Ints w b' o' ys) :
    Calls Tryd.prog 31 #[.slice ao xs.length c, .slice bo ys.length c'] w fun e w' => e = .returned (.bool (decide (xs = ys))) ∧ Below w.heap.size w w' := by
  unfold maxLen at hl hl'
  have hix := ha.ix (c := c) Tryd.underlying44 sz_int
  have hix' := ha'.ix (c := c') Tryd.underlying44 sz_int
  by_cases hn : xs.length = ys.length
  · have HN := Lib.hid hn
    have hn1 : ((xs.length : Int) != (ys.length : Int)) = false := by rw [hn]; simp
    clear hn
    go_enter Tryd.func31, Tryd.ntmps31
    go_wp2
    go_loopw [5] (fun i wr => ∃ k m : Nat, k ≤ xs.length ∧ i = .int .i64 k ∧ wr = w.drewN m ∧ Hid ((xs = ys) ↔ (xs.drop k = ys.drop k))) (fun i _ => xs.length - (intOf i).toNat)
    case atStart => exact ⟨0, 0, Nat.zero_le _, rfl, rfl, by simp [Hid]⟩
    case round =>
      obtain ⟨k, m, hk, rfl, rfl, HP⟩ := hrel
      clear hn1
      by_cases hlt : k < xs.length
      · have hlt' : k < ys.length := by have := HN.out; omega
        have hc := h k hlt
        have hc' := h' k hlt'
        have hi1 : (k : Int) < xs.length := by omega
        have hi2 : (k : Int) < ys.length := by omega
        go_wp2
        go_quiet (fail)
        cases hq : (xs[k] != ys[k])
        · have HQ := Lib.hid hq
          go_wp2
          go_roundw
          case rel => exact ⟨k + 1, _, by omega, by go_num, rfl, by unfold Hid; rw [HP.out, drop_eq_iff hlt hlt']; have := HQ.out; simp at this; simp [this]⟩
          case measure => simp [intOf]; omega
        · have HQ := Lib.hid hq
          go_wp2
          go_ret
          exact ⟨ret_bool (by have h1 := HP.out; rw [drop_eq_iff hlt hlt'] at h1; have := HQ.out; simp at this; simp [h1, this]), (by repeat' (first | (with_reducible exact Below.refl _ _) | (with_reducible assumption) | (with_reducible refine Below.alloc ?_ ?_ _) | (with_reducible refine Below.drew ?_) | (with_reducible refine below_drewN ?_ _) | (with_reducible refine Below.setCell ?_ ?_ _) | (refine bstep (by with_reducible assumption) ?_) | (refine bstep2 (by with_reducible assumption) (by first | omega | (simp; done) | (simp; omega)) ?_) | go_size))⟩
      · go_wp2
        go_ret
        exact ⟨ret_bool (by have h1 := HP.out; rw [List.drop_of_length_le (by omega), List.drop_of_length_le (by have := HN.out; omega)] at h1; simp [h1]), (by repeat' (first | (with_reducible exact Below.refl _ _) | (with_reducible assumption) | (with_reducible refine Below.alloc ?_ ?_ _) | (with_reducible refine Below.drew ?_) | (with_reducible refine below_drewN ?_ _) | (with_reducible refine Below.setCell ?_ ?_ _) | (refine bstep (by with_reducible assumption) ?_) | (refine bstep2 (by with_reducible assumption) (by first | omega | (simp; done) | (simp; omega)) ?_) | go_size))⟩
  · have hn1 : ((xs.length : Int) != (ys.length : Int)) = true := by simp; omega
    go_enter Tryd.func31, Tryd.ntmps31
    go_wp2
    go_ret
    exact ⟨ret_bool (by simp; intro h; rw [h] at hn; exact hn rfl), Below.refl _ _⟩


set_option maxRecDepth 100000 in
set_option maxHeartbeats 400000 in
theorem alive (w : World) : Calls Tryd.prog 16 #[] w fun e w' => e = .returned (.bool true) ∧ Below w.heap.size w w' := by
  go_enter Tryd.func16, Tryd.ntmps16
  go_wp2_with fail
  refine (implCheckSum _ 0 0 0 [] _ (by simp [maxLen]) (.zero _ _ _) (Ints.nil _ _ _)).mono ?_
  rintro e w1 ⟨rfl, rfl⟩
  go_wp2
  go_ret
  exact ⟨rfl, (by repeat' (first | (with_reducible exact Below.refl _ _) | (with_reducible assumption) | (with_reducible refine Below.alloc ?_ ?_ _) | (with_reducible refine Below.drew ?_) | (with_reducible refine below_drewN ?_ _) | (with_reducible refine Below.setCell ?_ ?_ _) | (refine bstep (by with_reducible assumption) ?_) | (refine bstep2 (by with_reducible assumption) (by first | omega | (simp; done) | (simp; omega)) ?_) | go_size))⟩

/-! ### copies, writers -/
def enc (n : Int) : List Int :=
  if n < 0 ∨ 1000000 < n then [] else if n < 128 then [n] else if n < 16384 then [n % 128 + 128, n / 128] else [n % 128 + 128, n / 128 % 128 + 128, n / 128 / 128]
theorem enc_step {m : Int} (h0 : 128 ≤ m) (h1 : m ≤ 1000000) : enc m = (m % 128 + 128) :: enc (m / 128) := by
  unfold enc
  by_cases h : m < 16384
  · rw [if_neg (by omega), if_neg (by omega), if_pos h, if_neg (by omega), if_pos (by omega)]
  · rw [if_neg (by omega), if_neg (by omega), if_neg h, if_neg (by omega), if_neg (by omega), if_pos (by omega)]
theorem enc_last {m : Int} (h0 : 0 ≤ m) (h1 : m < 128) : enc m = [m] := by
  unfold enc
  rw [if_neg (by omega), if_pos h1]
theorem enc_no {m : Int} (h : m < 0 ∨ 1000000 < m) : enc m = [] := by unfold enc; rw [if_pos h]

theorem enc_len (n : Int) : (enc n).length ≤ 3 := by
  unfold enc
  split
  · simp
  · split
    · simp
    · split <;> simp
theorem enc_pos {n : Int} (h0 : 0 ≤ n) (h1 : n ≤ 1000000) : 0 < (enc n).length := by
  unfold enc
  rw [if_neg (by omega)]
  split
  · simp
  · split <;> simp

/-! ### the reader of bytes -/
/-- The number that stands at a list's beginning, and how many bytes it takes. -/
def decF : Nat → Nat → Int → Int → List Int → Option (Int × Nat)
  | 0, _, _, _, _ => none
  | _ + 1, _, _, _, [] => none
  | f + 1, d, n, s, b :: t => if 128 ≤ b then decF f (d + 1) (n + (b - 128) * s) (s * 128) t else if b = 0 ∧ 0 < d then none else if n + b * s ≤ 1000000 then some (n + b * s, d + 1) else none
def dec (l : List Int) : Option (Int × Nat) := decF 3 0 0 1 l

/-- A reader of bytes in block rb: its list, and its place. -/
structure Rdr (w : World) (rb : Nat) (s : Value) (at_ : Int) : Prop where
  c0 : w.cell? ⟨rb, 0, none⟩ = some s
  c1 : w.cell? ⟨rb, 1, none⟩ = some (.int .i64 at_)
  f1 : w.frozen? ⟨rb, 1, none⟩ = false

theorem Rdr.lt {w : World} {rb : Nat} {s : Value} {n : Int} (h : Rdr w rb s n) : rb < w.heap.size := World.block_lt_of_cell? w _ h.c0

theorem Rdr.new (w : World) (s : Value) (n : Int) (T : Nat) : Rdr (w.alloc (.cells #[s, .int .i64 n] T)) w.heap.size s n :=
  ⟨by rw [World.cell?_alloc_at _ _ _ _ rfl]; rfl, by rw [World.cell?_alloc_at _ _ _ _ rfl]; rfl, frozen_new _ _ _ _⟩
theorem Rdr.below {w w' : World} {rb : Nat} {s : Value} {n : Int} {B : Nat} (h : Rdr w rb s n) (hb : Below B w w') (hB : rb < B) : Rdr w' rb s n :=
  ⟨(hb.cell (p := ⟨rb, 0, none⟩) hB).trans h.c0, (hb.cell (p := ⟨rb, 1, none⟩) hB).trans h.c1, (hb.frozen (p := ⟨rb, 1, none⟩) hB).trans h.f1⟩
theorem Rdr.set {w : World} {rb : Nat} {s : Value} {n : Int} (h : Rdr w rb s n) (k : Int) (m : Nat) : Rdr ((w.setCell ⟨rb, 1, none⟩ (.int .i64 k)).drewN m) rb s k :=
  ⟨(World.cell?_setCell_other w _ _ _ (by simp)).trans h.c0, World.cell?_setCell_same w _ _ h.c1, by rw [show (World.drewN (w.setCell ⟨rb, 1, none⟩ (.int .i64 k)) m).frozen? ⟨rb, 1, none⟩ = (w.setCell ⟨rb, 1, none⟩ (.int .i64 k)).frozen? ⟨rb, 1, none⟩ from rfl, World.frozen?_setCell]; exact h.f1⟩

def NumPost (w : World) (rb : Nat) (s : Value) (xs : List Int) (i : Nat) (e : Ending) (w' : World) : Prop :=
  ∃ (v : Int) (ok : Bool) (j : Nat), e = .returned (.tuple #[.int .i64 v, .bool ok]) ∧ Rdr w' rb s (j : Int) ∧ w.grownBy w' (some rb) ∧ (j ≤ xs.length ∨ j = i) ∧
    (∀ n k, dec (xs.drop i) = some (n, k) → ok = true ∧ v = n ∧ j = i + k) ∧ (dec (xs.drop i) = none → ok = false)

theorem Rdr.drewN {w : World} {rb : Nat} {s : Value} {n : Int} (h : Rdr w rb s n) (m : Nat) : Rdr (w.drewN m) rb s n := ⟨h.c0, h.c1, h.f1⟩
theorem numPost_ok {w w' : World} {rb i k : Nat} {s : Value} {xs : List Int} {n : Int} (hd : dec (xs.drop i) = some (n, k)) (b : Bool) (hb : b = true) (v : Int) (hv : v = n) (hR : Rdr w' rb s ((i + k : Nat) : Int)) (hg : w.grownBy w' (some rb))
    (hle : i + k ≤ xs.length ∨ i + k = i) : NumPost w rb s xs i (.returned (.tuple #[.int .i64 v, .bool b])) w' := by
  subst hb hv
  exact ⟨_, _, _, rfl, hR, hg, hle, fun n' k' h => by rw [hd] at h; cases h; exact ⟨rfl, rfl, rfl⟩, fun h => by rw [hd] at h; cases h⟩
theorem numPost_no' {w w' : World} {rb i j : Nat} {s : Value} {xs : List Int} (hd : dec (xs.drop i) = none) (v : Int) (b : Bool) (hb : b = false) (hR : Rdr w' rb s (j : Int)) (hg : w.grownBy w' (some rb))
    (hle : j ≤ xs.length ∨ j = i) : NumPost w rb s xs i (.returned (.tuple #[.int .i64 v, .bool b])) w' := by
  subst hb
  exact ⟨_, _, _, rfl, hR, hg, hle, (fun n' k' h => by (rw [hd] at h; cases h)), fun _ => rfl⟩
theorem numPost_no {w w' : World} {rb i j : Nat} {s : Value} {xs : List Int} (hd : dec (xs.drop i) = none) (v : Int) (hR : Rdr w' rb s (j : Int)) (hg : w.grownBy w' (some rb))
    (hle : j ≤ xs.length ∨ j = i) : NumPost w rb s xs i (.returned (.tuple #[.int .i64 v, .bool false])) w' := numPost_no' hd v false rfl hR hg hle

/-! ### DecodeNumber -/
/-- What DecodeNumber returns: the number and the place behind it, if one stands there. -/
def decAt (xs : List Int) (i : Int) : Option (Int × Int) :=
  if bytesOk xs = true ∧ 0 ≤ i ∧ i < xs.length then (dec (xs.drop i.toNat)).map fun p => (p.1, i + p.2) else none
def decVal : Option (Int × Int) → Value
  | some (n, j) => .tuple #[.int .i64 n, .int .i64 j, .bool true]
  | none => .tuple #[.int .i64 0, .int .i64 0, .bool false]
theorem tup3 {a a' b b' : Int} (h : a = a') (h' : b = b') : Value.tuple #[.int .i64 a, .int .i64 b, .bool true] = .tuple #[.int .i64 a', .int .i64 b', .bool true] := by rw [h, h']

/-! ## Codes3 -/
theorem decAt_no {xs : List Int} {i : Int} (h : bytesOk xs = false ∨ i < 0 ∨ xs.length ≤ i) : decAt xs i = none := by
  unfold decAt
  rw [if_neg]
  rintro ⟨h1, h2, h3⟩
  rcases h with h | h | h
  · rw [h] at h1; cases h1
  · omega
  · omega
theorem decAt_yes {xs : List Int} {i : Nat} (h : bytesOk xs = true) (hi : i < xs.length) : decAt xs i = (dec (xs.drop i)).map fun p => (p.1, (i : Int) + p.2) := by
  unfold decAt
  rw [if_pos ⟨h, by omega, by omega⟩, Int.toNat_natCast]
theorem dec_nil : dec [] = none := rfl

end Go.Proofs.YthjnidcmhegoeaaDoor
