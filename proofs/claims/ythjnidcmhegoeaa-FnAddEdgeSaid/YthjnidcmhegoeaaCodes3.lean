/- Numbers as bytes: what the tests, the writers and the readers of codes return. No statement of the seat is proved here. -/
import Derived.Test.YthjnidcmhegoeaaRows
import Derived.WalkKit
import Derived.WalkSpells
import Derived.WalkLawsBesides
import Derived.Lib.Hide
import Derived.Handy
import Derived.BigQuiet
import Derived.Deep.QuietTactic
import Derived.Test.YthjnidcmhegoeaaLib
import Derived.Test.YthjnidcmhegoeaaOwn
import Derived.Test.YthjnidcmhegoeaaJobs
set_option linter.unusedSimpArgs false
set_option linter.unusedVariables false
namespace Go.Proofs.Ythjnidcmhegoeaa
open Go.RowKit

/-! ## Codes -/
theorem sz_int (w : World) : (sizeOf 3).run Try.prog w = .ok 1 w := by kernel_rfl
theorem el_int : El Try.prog 56 3 1 8 (.int .i64 0) := ⟨Try.underlying56, info_parts (by kernel_rfl), rfl, by omega⟩

def byteOk (z : Int) : Bool := decide (0 ≤ z) && decide (z ≤ 255)
def bytesOk (l : List Int) : Bool := decide (l.length ≤ 2000) && l.all byteOk

set_option maxRecDepth 100000 in
set_option maxHeartbeats 400000 in
theorem implBytesValid (ao : Option Addr) (b o c : Nat) (xs : List Int) (w : World) (hl : xs.length ≤ maxLen) (ha : At ao b o xs.length) (h : Ints w b o xs) :
    Calls Try.prog 93 #[.slice ao xs.length c] w fun e w' => e = .returned (.bool (bytesOk xs)) ∧ w = w' := by
  unfold maxLen at hl
  have hix := ha.ix (c := c) Try.underlying56 sz_int
  by_cases h2 : xs.length ≤ 2000
  · have HR : Hid (bytesOk xs = (xs.drop 0).all byteOk) := by simp [Hid, bytesOk, h2]
    go_enter Try.func93, Try.ntmps93
    go_wp2
    go_loop [4, 10] (fun _ i => ∃ k : Nat, k ≤ xs.length ∧ i = .int .i64 k ∧ Hid (bytesOk xs = (xs.drop k).all byteOk)) (fun _ i => xs.length - (intOf i).toNat)
    case atStart => exact ⟨0, Nat.zero_le _, rfl, HR⟩
    case round =>
      obtain ⟨k, hk, rfl, HP⟩ := hrel
      clear HR
      by_cases hlt : k < xs.length
      · have hc := h k hlt
        have HD : Hid (xs.drop k = xs[k] :: xs.drop (k + 1)) := List.drop_eq_getElem_cons hlt
        go_wp2
        · go_ret
          have HB : byteOk xs[k] = false := by simp [byteOk]; intros; omega
          exact ⟨ret_bool (by rw [HP.out, HD.out, List.all_cons, HB, Bool.false_and]), rfl⟩
        · go_round
          case rel =>
            have HB : byteOk xs[k] = true := by simp [byteOk]; omega
            exact ⟨k + 1, by omega, by go_num, by have h1 := HP.out; rw [HD.out, List.all_cons, HB, Bool.true_and] at h1; exact h1⟩
          case measure => simp [intOf]; omega
        · go_ret
          have HB : byteOk xs[k] = false := by simp [byteOk]; intros; omega
          exact ⟨ret_bool (by rw [HP.out, HD.out, List.all_cons, HB, Bool.false_and]), rfl⟩
      · go_wp2
        go_ret
        exact ⟨ret_bool (by rw [HP.out, List.drop_of_length_le (by omega)]; rfl), rfl⟩
  · go_enter Try.func93, Try.ntmps93
    go_wp2
    go_ret
    exact ⟨ret_bool (by simp [bytesOk, h2]), rfl⟩

set_option maxRecDepth 100000 in
set_option maxHeartbeats 400000 in
theorem specBytesValid (ao : Option Addr) (b o c : Nat) (xs : List Int) (w : World) (hl : xs.length ≤ maxLen) (ha : At ao b o xs.length) (h : Ints w b o xs) :
    Calls Try.prog 111 #[.slice ao xs.length c] w fun e w' => e = .returned (.bool (bytesOk xs)) ∧ w = w' := by
  unfold maxLen at hl
  have hix := ha.ix (c := c) Try.underlying56 sz_int
  go_enter Try.func111, Try.ntmps111
  go_wp2
  go_loop [3] (fun i => ∃ k : Nat, k ≤ xs.length ∧ i = .int .i64 k ∧ Hid (xs.all byteOk = (xs.drop k).all byteOk)) (fun i => xs.length - (intOf i).toNat)
  case atStart => exact ⟨0, Nat.zero_le _, rfl, rfl⟩
  case round =>
    obtain ⟨k, hk, rfl, HP⟩ := hrel
    by_cases hlt : k < xs.length
    · have hc := h k hlt
      have HD : Hid (xs.drop k = xs[k] :: xs.drop (k + 1)) := List.drop_eq_getElem_cons hlt
      by_cases hb : 0 ≤ xs[k] ∧ xs[k] ≤ 255
      · go_wp2_with (first | (go_at_call 86; refine (specL1In _ _ _ _).mono ?_; rintro e w1 ⟨rfl, rfl⟩))
        go_round
        case rel =>
          have HB : byteOk xs[k] = true := by simp [byteOk]; omega
          exact ⟨k + 1, by omega, by go_num, by have h1 := HP.out; rw [HD.out, List.all_cons, HB, Bool.true_and] at h1; exact h1⟩
        case measure => simp [intOf]; omega
      · go_wp2_with (first | (go_at_call 86; refine (specL1In _ _ _ _).mono ?_; rintro e w1 ⟨rfl, rfl⟩))
        go_ret
        have HB : byteOk xs[k] = false := by simp [byteOk]; intros; omega
        exact ⟨ret_bool (by unfold bytesOk; rw [HP.out, HD.out, List.all_cons, HB, Bool.false_and, Bool.and_false]), rfl⟩
    · go_wp2
      all_goals
        go_ret
        exact ⟨ret_bool (by unfold bytesOk; rw [HP.out, List.drop_of_length_le (by omega)]; simp; try omega), rfl⟩

/-! ### sums -/
def sumStep (s z : Int) : Int := (31 * s + z + 1) % 251
def sumOf (l : List Int) : Int := if bytesOk l then l.foldl sumStep 7 else -1
theorem sumStep_bd (s z : Int) : 0 ≤ sumStep s z ∧ sumStep s z ≤ 250 := by unfold sumStep; omega
theorem bytesOk_get {l : List Int} (h : bytesOk l = true) (k : Nat) (hk : k < l.length) : 0 ≤ l[k] ∧ l[k] ≤ 255 := by
  simp [bytesOk] at h
  have := h.2 l[k] (List.getElem_mem hk)
  simpa [byteOk] using this
theorem bytesOk_len {l : List Int} (h : bytesOk l = true) : l.length ≤ 2000 := by
  simp [bytesOk] at h
  exact h.1

set_option maxRecDepth 100000 in
set_option maxHeartbeats 400000 in
theorem implCheckSum (ao : Option Addr) (b o c : Nat) (xs : List Int) (w : World) (hl : xs.length ≤ maxLen) (ha : At ao b o xs.length) (h : Ints w b o xs) :
    Calls Try.prog 56 #[.slice ao xs.length c] w fun e w' => e = .returned (.int .i64 (sumOf xs)) ∧ w = w' := by
  have hix := ha.ix (c := c) Try.underlying56 sz_int
  cases hv : bytesOk xs
  · go_enter Try.func56, Try.ntmps56
    go_wp2_with (first | (go_at_call 93; refine (implBytesValid ao b o c xs w hl ha h).mono ?_; rw [hv]; rintro e w1 ⟨rfl, rfl⟩))
    go_ret
    exact ⟨ret_int (by simp [sumOf, hv]), rfl⟩
  · have hl2 := bytesOk_len hv
    have HR : Hid (sumOf xs = (xs.drop 0).foldl sumStep 7) := by simp [Hid, sumOf, hv]
    have HV := Lib.hid hv
    clear hv
    go_enter Try.func56, Try.ntmps56
    go_wp2_with fail
    refine (implBytesValid ao b o c xs w hl ha h).mono ?_
    rw [HV.out]
    rintro e w1 ⟨rfl, rfl⟩
    unfold maxLen at hl
    go_wp2
    go_loop [3, 11] (fun s i => ∃ (k : Nat) (t : Int), k ≤ xs.length ∧ i = .int .i64 k ∧ s = .int .i64 t ∧ 0 ≤ t ∧ t ≤ 250 ∧ Hid (sumOf xs = (xs.drop k).foldl sumStep t)) (fun _ i => xs.length - (intOf i).toNat)
    case atStart => exact ⟨0, 7, Nat.zero_le _, rfl, rfl, by omega, by omega, HR⟩
    case round =>
      obtain ⟨k, t, hk, rfl, rfl, ht0, ht1, HP⟩ := hrel
      clear HR
      by_cases hlt : k < xs.length
      · have hc := h k hlt
        have HD : Hid (xs.drop k = xs[k] :: xs.drop (k + 1)) := List.drop_eq_getElem_cons hlt
        obtain ⟨hb0, hb1⟩ := bytesOk_get HV.out k hlt
        go_wp2
        go_round
        case rel => exact ⟨k + 1, sumStep t xs[k], by omega, by go_num, rfl, (sumStep_bd _ _).1, (sumStep_bd _ _).2, by have h1 := HP.out; rw [HD.out, List.foldl_cons] at h1; exact h1⟩
        case measure => simp [intOf]; omega
      · go_wp2
        go_ret
        exact ⟨ret_int (by rw [HP.out, List.drop_of_length_le (by omega)]; rfl), rfl⟩
/-! ## Codes2 -/
theorem drop_eq_iff {xs ys : List Int} {k : Nat} (h1 : k < xs.length) (h2 : k < ys.length) : (xs.drop k = ys.drop k) = (xs[k] = ys[k] ∧ xs.drop (k + 1) = ys.drop (k + 1)) := by
  rw [List.drop_eq_getElem_cons h1, List.drop_eq_getElem_cons h2, List.cons.injEq]

set_option maxRecDepth 100000 in
set_option maxHeartbeats 600000 in
theorem lawsEqIntS (ao bo : Option Addr) (b o c b' o' c' : Nat) (xs ys : List Int) (w : World) (hl : xs.length ≤ maxLen) (hl' : ys.length ≤ maxLen) (ha : At ao b o xs.length) (h : Ints w b o xs)
    (ha' : At bo b' o' ys.length) (h' : Ints w b' o' ys) :
    Calls Try.prog 66 #[.slice ao xs.length c, .slice bo ys.length c'] w fun e w' => e = .returned (.bool (decide (xs = ys))) ∧ Below w.heap.size w w' := by
  unfold maxLen at hl hl'
  have hix := ha.ix (c := c) Try.underlying56 sz_int
  have hix' := ha'.ix (c := c') Try.underlying56 sz_int
  by_cases hn : xs.length = ys.length
  · have HN := Lib.hid hn
    have hn1 : ((xs.length : Int) != (ys.length : Int)) = false := by rw [hn]; simp
    clear hn
    go_enter Try.func66, Try.ntmps66
    go_wp2
    go_loopw [5] (fun i wr => ∃ k m : Nat, k ≤ xs.length ∧ i = .int .i64 k ∧ wr = w.drewN m ∧ Hid ((xs = ys) ↔ (xs.drop k = ys.drop k))) (fun i _ => xs.length - (intOf i).toNat)
    case atStart => exact ⟨0, 0, Nat.zero_le _, rfl, rfl, by simp [Hid]⟩
    case round =>
      obtain ⟨k, m, hk, rfl, rfl, HP⟩ := hrel
      clear hn1
      by_cases hlt : k < xs.length
      · have hlt' : k < ys.length := by have := HN.out; omega
        have hc := h k hlt
        have hc' := h' k hlt'
        have hi1 : (k : Int) < xs.length := by omega
        have hi2 : (k : Int) < ys.length := by omega
        go_wp2
        go_quiet (fail)
        cases hq : (xs[k] != ys[k])
        · have HQ := Lib.hid hq
          go_wp2
          go_roundw
          case rel => exact ⟨k + 1, _, by omega, by go_num, rfl, by unfold Hid; rw [HP.out, drop_eq_iff hlt hlt']; have := HQ.out; simp at this; simp [this]⟩
          case measure => simp [intOf]; omega
        · have HQ := Lib.hid hq
          go_wp2
          go_ret
          exact ⟨ret_bool (by have h1 := HP.out; rw [drop_eq_iff hlt hlt'] at h1; have := HQ.out; simp at this; simp [h1, this]), (by repeat' (first | (with_reducible exact Below.refl _ _) | (with_reducible assumption) | (with_reducible refine Below.alloc ?_ ?_ _) | (with_reducible refine Below.drew ?_) | (with_reducible refine below_drewN ?_ _) | (with_reducible refine Below.setCell ?_ ?_ _) | (refine bstep (by with_reducible assumption) ?_) | (refine bstep2 (by with_reducible assumption) (by first | omega | (simp; done) | (simp; omega)) ?_) | go_size))⟩
      · go_wp2
        go_ret
        exact ⟨ret_bool (by have h1 := HP.out; rw [List.drop_of_length_le (by omega), List.drop_of_length_le (by have := HN.out; omega)] at h1; simp [h1]), (by repeat' (first | (with_reducible exact Below.refl _ _) | (with_reducible assumption) | (with_reducible refine Below.alloc ?_ ?_ _) | (with_reducible refine Below.drew ?_) | (with_reducible refine below_drewN ?_ _) | (with_reducible refine Below.setCell ?_ ?_ _) | (refine bstep (by with_reducible assumption) ?_) | (refine bstep2 (by with_reducible assumption) (by first | omega | (simp; done) | (simp; omega)) ?_) | go_size))⟩
  · have hn1 : ((xs.length : Int) != (ys.length : Int)) = true := by simp; omega
    go_enter Try.func66, Try.ntmps66
    go_wp2
    go_ret
    exact ⟨ret_bool (by simp; intro h; rw [h] at hn; exact hn rfl), Below.refl _ _⟩

set_option maxRecDepth 100000 in
set_option maxHeartbeats 400000 in
theorem alive (w : World) : Calls Try.prog 18 #[] w fun e w' => e = .returned (.bool true) ∧ Below w.heap.size w w' := by
  go_enter Try.func18, Try.ntmps18
  go_wp2_with fail
  refine (implCheckSum _ 0 0 0 [] _ (by simp [maxLen]) (.zero _ _ _) (Ints.nil _ _ _)).mono ?_
  rintro e w1 ⟨rfl, rfl⟩
  go_wp2
  go_ret
  exact ⟨rfl, (by repeat' (first | (with_reducible exact Below.refl _ _) | (with_reducible assumption) | (with_reducible refine Below.alloc ?_ ?_ _) | (with_reducible refine Below.drew ?_) | (with_reducible refine below_drewN ?_ _) | (with_reducible refine Below.setCell ?_ ?_ _) | (refine bstep (by with_reducible assumption) ?_) | (refine bstep2 (by with_reducible assumption) (by first | omega | (simp; done) | (simp; omega)) ?_) | go_size))⟩

/-! ### copies, writers -/
def enc (n : Int) : List Int :=
  if n < 0 ∨ 1000000 < n then [] else if n < 128 then [n] else if n < 16384 then [n % 128 + 128, n / 128] else [n % 128 + 128, n / 128 % 128 + 128, n / 128 / 128]
theorem enc_step {m : Int} (h0 : 128 ≤ m) (h1 : m ≤ 1000000) : enc m = (m % 128 + 128) :: enc (m / 128) := by
  unfold enc
  by_cases h : m < 16384
  · rw [if_neg (by omega), if_neg (by omega), if_pos h, if_neg (by omega), if_pos (by omega)]
  · rw [if_neg (by omega), if_neg (by omega), if_neg h, if_neg (by omega), if_neg (by omega), if_pos (by omega)]
theorem enc_last {m : Int} (h0 : 0 ≤ m) (h1 : m < 128) : enc m = [m] := by
  unfold enc
  rw [if_neg (by omega), if_pos h1]
theorem enc_no {m : Int} (h : m < 0 ∨ 1000000 < m) : enc m = [] := by unfold enc; rw [if_pos h]

theorem enc_len (n : Int) : (enc n).length ≤ 3 := by
  unfold enc
  split
  · simp
  · split
    · simp
    · split <;> simp
theorem enc_pos {n : Int} (h0 : 0 ≤ n) (h1 : n ≤ 1000000) : 0 < (enc n).length := by
  unfold enc
  rw [if_neg (by omega)]
  split
  · simp
  · split <;> simp

set_option maxRecDepth 100000 in
set_option maxHeartbeats 600000 in
theorem specEncodeNumber (n : Int) (w : World) :
    Calls Try.prog 131 #[.int .i64 n] w fun e w' => ∃ ao c, e = .returned (.slice ao (enc n).length c) ∧ Own w' w.heap.size 3 1 ao (enc n).length c (iv (enc n)) ∧ Below w.heap.size w w' := by
  by_cases hn : 0 ≤ n ∧ n ≤ 1000000
  · obtain ⟨h0, h1⟩ := hn
    go_enter Try.func131, Try.ntmps131
    go_wp2_with (first | (go_at_call 86; refine (specL1In _ _ _ _).mono ?_; rintro e w1 ⟨rfl, rfl⟩))
    go_loopw [0, 3] (fun m v wr => ∃ (k : Int) (xs : List Int) (ao : Option Addr) (l c : Nat), 0 ≤ k ∧ k ≤ 1000000 ∧ m = .int .i64 k ∧ v = .slice ao l c ∧ Own wr w.heap.size 3 1 ao l c (iv xs) ∧ Below w.heap.size w wr ∧ Hid (enc n = xs ++ enc k)) (fun m v _ => (intOf m).toNat)
    case atStart => exact ⟨n, [], some ⟨w.heap.size, 0, none⟩, 0, 0, h0, h1, rfl, rfl, Own.new0 _ _ _ _ (Nat.le_refl _), (by repeat' (first | (with_reducible exact Below.refl _ _) | (with_reducible assumption) | (with_reducible refine Below.alloc ?_ ?_ _) | (with_reducible refine Below.drew ?_) | (with_reducible refine below_drewN ?_ _) | (with_reducible refine Below.setCell ?_ ?_ _) | (refine bstep (by with_reducible assumption) ?_) | (refine bstep2 (by with_reducible assumption) (by first | omega | (simp; done) | (simp; omega)) ?_) | go_size)), rfl⟩
    case round =>
      obtain ⟨k, xs, ao, l, c, hk0, hk1, rfl, rfl, hown, hb, HP⟩ := hrel
      have hcb := hb.size
      have hl : l ≤ 3 := by have h1 := congrArg List.length HP.out; have h2 := hown.length_; have h3 := enc_len n; simp at h1 h2; omega
      by_cases hk : 128 ≤ k
      · have h127 : 127 < k := by omega
        go_wp2_with (first | (at_builtin; refine wp_app _ el_int rfl _ _ rfl w.heap.size rfl (hown.alloc_ _) rfl (Src.new _ _ _ 1 rfl) (by simp [Value.oneCell']) (by simp only [maxLen]; omega) (by omega) (by simp; omega) ?_; intro ao1 c1 w1 hown1 hg1 hat1 hz1))
        go_roundw
        case rel => exact ⟨k / 128, xs ++ [k % 128 + 128], ao1, l + 1, c1, by omega, by omega, rfl, rfl, by simpa [iv] using hown1, (hb.alloc hb.size _).grown hg1 (by simp; omega) (fun g hg => (hown.lt_ g hg).1), by unfold Hid; rw [HP.out, enc_step hk hk1]; simp⟩
        case measure => simp [intOf]; omega
      · have h127 : ¬ 127 < k := by omega
        go_wp2_with (first | (at_builtin; refine wp_app _ el_int rfl _ _ rfl w.heap.size rfl (hown.alloc_ _) rfl (Src.new _ _ _ 1 rfl) (by simp [Value.oneCell']) (by simp only [maxLen]; omega) (by omega) (by simp; omega) ?_; intro ao1 c1 w1 hown1 hg1 hat1 hz1))
        go_ret
        have HE : enc n = xs ++ [k] := by rw [HP.out, enc_last hk0 (by omega)]
        have HL : (enc n).length = l + 1 := by rw [HE]; have := hown.length_; simp at this; simp [this]
        refine ⟨ao1, c1, by rw [HL]; rfl, ?_, (hb.alloc hb.size _).grown hg1 (by simp; omega) (fun g hg => (hown.lt_ g hg).1)⟩
        rw [HL, HE]; simpa [iv] using hown1
  · have hb : n < 0 ∨ 1000000 < n := by omega
    have he := Lib.hid (enc_no hb)
    go_enter Try.func131, Try.ntmps131
    go_wp2_with (first | (go_at_call 86; refine (specL1In _ _ _ _).mono ?_; rintro e w1 ⟨rfl, rfl⟩))
    go_ret
    rw [he.out]
    exact ⟨_, 0, rfl, Own.new0 _ _ _ _ (Nat.le_refl _), (by repeat' (first | (with_reducible exact Below.refl _ _) | (with_reducible assumption) | (with_reducible refine Below.alloc ?_ ?_ _) | (with_reducible refine Below.drew ?_) | (with_reducible refine below_drewN ?_ _) | (with_reducible refine Below.setCell ?_ ?_ _) | (refine bstep (by with_reducible assumption) ?_) | (refine bstep2 (by with_reducible assumption) (by first | omega | (simp; done) | (simp; omega)) ?_) | go_size))⟩


/-! ### the reader of bytes -/
/-- The number that stands at a list's beginning, and how many bytes it takes. -/
def decF : Nat → Nat → Int → Int → List Int → Option (Int × Nat)
  | 0, _, _, _, _ => none
  | _ + 1, _, _, _, [] => none
  | f + 1, d, n, s, b :: t => if 128 ≤ b then decF f (d + 1) (n + (b - 128) * s) (s * 128) t else if b = 0 ∧ 0 < d then none else if n + b * s ≤ 1000000 then some (n + b * s, d + 1) else none
def dec (l : List Int) : Option (Int × Nat) := decF 3 0 0 1 l

/-- A reader of bytes in block rb: its list, and its place. -/
structure Rdr (w : World) (rb : Nat) (s : Value) (at_ : Int) : Prop where
  c0 : w.cell? ⟨rb, 0, none⟩ = some s
  c1 : w.cell? ⟨rb, 1, none⟩ = some (.int .i64 at_)
  f1 : w.frozen? ⟨rb, 1, none⟩ = false

theorem Rdr.lt {w : World} {rb : Nat} {s : Value} {n : Int} (h : Rdr w rb s n) : rb < w.heap.size := World.block_lt_of_cell? w _ h.c0

theorem Rdr.new (w : World) (s : Value) (n : Int) (T : Nat) : Rdr (w.alloc (.cells #[s, .int .i64 n] T)) w.heap.size s n :=
  ⟨by rw [World.cell?_alloc_at _ _ _ _ rfl]; rfl, by rw [World.cell?_alloc_at _ _ _ _ rfl]; rfl, frozen_new _ _ _ _⟩
theorem Rdr.below {w w' : World} {rb : Nat} {s : Value} {n : Int} {B : Nat} (h : Rdr w rb s n) (hb : Below B w w') (hB : rb < B) : Rdr w' rb s n :=
  ⟨(hb.cell (p := ⟨rb, 0, none⟩) hB).trans h.c0, (hb.cell (p := ⟨rb, 1, none⟩) hB).trans h.c1, (hb.frozen (p := ⟨rb, 1, none⟩) hB).trans h.f1⟩
theorem Rdr.set {w : World} {rb : Nat} {s : Value} {n : Int} (h : Rdr w rb s n) (k : Int) (m : Nat) : Rdr ((w.setCell ⟨rb, 1, none⟩ (.int .i64 k)).drewN m) rb s k :=
  ⟨(World.cell?_setCell_other w _ _ _ (by simp)).trans h.c0, World.cell?_setCell_same w _ _ h.c1, by rw [show (World.drewN (w.setCell ⟨rb, 1, none⟩ (.int .i64 k)) m).frozen? ⟨rb, 1, none⟩ = (w.setCell ⟨rb, 1, none⟩ (.int .i64 k)).frozen? ⟨rb, 1, none⟩ from rfl, World.frozen?_setCell]; exact h.f1⟩

set_option maxRecDepth 100000 in
set_option maxHeartbeats 600000 in
theorem byteNext_none (rb : Nat) (ao : Option Addr) (c : Nat) (xs : List Int) (i : Nat) (w : World) (hi : xs.length ≤ i) (hi2 : i ≤ 4611686018427387904) (hR : Rdr w rb (.slice ao xs.length c) i) :
    Calls Try.prog 145 #[.pointer (some ⟨rb, 0, none⟩)] w fun e w' => e = .returned (.tuple #[.int .i64 0, .bool false]) ∧ ∃ m, w' = w.drewN m := by
  obtain ⟨hc0, hc1, hf1⟩ := hR
  have hd : decide ((i : Int) < 0) = false := by simp
  have hd2 : decide ((i : Int) ≥ xs.length) = true := by simp; omega
  have hd3 : decide ((xs.length : Int) ≤ i) = true := by simp; omega
  go_enter Try.func145, Try.ntmps145
  go_wp2
  go_quiet (fail)
  go_wp2
  go_ret2
  exact ⟨rfl, _, rfl⟩

set_option maxRecDepth 100000 in
set_option maxHeartbeats 600000 in
theorem byteNext_some (rb : Nat) (ao : Option Addr) (c b o : Nat) (xs : List Int) (i : Nat) (w : World) (hi : i < xs.length) (hl : xs.length ≤ maxLen) (ha : At ao b o xs.length) (h : Ints w b o xs)
    (hR : Rdr w rb (.slice ao xs.length c) i) :
    Calls Try.prog 145 #[.pointer (some ⟨rb, 0, none⟩)] w fun e w' => e = .returned (.tuple #[.int .i64 xs[i], .bool true]) ∧ ∃ m, w' = (w.setCell ⟨rb, 1, none⟩ (.int .i64 ((i : Int) + 1))).drewN m := by
  obtain ⟨hc0, hc1, hf1⟩ := hR
  unfold maxLen at hl
  have hix := ha.ix (c := c) Try.underlying56 sz_int
  have hc := h i hi
  have hd : decide ((i : Int) < 0) = false := by simp
  have hd2 : decide ((i : Int) ≥ xs.length) = false := by simp; omega
  have hd3 : decide ((xs.length : Int) ≤ i) = false := by simp; omega
  have hi1 : (i : Int) < xs.length := by omega
  go_enter Try.func145, Try.ntmps145
  go_wp2
  go_quiet (fail)
  go_wp2
  go_quiet (fail)
  go_wp2
  go_ret2
  exact ⟨rfl, _, rfl⟩

theorem byteNext (rb : Nat) (ao : Option Addr) (c b o : Nat) (xs : List Int) (i : Nat) (w : World) (hi : i < xs.length) (hl : xs.length ≤ maxLen) (ha : At ao b o xs.length) (h : Ints w b o xs)
    (hR : Rdr w rb (.slice ao xs.length c) i) :
    Calls Try.prog 145 #[.pointer (some ⟨rb, 0, none⟩)] w fun e w' => e = .returned (.tuple #[.int .i64 xs[i], .bool true]) ∧ Rdr w' rb (.slice ao xs.length c) ((i + 1 : Nat) : Int) ∧ w.grownBy w' (some rb) :=
  (byteNext_some rb ao c b o xs i w hi hl ha h hR).mono fun e w' ⟨he, m, hw⟩ => by
    subst hw
    exact ⟨he, hR.set _ _, gb_drewN (gb_set (gb_refl _ _) (.inl rfl) _) _⟩

def NumPost (w : World) (rb : Nat) (s : Value) (xs : List Int) (i : Nat) (e : Ending) (w' : World) : Prop :=
  ∃ (v : Int) (ok : Bool) (j : Nat), e = .returned (.tuple #[.int .i64 v, .bool ok]) ∧ Rdr w' rb s (j : Int) ∧ w.grownBy w' (some rb) ∧ (j ≤ xs.length ∨ j = i) ∧
    (∀ n k, dec (xs.drop i) = some (n, k) → ok = true ∧ v = n ∧ j = i + k) ∧ (dec (xs.drop i) = none → ok = false)

theorem Rdr.drewN {w : World} {rb : Nat} {s : Value} {n : Int} (h : Rdr w rb s n) (m : Nat) : Rdr (w.drewN m) rb s n := ⟨h.c0, h.c1, h.f1⟩
theorem numPost_ok {w w' : World} {rb i k : Nat} {s : Value} {xs : List Int} {n : Int} (hd : dec (xs.drop i) = some (n, k)) (b : Bool) (hb : b = true) (v : Int) (hv : v = n) (hR : Rdr w' rb s ((i + k : Nat) : Int)) (hg : w.grownBy w' (some rb))
    (hle : i + k ≤ xs.length ∨ i + k = i) : NumPost w rb s xs i (.returned (.tuple #[.int .i64 v, .bool b])) w' := by
  subst hb hv
  exact ⟨_, _, _, rfl, hR, hg, hle, fun n' k' h => by rw [hd] at h; cases h; exact ⟨rfl, rfl, rfl⟩, fun h => by rw [hd] at h; cases h⟩
theorem numPost_no' {w w' : World} {rb i j : Nat} {s : Value} {xs : List Int} (hd : dec (xs.drop i) = none) (v : Int) (b : Bool) (hb : b = false) (hR : Rdr w' rb s (j : Int)) (hg : w.grownBy w' (some rb))
    (hle : j ≤ xs.length ∨ j = i) : NumPost w rb s xs i (.returned (.tuple #[.int .i64 v, .bool b])) w' := by
  subst hb
  exact ⟨_, _, _, rfl, hR, hg, hle, (fun n' k' h => by (rw [hd] at h; cases h)), fun _ => rfl⟩
theorem numPost_no {w w' : World} {rb i j : Nat} {s : Value} {xs : List Int} (hd : dec (xs.drop i) = none) (v : Int) (hR : Rdr w' rb s (j : Int)) (hg : w.grownBy w' (some rb))
    (hle : j ≤ xs.length ∨ j = i) : NumPost w rb s xs i (.returned (.tuple #[.int .i64 v, .bool false])) w' := numPost_no' hd v false rfl hR hg hle

set_option maxRecDepth 100000 in
set_option maxHeartbeats 1000000 in
theorem byteNumber (rb : Nat) (ao : Option Addr) (c b o : Nat) (xs : List Int) (i : Nat) (w : World) (hi : i ≤ 2000) (hl : xs.length ≤ 2000) (ha : At ao b o xs.length) (hin : Ints w b o xs)
    (hby : ∀ k (h : k < xs.length), 0 ≤ xs[k] ∧ xs[k] ≤ 255) (hne : xs = [] ∨ b ≠ rb) (hR0 : Rdr w rb (.slice ao xs.length c) i) :
    Calls Try.prog 134 #[.pointer (some ⟨rb, 0, none⟩)] w (NumPost w rb (.slice ao xs.length c) xs i) := by
  go_enter Try.func134, Try.ntmps134
  go_wp2
  go_loopw [4, 5, 6] (fun n s d wr =>
      (∃ N : Int, N = 0 ∧ n = .int .i64 N ∧ s = .int .i64 1 ∧ d = .int .i64 0 ∧ Rdr wr rb (.slice ao xs.length c) i ∧ w.grownBy wr (some rb) ∧ Hid (dec (xs.drop i) = decF 3 0 N 1 (xs.drop i))) ∨
      (∃ N : Int, 0 ≤ N ∧ N ≤ 127 ∧ i + 1 ≤ xs.length ∧ n = .int .i64 N ∧ s = .int .i64 128 ∧ d = .int .i64 1 ∧ Rdr wr rb (.slice ao xs.length c) ((i + 1 : Nat) : Int) ∧ w.grownBy wr (some rb) ∧ Hid (dec (xs.drop i) = decF 2 1 N 128 (xs.drop (i + 1)))) ∨
      (∃ N : Int, 0 ≤ N ∧ N ≤ 16383 ∧ i + 2 ≤ xs.length ∧ n = .int .i64 N ∧ s = .int .i64 16384 ∧ d = .int .i64 2 ∧ Rdr wr rb (.slice ao xs.length c) ((i + 2 : Nat) : Int) ∧ w.grownBy wr (some rb) ∧ Hid (dec (xs.drop i) = decF 1 2 N 16384 (xs.drop (i + 2)))) ∨
      (∃ N : Int, n = .int .i64 N ∧ d = .int .i64 3 ∧ Rdr wr rb (.slice ao xs.length c) ((i + 3 : Nat) : Int) ∧ w.grownBy wr (some rb) ∧ i + 3 ≤ xs.length ∧ Hid (dec (xs.drop i) = none)))
    (fun _ _ d _ => (3 - intOf d).toNat)
  case atStart => exact .inl ⟨0, rfl, rfl, rfl, rfl, hR0, gb_refl _ _, rfl⟩
  case round =>
    rcases hrel with ⟨N, rfl, rfl, rfl, rfl, hR, hg, HP⟩ | ⟨N, hN0, hN1, hN2, rfl, rfl, rfl, hR, hg, HP⟩ | ⟨N, hN0, hN1, hN2, rfl, rfl, rfl, hR, hg, HP⟩ | ⟨N, rfl, rfl, hR, hg, h3, HP⟩
    · by_cases hlt : i < xs.length
      · obtain ⟨hb0, hb1⟩ := hby (i) hlt
        have HD : Hid (xs.drop (i) = xs[i] :: xs.drop (i + 1)) := List.drop_eq_getElem_cons hlt
        have HC := Lib.hid (byteNext rb ao c b o xs (i) wr hlt (by simp only [maxLen]; omega) ha (hin.grown hg hne) hR)
        generalize xs[i] = z at *
        go_wp2_with fail
        refine (HC.out).mono ?_
        rintro e w2 ⟨rfl, hR2, hg2⟩
        have hg3 := gb_trans hg hg2
        by_cases hbig : 128 ≤ z
        · have hbig' : ¬ z < 128 := by omega
          go_wp2
          go_roundw
          case rel => exact .inr (.inl ⟨0 + (z - 128) * 1, by omega, by omega, by omega, by congr 1; omega, rfl, rfl, hR2, hg3, by unfold Hid; rw [HP.out, HD.out, decF, if_pos hbig]; rfl⟩)
          case measure => simp [intOf]
        · have hsm : z < 128 := by omega
          go_wp2
          all_goals
            go_ret2
            exact numPost_ok (by rw [HP.out, HD.out, decF, if_neg (show ¬ 128 ≤ z by omega), if_neg (by omega), if_pos (by omega)]) _ (by first | rfl | (simp; omega)) _ (by first | rfl | omega) hR2 hg3 (by omega)
      · have hnone := byteNext_none rb ao c xs (i) wr (by omega) (by omega) hR
        have HC := Lib.hid hnone
        clear hnone
        go_wp2_with fail
        refine (HC.out).mono ?_
        rintro e w2 ⟨rfl, m, rfl⟩
        go_wp2
        go_ret2
        exact numPost_no (j := i) (by rw [HP.out, List.drop_of_length_le (by omega)]; rfl) _ (Rdr.drewN hR _) (gb_drewN hg _) (by omega)

    · by_cases hlt : i + 1 < xs.length
      · obtain ⟨hb0, hb1⟩ := hby (i + 1) hlt
        have HD : Hid (xs.drop (i + 1) = xs[i + 1] :: xs.drop (i + 2)) := List.drop_eq_getElem_cons hlt
        have HC := Lib.hid (byteNext rb ao c b o xs (i + 1) wr hlt (by simp only [maxLen]; omega) ha (hin.grown hg hne) hR)
        generalize xs[i + 1] = z at *
        go_wp2_with fail
        refine (HC.out).mono ?_
        rintro e w2 ⟨rfl, hR2, hg2⟩
        have hg3 := gb_trans hg hg2
        by_cases hbig : 128 ≤ z
        · have hbig' : ¬ z < 128 := by omega
          go_wp2
          go_roundw
          case rel => exact .inr (.inr (.inl ⟨N + (z - 128) * 128, by omega, by omega, by omega, rfl, rfl, rfl, hR2, hg3, by unfold Hid; rw [HP.out, HD.out, decF, if_pos hbig]; rfl⟩))
          case measure => simp [intOf]
        · have hsm : z < 128 := by omega
          by_cases hzero : z = 0
          · go_wp2
            go_ret2
            exact numPost_no (by rw [HP.out, HD.out, decF, if_neg (show ¬ 128 ≤ z by omega), if_pos ⟨hzero, by omega⟩]) _ hR2 hg3 (by omega)
          · by_cases hm : N + z * 128 ≤ 1000000
            · go_wp2
              go_ret2
              exact numPost_ok (by rw [HP.out, HD.out, decF, if_neg (show ¬ 128 ≤ z by omega), if_neg (by omega), if_pos hm]) _ (by simp; try omega) _ (by try rfl) hR2 hg3 (by omega)
            · exfalso; omega
      · have hnone := byteNext_none rb ao c xs (i + 1) wr (by omega) (by omega) hR
        have HC := Lib.hid hnone
        clear hnone
        go_wp2_with fail
        refine (HC.out).mono ?_
        rintro e w2 ⟨rfl, m, rfl⟩
        go_wp2
        go_ret2
        exact numPost_no (j := i + 1) (by rw [HP.out, List.drop_of_length_le (by omega)]; rfl) _ (Rdr.drewN hR _) (gb_drewN hg _) (by omega)

    · by_cases hlt : i + 2 < xs.length
      · obtain ⟨hb0, hb1⟩ := hby (i + 2) hlt
        have HD : Hid (xs.drop (i + 2) = xs[i + 2] :: xs.drop (i + 3)) := List.drop_eq_getElem_cons hlt
        have HC := Lib.hid (byteNext rb ao c b o xs (i + 2) wr hlt (by simp only [maxLen]; omega) ha (hin.grown hg hne) hR)
        generalize xs[i + 2] = z at *
        go_wp2_with fail
        refine (HC.out).mono ?_
        rintro e w2 ⟨rfl, hR2, hg2⟩
        have hg3 := gb_trans hg hg2
        by_cases hbig : 128 ≤ z
        · have hbig' : ¬ z < 128 := by omega
          go_wp2
          go_roundw
          case rel => exact .inr (.inr (.inr ⟨N + (z - 128) * 16384, rfl, rfl, hR2, hg3, by omega, by unfold Hid; rw [HP.out, HD.out, decF, if_pos hbig]; rfl⟩))
          case measure => simp [intOf]
        · have hsm : z < 128 := by omega
          by_cases hzero : z = 0
          · go_wp2
            go_ret2
            exact numPost_no (by rw [HP.out, HD.out, decF, if_neg (show ¬ 128 ≤ z by omega), if_pos ⟨hzero, by omega⟩]) _ hR2 hg3 (by omega)
          · by_cases hm : N + z * 16384 ≤ 1000000
            · go_wp2
              go_ret2
              exact numPost_ok (by rw [HP.out, HD.out, decF, if_neg (show ¬ 128 ≤ z by omega), if_neg (by omega), if_pos hm]) _ (by simp; try omega) _ (by try rfl) hR2 hg3 (by omega)
            · go_wp2
              go_ret2
              exact numPost_no' (by rw [HP.out, HD.out, decF, if_neg (show ¬ 128 ≤ z by omega), if_neg (by omega), if_neg (show ¬ N + z * 16384 ≤ 1000000 by omega)]) _ _ (by simp; try omega) hR2 hg3 (by omega)
      · have hnone := byteNext_none rb ao c xs (i + 2) wr (by omega) (by omega) hR
        have HC := Lib.hid hnone
        clear hnone
        go_wp2_with fail
        refine (HC.out).mono ?_
        rintro e w2 ⟨rfl, m, rfl⟩
        go_wp2
        go_ret2
        exact numPost_no (j := i + 2) (by rw [HP.out, List.drop_of_length_le (by omega)]; rfl) _ (Rdr.drewN hR _) (gb_drewN hg _) (by omega)

    · go_wp2
      go_ret2
      exact numPost_no HP.out _ hR hg (.inl h3)

set_option maxRecDepth 100000 in
set_option maxHeartbeats 600000 in
theorem byteDone (rb : Nat) (ao : Option Addr) (n c : Nat) (i : Int) (w : World) (hR : Rdr w rb (.slice ao n c) i) :
    Calls Try.prog 135 #[.pointer (some ⟨rb, 0, none⟩)] w fun e w' => e = .returned (.bool (i == (n : Int))) ∧ ∃ m, w' = w.drewN m := by
  obtain ⟨hc0, hc1, hf1⟩ := hR
  go_enter Try.func135, Try.ntmps135
  go_wp2
  go_quiet (fail)
  go_wp2
  go_ret
  exact ⟨rfl, _, rfl⟩

/-! ### DecodeNumber -/
/-- What DecodeNumber returns: the number and the place behind it, if one stands there. -/
def decAt (xs : List Int) (i : Int) : Option (Int × Int) :=
  if bytesOk xs = true ∧ 0 ≤ i ∧ i < xs.length then (dec (xs.drop i.toNat)).map fun p => (p.1, i + p.2) else none
def decVal : Option (Int × Int) → Value
  | some (n, j) => .tuple #[.int .i64 n, .int .i64 j, .bool true]
  | none => .tuple #[.int .i64 0, .int .i64 0, .bool false]
theorem tup3 {a a' b b' : Int} (h : a = a') (h' : b = b') : Value.tuple #[.int .i64 a, .int .i64 b, .bool true] = .tuple #[.int .i64 a', .int .i64 b', .bool true] := by rw [h, h']

set_option maxRecDepth 100000 in
set_option maxHeartbeats 1000000 in
theorem specL1Decode (ao : Option Addr) (c b o : Nat) (xs : List Int) (i : Nat) (w : World) (hi : i < xs.length) (hl : xs.length ≤ 2000) (ha : At ao b o xs.length) (hin : Ints w b o xs)
    (hby : ∀ k (h : k < xs.length), 0 ≤ xs[k] ∧ xs[k] ≤ 255) :
    Calls Try.prog 128 #[.slice ao xs.length c, .int .i64 i] w fun e w' => e = .returned (decVal ((dec (xs.drop i)).map fun p => (p.1, (i : Int) + p.2))) ∧ w = w' := by
  have hix := ha.ix (c := c) Try.underlying56 sz_int
  go_enter Try.func128, Try.ntmps128
  go_wp2
  go_loop [7, 8, 9] (fun n s k =>
      (∃ N : Int, N = 0 ∧ n = .int .i64 N ∧ s = .int .i64 1 ∧ k = .int .i64 i ∧ Hid (dec (xs.drop i) = decF 3 0 N 1 (xs.drop i))) ∨
      (∃ N : Int, 0 ≤ N ∧ N ≤ 127 ∧ i + 1 ≤ xs.length ∧ n = .int .i64 N ∧ s = .int .i64 128 ∧ k = .int .i64 ((i + 1 : Nat) : Int) ∧ Hid (dec (xs.drop i) = decF 2 1 N 128 (xs.drop (i + 1)))) ∨
      (∃ N : Int, 0 ≤ N ∧ N ≤ 16383 ∧ i + 2 ≤ xs.length ∧ n = .int .i64 N ∧ s = .int .i64 16384 ∧ k = .int .i64 ((i + 2 : Nat) : Int) ∧ Hid (dec (xs.drop i) = decF 1 2 N 16384 (xs.drop (i + 2)))) ∨
      (∃ N S : Int, i + 3 ≤ xs.length ∧ n = .int .i64 N ∧ s = .int .i64 S ∧ k = .int .i64 ((i + 3 : Nat) : Int) ∧ Hid (dec (xs.drop i) = none)))
    (fun _ _ k => (i + 3 - (intOf k).toNat))
  case atStart => exact .inl ⟨0, rfl, rfl, rfl, rfl, rfl⟩
  case round =>
    rcases hrel with ⟨N, rfl, rfl, rfl, rfl, HP⟩ | ⟨N, hN0, hN1, hN2, rfl, rfl, rfl, HP⟩ | ⟨N, hN0, hN1, hN2, rfl, rfl, rfl, HP⟩ | ⟨N, S, h3, rfl, rfl, rfl, HP⟩
    · by_cases hlt : i < xs.length
      · obtain ⟨hb0, hb1⟩ := hby (i) hlt
        have HD : Hid (xs.drop (i) = xs[i] :: xs.drop (i + 1)) := List.drop_eq_getElem_cons hlt
        have hc := hin (i) hlt
        rw [List.getD_eq_getElem?_getD, List.getElem?_eq_getElem hlt, Option.getD_some] at hc
        generalize xs[i] = z at *
        by_cases hbig : 128 ≤ z
        · have hbig' : ¬ z < 128 := by omega
          have hrem : z.tmod 128 = z - 128 := by rw [Int.tmod_eq_emod_of_nonneg hb0]; omega
          go_wp2
          go_round
          case rel => exact .inr (.inl ⟨0 + (z - 128) * 1, by omega, by omega, by omega, by congr 1; omega, rfl, by go_num, by unfold Hid; rw [HP.out, HD.out, decF, if_pos hbig]; rfl⟩)
          case measure => simp [intOf]; try omega
        · have hsm : z < 128 := by omega
          have hrem : z.tmod 128 = z := by rw [Int.tmod_eq_emod_of_nonneg hb0]; omega
          go_wp2
          all_goals
            go_ret3
            exact ⟨by rw [HP.out, HD.out, decF, if_neg (show ¬ 128 ≤ z by omega), if_neg (by omega), if_pos (by omega)]; exact congrArg Ending.returned (tup3 (by omega) (by simp; try omega)), rfl⟩
      · omega

    · by_cases hlt : i + 1 < xs.length
      · obtain ⟨hb0, hb1⟩ := hby (i + 1) hlt
        have HD : Hid (xs.drop (i + 1) = xs[i + 1] :: xs.drop (i + 2)) := List.drop_eq_getElem_cons hlt
        have hc := hin (i + 1) hlt
        rw [List.getD_eq_getElem?_getD, List.getElem?_eq_getElem hlt, Option.getD_some] at hc
        generalize xs[i + 1] = z at *
        generalize hj : i + 1 = j at *
        have HJ := Lib.hid hj
        have hj1 : i < j := by omega
        have hj3 : (j : Int) < i + 3 := by omega
        clear hj
        by_cases hbig : 128 ≤ z
        · have hbig' : ¬ z < 128 := by omega
          have hrem : z.tmod 128 = z - 128 := by rw [Int.tmod_eq_emod_of_nonneg hb0]; omega
          go_wp2
          go_round
          case rel => exact .inr (.inr (.inl ⟨N + (z - 128) * 128, by omega, by omega, by omega, rfl, rfl, by have := HJ.out; congr 1; omega, by unfold Hid; rw [HP.out, HD.out, decF, if_pos hbig]; rfl⟩))
          case measure => simp [intOf]; try omega
        · have hsm : z < 128 := by omega
          have hrem : z.tmod 128 = z := by rw [Int.tmod_eq_emod_of_nonneg hb0]; omega
          by_cases hm : N + z * 128 ≤ 1000000
          · by_cases hzero : z = 0
            · subst hzero
              go_wp2
              all_goals
                go_ret3
                exact ⟨by rw [HP.out, HD.out, decF, if_neg (by omega), if_pos ⟨rfl, by omega⟩]; rfl, rfl⟩
            · have hzb : (z == 0) = false := by simp [hzero]
              go_wp2
              all_goals
                go_ret3
                exact ⟨by rw [HP.out, HD.out, decF, if_neg (show ¬ 128 ≤ z by omega), if_neg (by omega), if_pos (by omega)]; exact congrArg Ending.returned (tup3 (by omega) (by have := HJ.out; simp; omega)), rfl⟩
          · exfalso; omega
      · go_wp2
        go_ret3
        exact ⟨by rw [HP.out, List.drop_of_length_le (by omega)]; rfl, rfl⟩

    · by_cases hlt : i + 2 < xs.length
      · obtain ⟨hb0, hb1⟩ := hby (i + 2) hlt
        have HD : Hid (xs.drop (i + 2) = xs[i + 2] :: xs.drop (i + 3)) := List.drop_eq_getElem_cons hlt
        have hc := hin (i + 2) hlt
        rw [List.getD_eq_getElem?_getD, List.getElem?_eq_getElem hlt, Option.getD_some] at hc
        generalize xs[i + 2] = z at *
        generalize hj : i + 2 = j at *
        have HJ := Lib.hid hj
        have hj1 : i < j := by omega
        have hj3 : (j : Int) < i + 3 := by omega
        clear hj
        by_cases hbig : 128 ≤ z
        · have hbig' : ¬ z < 128 := by omega
          have hrem : z.tmod 128 = z - 128 := by rw [Int.tmod_eq_emod_of_nonneg hb0]; omega
          go_wp2
          go_round
          case rel => exact .inr (.inr (.inr ⟨N + (z - 128) * 16384, _, by have := HJ.out; omega, rfl, rfl, by have := HJ.out; congr 1; omega, by unfold Hid; rw [HP.out, HD.out, decF, if_pos hbig]; rfl⟩))
          case measure => simp [intOf]; try omega
        · have hsm : z < 128 := by omega
          have hrem : z.tmod 128 = z := by rw [Int.tmod_eq_emod_of_nonneg hb0]; omega
          by_cases hm : N + z * 16384 ≤ 1000000
          · by_cases hzero : z = 0
            · subst hzero
              go_wp2
              all_goals
                go_ret3
                exact ⟨by rw [HP.out, HD.out, decF, if_neg (by omega), if_pos ⟨rfl, by omega⟩]; rfl, rfl⟩
            · have hzb : (z == 0) = false := by simp [hzero]
              go_wp2
              all_goals
                go_ret3
                exact ⟨by rw [HP.out, HD.out, decF, if_neg (show ¬ 128 ≤ z by omega), if_neg (by omega), if_pos (by omega)]; exact congrArg Ending.returned (tup3 (by omega) (by have := HJ.out; simp; omega)), rfl⟩
          · have hgt : ¬ z = 0 := by omega
            go_wp2
            all_goals
              go_ret3
              exact ⟨by rw [HP.out, HD.out, decF, if_neg (show ¬ 128 ≤ z by omega), if_neg (by omega), if_neg (by omega)]; rfl, rfl⟩
      · go_wp2
        go_ret3
        exact ⟨by rw [HP.out, List.drop_of_length_le (by omega)]; rfl, rfl⟩

    · by_cases hlt : i + 3 < xs.length
      all_goals
        go_wp2
        go_ret3
        exact ⟨by rw [HP.out]; rfl, rfl⟩
/-! ## Codes3 -/
theorem decAt_no {xs : List Int} {i : Int} (h : bytesOk xs = false ∨ i < 0 ∨ xs.length ≤ i) : decAt xs i = none := by
  unfold decAt
  rw [if_neg]
  rintro ⟨h1, h2, h3⟩
  rcases h with h | h | h
  · rw [h] at h1; cases h1
  · omega
  · omega
theorem decAt_yes {xs : List Int} {i : Nat} (h : bytesOk xs = true) (hi : i < xs.length) : decAt xs i = (dec (xs.drop i)).map fun p => (p.1, (i : Int) + p.2) := by
  unfold decAt
  rw [if_pos ⟨h, by omega, by omega⟩, Int.toNat_natCast]
theorem dec_nil : dec [] = none := rfl

set_option maxRecDepth 100000 in
set_option maxHeartbeats 600000 in
theorem specL1DecodeEnd (ao : Option Addr) (c n : Nat) (i : Int) (w : World) (hn : n ≤ 2000) (hi : (n : Int) ≤ i) :
    Calls Try.prog 128 #[.slice ao n c, .int .i64 i] w fun e w' => e = .returned (decVal none) ∧ w = w' := by
  have hlt : ¬ i < n := by omega
  go_enter Try.func128, Try.ntmps128
  go_wp2
  refine wp_loop_rounds 1 ?_
  rw [rounds_succ]
  go_wp2
  go_ret3
  exact ⟨rfl, rfl⟩

set_option maxRecDepth 100000 in
set_option maxHeartbeats 600000 in
theorem specDecodeNumber (ao : Option Addr) (c b o : Nat) (xs : List Int) (i : Int) (w : World) (hl : xs.length ≤ maxLen) (ha : At ao b o xs.length) (hin : Ints w b o xs) :
    Calls Try.prog 102 #[.slice ao xs.length c, .int .i64 i] w fun e w' => e = .returned (decVal (decAt xs i)) ∧ w = w' := by
  have HV := Lib.hid (specBytesValid ao b o c xs w hl ha hin)
  cases hv : bytesOk xs
  · have HN := Lib.hid (decAt_no (i := i) (.inl hv))
    rw [hv] at HV
    clear hv
    go_enter Try.func102, Try.ntmps102
    go_wp2_with (first | (go_at_call 111; refine HV.out.mono ?_; rintro e w1 ⟨rfl, rfl⟩))
    go_ret3
    exact ⟨by rw [HN.out]; rfl, rfl⟩
  · have hl2 := bytesOk_len hv
    have hby := bytesOk_get hv
    by_cases h0 : i < 0
    · have HN := Lib.hid (decAt_no (xs := xs) (.inr (.inl h0)))
      rw [hv] at HV
      clear hv
      go_enter Try.func102, Try.ntmps102
      go_wp2_with (first | (go_at_call 111; refine HV.out.mono ?_; rintro e w1 ⟨rfl, rfl⟩))
      go_ret3
      exact ⟨by rw [HN.out]; rfl, rfl⟩
    · have HD : Hid (Calls Try.prog 128 #[.slice ao xs.length c, .int .i64 i] w fun e w' => e = .returned (decVal (decAt xs i)) ∧ w = w') := by
        apply Lib.hid
        by_cases hk : i < xs.length
        · obtain ⟨k, rfl⟩ := Int.eq_ofNat_of_zero_le (show 0 ≤ i by omega)
          rw [decAt_yes hv (by omega)]
          exact specL1Decode ao c b o xs k w (by omega) hl2 ha hin hby
        · rw [decAt_no (.inr (.inr (by omega)))]
          exact specL1DecodeEnd ao c xs.length i w hl2 (by omega)
      rw [hv] at HV
      clear hv hby
      generalize decAt xs i = r at *
      cases r with
      | none =>
        go_enter Try.func102, Try.ntmps102
        go_wp2_with (first | (go_at_call 111; refine HV.out.mono ?_; rintro e w1 ⟨rfl, rfl⟩) | (go_at_call 128; refine HD.out.mono ?_; rintro e w1 ⟨rfl, rfl⟩; unfold decVal))
        go_ret3
        exact ⟨rfl, rfl⟩
      | some p =>
        obtain ⟨n, j⟩ := p
        go_enter Try.func102, Try.ntmps102
        go_wp2_with (first | (go_at_call 111; refine HV.out.mono ?_; rintro e w1 ⟨rfl, rfl⟩) | (go_at_call 128; refine HD.out.mono ?_; rintro e w1 ⟨rfl, rfl⟩; unfold decVal))
        go_ret3
        exact ⟨rfl, rfl⟩

set_option maxRecDepth 100000 in
set_option maxHeartbeats 600000 in
theorem lawsToIntS (ao : Option Addr) (c b o : Nat) (xs : List Int) (w : World) (hl : xs.length ≤ 1048576) (ha : At ao b o xs.length) (h : Ints w b o xs) :
    Calls Try.prog 64 #[.slice ao xs.length c] w fun e w' => ∃ ao' c', e = .returned (.slice ao' xs.length c') ∧ Own w' w.heap.size 3 1 ao' xs.length c' (iv xs) ∧ Below w.heap.size w w' ∧ ao' ≠ none := by
  have hix := ha.ix (c := c) Try.underlying56 sz_int
  go_enter Try.func64, Try.ntmps64
  go_wp2_with (first | (at_make; refine wp_make _ el_int rfl _ _ rfl w.heap.size xs.length rfl rfl (by omega) (by simp only [maxLen]; omega) (Nat.le_refl _) ?_; intro w1 hown hg))
  have hb1 : Below w.heap.size w w1 := (Below.refl _ _).grown hg (Nat.le_refl _) (by simp)
  rw [show (Value.int IntKind.i64 0).cells = #[.int .i64 0] from rfl, madeCells_one] at hown
  go_loopw [4] (fun i wr => ∃ k : Nat, k ≤ xs.length ∧ i = .int .i64 k ∧ Own wr w.heap.size 3 1 (some ⟨w.heap.size, 0, none⟩) xs.length xs.length ((iv xs).take k ++ List.replicate ((iv xs).length - k) (.int .i64 0)) ∧ Below w.heap.size w wr) (fun i _ => xs.length - (intOf i).toNat)
  case atStart => exact ⟨0, Nat.zero_le _, rfl, by simpa using hown, hb1⟩
  case round =>
    obtain ⟨k, hk, rfl, hown2, hb⟩ := hrel
    have HO := Lib.hid hown
    clear hown hg
    by_cases hlt : k < xs.length
    · have hc := h.below hb (Nat.le_refl _) k hlt
      have hc2 : wr.cell? ⟨w.heap.size, k, none⟩ = some (.int .i64 0) := by rw [hown2.cell_at k (by omega)]; exact fill_get _ _ _ (by simpa using hlt)
      have hf2 := hown2.frozen_at k
      have HO2 := Lib.hid hown2
      clear hown2
      go_wp2
      go_roundw
      case rel =>
        refine ⟨k + 1, by omega, by go_num, ?_, (by repeat' (first | (with_reducible exact Below.refl _ _) | (with_reducible assumption) | (with_reducible refine Below.alloc ?_ ?_ _) | (with_reducible refine Below.drew ?_) | (with_reducible refine below_drewN ?_ _) | (with_reducible refine Below.setCell ?_ ?_ _) | (refine bstep (by with_reducible assumption) ?_) | (refine bstep2 (by with_reducible assumption) (by first | omega | (simp; done) | (simp; omega)) ?_) | go_size))⟩
        have h1 := HO2.out.set_at k (.int .i64 xs[k])
        have h2 := fill_step (iv xs) (.int .i64 0) k (by simpa using hlt)
        rw [show (iv xs)[k]'(by simpa using hlt) = .int .i64 xs[k] by simp] at h2
        rw [h2] at h1
        exact h1
      case measure => simp [intOf]; omega
    · go_wp2
      go_ret
      refine ⟨_, _, rfl, ?_, hb, by simp⟩
      rw [fill_all _ _ _ (by simp; omega)] at hown2
      exact hown2
end Go.Proofs.Ythjnidcmhegoeaa
