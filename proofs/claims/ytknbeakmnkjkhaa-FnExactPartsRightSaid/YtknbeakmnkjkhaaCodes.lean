/- Numbers as bytes: what the tests, the writers and the readers of codes return. No statement of the seat is proved here. -/
import Derived.Test.YtknbeakmnkjkhaaRows
import Derived.WalkKit
import Derived.WalkSpells
import Derived.WalkLawsBesides
import Derived.Lib.Hide
import Derived.Handy
import Derived.BigQuiet
import Derived.Deep.QuietTactic
import Derived.Test.YtknbeakmnkjkhaaLib
import Derived.Test.YtknbeakmnkjkhaaOwn
import Derived.Test.YtknbeakmnkjkhaaJobs
set_option linter.unusedSimpArgs false
set_option linter.unusedVariables false
namespace Go.Proofs.Ytknbeakmnkjkhaa
open Go.RowKit

theorem sz_int (w : World) : (sizeOf 3).run Try.prog w = .ok 1 w := by kernel_rfl
theorem el_int : El Try.prog 35 3 1 8 (.int .i64 0) := ⟨Try.underlying35, info_parts (by kernel_rfl), rfl, by omega⟩

def byteOk (z : Int) : Bool := decide (0 ≤ z) && decide (z ≤ 255)
def bytesOk (l : List Int) : Bool := decide (l.length ≤ 2000) && l.all byteOk

set_option maxRecDepth 100000 in
set_option maxHeartbeats 400000 in
theorem implBytesValid (ao : Option Addr) (b o c : Nat) (xs : List Int) (w : World) (hl : xs.length ≤ maxLen) (ha : At ao b o xs.length) (h : Ints w b o xs) :
    Calls Try.prog 115 #[.slice ao xs.length c] w fun e w' => e = .returned (.bool (bytesOk xs)) ∧ w = w' := by
  unfold maxLen at hl
  have hix := ha.ix (c := c) Try.underlying35 sz_int
  by_cases h2 : xs.length ≤ 2000
  · have HR : Hid (bytesOk xs = (xs.drop 0).all byteOk) := by simp [Hid, bytesOk, h2]
    go_enter Try.func115, Try.ntmps115
    go_wp2
    go_loop [4, 10] (fun _ i => ∃ k : Nat, k ≤ xs.length ∧ i = .int .i64 k ∧ Hid (bytesOk xs = (xs.drop k).all byteOk)) (fun _ i => xs.length - (intOf i).toNat)
    case atStart => exact ⟨0, Nat.zero_le _, rfl, HR⟩
    case round =>
      obtain ⟨k, hk, rfl, HP⟩ := hrel
      clear HR
      by_cases hlt : k < xs.length
      · have hc := h k hlt
        have HD : Hid (xs.drop k = xs[k] :: xs.drop (k + 1)) := List.drop_eq_getElem_cons hlt
        go_wp2
        · go_ret
          have HB : byteOk xs[k] = false := by simp [byteOk]; intros; omega
          exact ⟨ret_bool (by rw [HP.out, HD.out, List.all_cons, HB, Bool.false_and]), rfl⟩
        · go_round
          case rel =>
            have HB : byteOk xs[k] = true := by simp [byteOk]; omega
            exact ⟨k + 1, by omega, by go_num, by have h1 := HP.out; rw [HD.out, List.all_cons, HB, Bool.true_and] at h1; exact h1⟩
          case measure => simp [intOf]; omega
        · go_ret
          have HB : byteOk xs[k] = false := by simp [byteOk]; intros; omega
          exact ⟨ret_bool (by rw [HP.out, HD.out, List.all_cons, HB, Bool.false_and]), rfl⟩
      · go_wp2
        go_ret
        exact ⟨ret_bool (by rw [HP.out, List.drop_of_length_le (by omega)]; rfl), rfl⟩
  · go_enter Try.func115, Try.ntmps115
    go_wp2
    go_ret
    exact ⟨ret_bool (by simp [bytesOk, h2]), rfl⟩

set_option maxRecDepth 100000 in
set_option maxHeartbeats 400000 in
theorem specBytesValid (ao : Option Addr) (b o c : Nat) (xs : List Int) (w : World) (hl : xs.length ≤ maxLen) (ha : At ao b o xs.length) (h : Ints w b o xs) :
    Calls Try.prog 126 #[.slice ao xs.length c] w fun e w' => e = .returned (.bool (bytesOk xs)) ∧ w = w' := by
  unfold maxLen at hl
  have hix := ha.ix (c := c) Try.underlying35 sz_int
  go_enter Try.func126, Try.ntmps126
  go_wp2
  go_loop [3] (fun i => ∃ k : Nat, k ≤ xs.length ∧ i = .int .i64 k ∧ Hid (xs.all byteOk = (xs.drop k).all byteOk)) (fun i => xs.length - (intOf i).toNat)
  case atStart => exact ⟨0, Nat.zero_le _, rfl, rfl⟩
  case round =>
    obtain ⟨k, hk, rfl, HP⟩ := hrel
    by_cases hlt : k < xs.length
    · have hc := h k hlt
      have HD : Hid (xs.drop k = xs[k] :: xs.drop (k + 1)) := List.drop_eq_getElem_cons hlt
      by_cases hb : 0 ≤ xs[k] ∧ xs[k] ≤ 255
      · go_wp2_with (first | (go_at_call 62; refine (specL1In _ _ _ _).mono ?_; rintro e w1 ⟨rfl, rfl⟩))
        go_round
        case rel =>
          have HB : byteOk xs[k] = true := by simp [byteOk]; omega
          exact ⟨k + 1, by omega, by go_num, by have h1 := HP.out; rw [HD.out, List.all_cons, HB, Bool.true_and] at h1; exact h1⟩
        case measure => simp [intOf]; omega
      · go_wp2_with (first | (go_at_call 62; refine (specL1In _ _ _ _).mono ?_; rintro e w1 ⟨rfl, rfl⟩))
        go_ret
        have HB : byteOk xs[k] = false := by simp [byteOk]; intros; omega
        exact ⟨ret_bool (by unfold bytesOk; rw [HP.out, HD.out, List.all_cons, HB, Bool.false_and, Bool.and_false]), rfl⟩
    · go_wp2
      all_goals
        go_ret
        exact ⟨ret_bool (by unfold bytesOk; rw [HP.out, List.drop_of_length_le (by omega)]; simp; try omega), rfl⟩

/-! ### sums -/
def sumStep (s z : Int) : Int := (31 * s + z + 1) % 251
def sumOf (l : List Int) : Int := if bytesOk l then l.foldl sumStep 7 else -1
theorem sumStep_bd (s z : Int) : 0 ≤ sumStep s z ∧ sumStep s z ≤ 250 := by unfold sumStep; omega
theorem bytesOk_get {l : List Int} (h : bytesOk l = true) (k : Nat) (hk : k < l.length) : 0 ≤ l[k] ∧ l[k] ≤ 255 := by
  simp [bytesOk] at h
  have := h.2 l[k] (List.getElem_mem hk)
  simpa [byteOk] using this
theorem bytesOk_len {l : List Int} (h : bytesOk l = true) : l.length ≤ 2000 := by
  simp [bytesOk] at h
  exact h.1

set_option maxRecDepth 100000 in
set_option maxHeartbeats 400000 in
theorem implCheckSum (ao : Option Addr) (b o c : Nat) (xs : List Int) (w : World) (hl : xs.length ≤ maxLen) (ha : At ao b o xs.length) (h : Ints w b o xs) :
    Calls Try.prog 88 #[.slice ao xs.length c] w fun e w' => e = .returned (.int .i64 (sumOf xs)) ∧ w = w' := by
  have hix := ha.ix (c := c) Try.underlying35 sz_int
  cases hv : bytesOk xs
  · go_enter Try.func88, Try.ntmps88
    go_wp2_with (first | (go_at_call 115; refine (implBytesValid ao b o c xs w hl ha h).mono ?_; rw [hv]; rintro e w1 ⟨rfl, rfl⟩))
    go_ret
    exact ⟨ret_int (by simp [sumOf, hv]), rfl⟩
  · have hl2 := bytesOk_len hv
    have HR : Hid (sumOf xs = (xs.drop 0).foldl sumStep 7) := by simp [Hid, sumOf, hv]
    have HV := Lib.hid hv
    clear hv
    go_enter Try.func88, Try.ntmps88
    go_wp2_with fail
    refine (implBytesValid ao b o c xs w hl ha h).mono ?_
    rw [HV.out]
    rintro e w1 ⟨rfl, rfl⟩
    unfold maxLen at hl
    go_wp2
    go_loop [3, 11] (fun s i => ∃ (k : Nat) (t : Int), k ≤ xs.length ∧ i = .int .i64 k ∧ s = .int .i64 t ∧ 0 ≤ t ∧ t ≤ 250 ∧ Hid (sumOf xs = (xs.drop k).foldl sumStep t)) (fun _ i => xs.length - (intOf i).toNat)
    case atStart => exact ⟨0, 7, Nat.zero_le _, rfl, rfl, by omega, by omega, HR⟩
    case round =>
      obtain ⟨k, t, hk, rfl, rfl, ht0, ht1, HP⟩ := hrel
      clear HR
      by_cases hlt : k < xs.length
      · have hc := h k hlt
        have HD : Hid (xs.drop k = xs[k] :: xs.drop (k + 1)) := List.drop_eq_getElem_cons hlt
        obtain ⟨hb0, hb1⟩ := bytesOk_get HV.out k hlt
        go_wp2
        go_round
        case rel => exact ⟨k + 1, sumStep t xs[k], by omega, by go_num, rfl, (sumStep_bd _ _).1, (sumStep_bd _ _).2, by have h1 := HP.out; rw [HD.out, List.foldl_cons] at h1; exact h1⟩
        case measure => simp [intOf]; omega
      · go_wp2
        go_ret
        exact ⟨ret_int (by rw [HP.out, List.drop_of_length_le (by omega)]; rfl), rfl⟩
end Go.Proofs.Ytknbeakmnkjkhaa
