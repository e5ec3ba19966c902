/- DecodeNumber, both texts; copies of arguments. No statement of the seat is proved here. -/
import Derived.Test.YtknbeakmnkjkhaaRows
import Derived.WalkKit
import Derived.WalkSpells
import Derived.WalkLawsBesides
import Derived.Lib.Hide
import Derived.Handy
import Derived.BigQuiet
import Derived.Deep.QuietTactic
import Derived.Test.YtknbeakmnkjkhaaLib
import Derived.Test.YtknbeakmnkjkhaaOwn
import Derived.Test.YtknbeakmnkjkhaaJobs
import Derived.Test.YtknbeakmnkjkhaaCodes
import Derived.Test.YtknbeakmnkjkhaaCodes2
set_option linter.unusedSimpArgs false
set_option linter.unusedVariables false
namespace Go.Proofs.Ytknbeakmnkjkhaa
open Go.RowKit

theorem decAt_no {xs : List Int} {i : Int} (h : bytesOk xs = false ∨ i < 0 ∨ xs.length ≤ i) : decAt xs i = none := by
  unfold decAt
  rw [if_neg]
  rintro ⟨h1, h2, h3⟩
  rcases h with h | h | h
  · rw [h] at h1; cases h1
  · omega
  · omega
theorem decAt_yes {xs : List Int} {i : Nat} (h : bytesOk xs = true) (hi : i < xs.length) : decAt xs i = (dec (xs.drop i)).map fun p => (p.1, (i : Int) + p.2) := by
  unfold decAt
  rw [if_pos ⟨h, by omega, by omega⟩, Int.toNat_natCast]
theorem dec_nil : dec [] = none := rfl

set_option maxRecDepth 100000 in
set_option maxHeartbeats 600000 in
theorem specL1DecodeEnd (ao : Option Addr) (c n : Nat) (i : Int) (w : World) (hn : n ≤ 2000) (hi : (n : Int) ≤ i) :
    Calls Try.prog 128 #[.slice ao n c, .int .i64 i] w fun e w' => e = .returned (decVal none) ∧ w = w' := by
  have hlt : ¬ i < n := by omega
  go_enter Try.func128, Try.ntmps128
  go_wp2
  refine wp_loop_rounds 1 ?_
  rw [rounds_succ]
  go_wp2
  go_ret3
  exact ⟨rfl, rfl⟩

set_option maxRecDepth 100000 in
set_option maxHeartbeats 600000 in
theorem specDecodeNumber (ao : Option Addr) (c b o : Nat) (xs : List Int) (i : Int) (w : World) (hl : xs.length ≤ maxLen) (ha : At ao b o xs.length) (hin : Ints w b o xs) :
    Calls Try.prog 95 #[.slice ao xs.length c, .int .i64 i] w fun e w' => e = .returned (decVal (decAt xs i)) ∧ w = w' := by
  have HV := Lib.hid (specBytesValid ao b o c xs w hl ha hin)
  cases hv : bytesOk xs
  · have HN := Lib.hid (decAt_no (i := i) (.inl hv))
    rw [hv] at HV
    clear hv
    go_enter Try.func95, Try.ntmps95
    go_wp2_with (first | (go_at_call 126; refine HV.out.mono ?_; rintro e w1 ⟨rfl, rfl⟩))
    go_ret3
    exact ⟨by rw [HN.out]; rfl, rfl⟩
  · have hl2 := bytesOk_len hv
    have hby := bytesOk_get hv
    by_cases h0 : i < 0
    · have HN := Lib.hid (decAt_no (xs := xs) (.inr (.inl h0)))
      rw [hv] at HV
      clear hv
      go_enter Try.func95, Try.ntmps95
      go_wp2_with (first | (go_at_call 126; refine HV.out.mono ?_; rintro e w1 ⟨rfl, rfl⟩))
      go_ret3
      exact ⟨by rw [HN.out]; rfl, rfl⟩
    · have HD : Hid (Calls Try.prog 128 #[.slice ao xs.length c, .int .i64 i] w fun e w' => e = .returned (decVal (decAt xs i)) ∧ w = w') := by
        apply Lib.hid
        by_cases hk : i < xs.length
        · obtain ⟨k, rfl⟩ := Int.eq_ofNat_of_zero_le (show 0 ≤ i by omega)
          rw [decAt_yes hv (by omega)]
          exact specL1Decode ao c b o xs k w (by omega) hl2 ha hin hby
        · rw [decAt_no (.inr (.inr (by omega)))]
          exact specL1DecodeEnd ao c xs.length i w hl2 (by omega)
      rw [hv] at HV
      clear hv hby
      generalize decAt xs i = r at *
      cases r with
      | none =>
        go_enter Try.func95, Try.ntmps95
        go_wp2_with (first | (go_at_call 126; refine HV.out.mono ?_; rintro e w1 ⟨rfl, rfl⟩) | (go_at_call 128; refine HD.out.mono ?_; rintro e w1 ⟨rfl, rfl⟩; unfold decVal))
        go_ret3
        exact ⟨rfl, rfl⟩
      | some p =>
        obtain ⟨n, j⟩ := p
        go_enter Try.func95, Try.ntmps95
        go_wp2_with (first | (go_at_call 126; refine HV.out.mono ?_; rintro e w1 ⟨rfl, rfl⟩) | (go_at_call 128; refine HD.out.mono ?_; rintro e w1 ⟨rfl, rfl⟩; unfold decVal))
        go_ret3
        exact ⟨rfl, rfl⟩

set_option maxRecDepth 100000 in
set_option maxHeartbeats 600000 in
theorem lawsToIntS (ao : Option Addr) (c b o : Nat) (xs : List Int) (w : World) (hl : xs.length ≤ 1048576) (ha : At ao b o xs.length) (h : Ints w b o xs) :
    Calls Try.prog 23 #[.slice ao xs.length c] w fun e w' => ∃ ao' c', e = .returned (.slice ao' xs.length c') ∧ Own w' w.heap.size 3 1 ao' xs.length c' (iv xs) ∧ Below w.heap.size w w' ∧ ao' ≠ none := by
  have hix := ha.ix (c := c) Try.underlying35 sz_int
  go_enter Try.func23, Try.ntmps23
  go_wp2_with (first | (at_make; refine wp_make _ el_int rfl _ _ rfl w.heap.size xs.length rfl rfl (by omega) (by simp only [maxLen]; omega) (Nat.le_refl _) ?_; intro w1 hown hg))
  have hb1 : Below w.heap.size w w1 := (Below.refl _ _).grown hg (Nat.le_refl _) (by simp)
  rw [show (Value.int IntKind.i64 0).cells = #[.int .i64 0] from rfl, madeCells_one] at hown
  go_loopw [4] (fun i wr => ∃ k : Nat, k ≤ xs.length ∧ i = .int .i64 k ∧ Own wr w.heap.size 3 1 (some ⟨w.heap.size, 0, none⟩) xs.length xs.length ((iv xs).take k ++ List.replicate ((iv xs).length - k) (.int .i64 0)) ∧ Below w.heap.size w wr) (fun i _ => xs.length - (intOf i).toNat)
  case atStart => exact ⟨0, Nat.zero_le _, rfl, by simpa using hown, hb1⟩
  case round =>
    obtain ⟨k, hk, rfl, hown2, hb⟩ := hrel
    have HO := Lib.hid hown
    clear hown hg
    by_cases hlt : k < xs.length
    · have hc := h.below hb (Nat.le_refl _) k hlt
      have hc2 : wr.cell? ⟨w.heap.size, k, none⟩ = some (.int .i64 0) := by rw [hown2.cell_at k (by omega)]; exact fill_get _ _ _ (by simpa using hlt)
      have hf2 := hown2.frozen_at k
      have HO2 := Lib.hid hown2
      clear hown2
      go_wp2
      go_roundw
      case rel =>
        refine ⟨k + 1, by omega, by go_num, ?_, (by repeat' (first | (with_reducible exact Below.refl _ _) | (with_reducible assumption) | (with_reducible refine Below.alloc ?_ ?_ _) | (with_reducible refine Below.drew ?_) | (with_reducible refine below_drewN ?_ _) | (with_reducible refine Below.setCell ?_ ?_ _) | (refine bstep (by with_reducible assumption) ?_) | (refine bstep2 (by with_reducible assumption) (by first | omega | (simp; done) | (simp; omega)) ?_) | go_size))⟩
        have h1 := HO2.out.set_at k (.int .i64 xs[k])
        have h2 := fill_step (iv xs) (.int .i64 0) k (by simpa using hlt)
        rw [show (iv xs)[k]'(by simpa using hlt) = .int .i64 xs[k] by simp] at h2
        rw [h2] at h1
        exact h1
      case measure => simp [intOf]; omega
    · go_wp2
      go_ret
      refine ⟨_, _, rfl, ?_, hb, by simp⟩
      rw [fill_all _ _ _ (by simp; omega)] at hown2
      exact hown2
end Go.Proofs.Ytknbeakmnkjkhaa
