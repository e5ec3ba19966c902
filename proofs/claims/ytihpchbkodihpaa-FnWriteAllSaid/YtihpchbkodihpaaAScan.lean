/- Frames in a list of bytes: the program's frameAt. No statement of the seat is proved here. -/
import Derived.Test.YtihpchbkodihpaaRows
import Derived.WalkKit
import Derived.WalkSpells
import Derived.WalkLawsBesides
import Derived.Lib.Hide
import Derived.Handy
import Derived.BigQuiet
import Derived.Deep.QuietTactic
import Derived.Test.YtihpchbkodihpaaLib
import Derived.Test.YtihpchbkodihpaaOwn
import Derived.Test.YtihpchbkodihpaaJobs
import Derived.Test.YtihpchbkodihpaaCodes3
import Derived.Test.YtihpchbkodihpaaFrames2
import Derived.Test.YtihpchbkodihpaaGCod
set_option linter.unusedSimpArgs false
set_option linter.unusedVariables false
namespace Go.Proofs.Ytihpchbkodihpaa
open Go.RowKit

open Abs (frHd)
/-- What frameAt returns at a place. -/
def frV (b o c : Nat) (xs : List Int) (i : Nat) : Value := match frHd (xs.drop i) with
  | some bd => .tuple #[.slice (some ⟨b, o + (i + 1), none⟩) bd.length (c - (i + 1)), .int .i64 ((i + bd.length + 2 : Nat) : Int), .bool true]
  | none => .tuple #[.slice none 0 0, .int .i64 0, .bool false]
theorem quietL {P : Program} {f : FuncId} {args : Array Value} {w : World} {n : Nat} {v : Value}
    (h : Calls P f args (w.drewN n) fun e w' => e = .returned v ∧ w.drewN n = w') : Calls P f args (w.drewN n) fun e w'' => e = .returned v ∧ ∃ m, w'' = w.drewN m :=
  h.mono fun _ _ ⟨he, hm⟩ => ⟨he, n, hm.symm⟩
theorem Ints.drewN {w : World} {b o : Nat} {xs : List Int} (h : Ints w b o xs) (n : Nat) : Ints (w.drewN n) b o xs := h
theorem Ints.subC {w : World} {b o : Nat} {xs : List Int} (h : Ints w b o xs) (I m : Nat) (hm : I + m ≤ xs.length) : Ints w b (o + I) ((xs.drop I).take m) := fun i hi => by
  have hl : i < m := by rw [List.length_take, List.length_drop] at hi; omega
  have := h (I + i) (by omega)
  rw [← Nat.add_assoc] at this
  rw [this]
  congr 2
  rw [List.getD_eq_getElem?_getD, List.getD_eq_getElem?_getD, List.getElem?_take, if_pos hl, List.getElem?_drop]
set_option maxRecDepth 100000 in
set_option maxHeartbeats 2000000 in
theorem implFrameAt (b o c : Nat) (ao : Option Addr) (xs : List Int) (i : Nat) (w : World) (hx : bytesOk xs = true) (hc : xs.length ≤ c) (hcm : c ≤ maxLen) (ha : At ao b o xs.length) (hin : Ints w b o xs) (hi : i ≤ xs.length) :
    Calls Try.prog 111 #[.slice ao xs.length c, .int .i64 i] w fun e w' => e = .returned (frV b o c xs i) ∧ ∃ m, w' = w.drewN m := by
  have hl := bytesOk_len hx
  have hcm' := hcm
  unfold maxLen at hcm'
  by_cases h0 : i < xs.length
  · have hz := hin i h0
    have ha1 : ao = some ⟨b, o, none⟩ := ha.resolve_left (by omega)
    have hdr := List.drop_eq_getElem_cons h0
    have hzz : xs.getD i 0 = xs[i] := by rw [List.getD_eq_getElem?_getD, List.getElem?_eq_getElem h0]; rfl
    have hb := bytesOk_get hx i h0
    rw [hzz] at hz
    have hFV : frV b o c xs i = match frHd (xs[i] :: xs.drop (i + 1)) with
      | some bd => .tuple #[.slice (some ⟨b, o + (i + 1), none⟩) bd.length (c - (i + 1)), .int .i64 ((i + bd.length + 2 : Nat) : Int), .bool true]
      | none => .tuple #[.slice none 0 0, .int .i64 0, .bool false] := by unfold frV; rw [hdr]
    have hix := ha.ix (c := c) Try.underlying26 sz_int
    generalize xs[i] = z at *
    obtain ⟨N, rfl⟩ := Int.eq_ofNat_of_zero_le hb.1
    have hrl : (xs.drop (i + 1)).length = xs.length - (i + 1) := List.length_drop ..
    by_cases h1 : 1 ≤ N ∧ N ≤ 100 ∧ N < xs.length - (i + 1)
    · obtain ⟨h1, h2, h3⟩ := h1
      have hin2 := hin.subC (i + 1) N (by omega)
      have hz2 := hin (i + 1 + N) (by omega)
      have hlen : ((xs.drop (i + 1)).take N).length = N := by rw [List.length_take, hrl]; omega
      have hS := fun n => implCheckSum (some ⟨b, o + (i + 1), none⟩) b (o + (i + 1)) (c - (i + 1)) ((xs.drop (i + 1)).take N) (w.drewN n) (by rw [hlen]; omega) (.inr rfl) (hin2.drewN n)
      rw [hlen] at hS
      have hg : (xs.drop (i + 1)).getD N 0 = xs.getD (i + 1 + N) 0 := by rw [List.getD_eq_getElem?_getD, List.getD_eq_getElem?_getD, List.getElem?_drop]
      have hF2 : frHd ((N : Int) :: xs.drop (i + 1)) = if xs.getD (i + 1 + N) 0 = sumOf ((xs.drop (i + 1)).take N) then some ((xs.drop (i + 1)).take N) else none := by
        simp only [frHd, Int.toNat_natCast, hg, hrl]
        by_cases hq : xs.getD (i + 1 + N) 0 = sumOf ((xs.drop (i + 1)).take N)
        · rw [if_pos hq, if_pos ⟨by omega, by omega, by omega, hq⟩]
        · rw [if_neg hq, if_neg (fun h => hq h.2.2.2)]
      rw [hF2] at hFV
      clear hF2 hg hin2 hrl hdr hzz hin
      have HS := Lib.hid hS
      clear hS
      generalize xs.getD (i + 1 + N) 0 = y at *
      have hw1 : IntKind.i64.wrap ((i : Int) + 1) = ((i + 1 : Nat) : Int) := by rw [IntWalk.i64_in _ (by omega)]; omega
      have hw2 : IntKind.i64.wrap (((i + 1 : Nat) : Int) + (N : Int)) = ((i + 1 + N : Nat) : Int) := by rw [IntWalk.i64_in _ (by omega)]; omega
      have hw3 : IntKind.i64.wrap ((i : Int) + (N : Int)) = ((i + N : Nat) : Int) := by rw [IntWalk.i64_in _ (by omega)]; omega
      have hw4 : IntKind.i64.wrap (((i + N : Nat) : Int) + 2) = ((i + N + 2 : Nat) : Int) := by rw [IntWalk.i64_in _ (by omega)]; omega
      have hw5 : IntKind.i64.wrap ((N : Int) + 2) = (N : Int) + 2 := IntWalk.i64_in _ (by omega)
      have hw6 : IntKind.i64.wrap ((xs.length : Int) - (i : Int)) = (xs.length : Int) - (i : Int) := IntWalk.i64_in _ (by omega)
      have d1 : ¬ (i : Int) < 0 := by omega
      have d2 : ¬ (xs.length : Int) ≤ (i : Int) := by omega
      have d3 : (i : Int) < (xs.length : Int) := by omega
      have d4 : ¬ (N : Int) < 1 := by omega
      have d5 : ¬ (100 : Int) < (N : Int) := by omega
      have d6 : ¬ (xs.length : Int) - (i : Int) < (N : Int) + 2 := by omega
      have hixI := fun w' => hix (i : Int) w' (by omega) (by omega)
      have hixJ := fun w' => hix ((i + 1 + N : Nat) : Int) w' (by omega) (by omega)
      simp only [Int.toNat_natCast] at hixI hixJ
      have hz2' : w.cell? ⟨b, o + (i + 1 + N), none⟩ = some (.int .i64 y) := hz2
      subst ha1
      have hsl : ∀ w' : World, (Instr.sliceAt 26 (.slice (some ⟨b, o, none⟩) xs.length c) (some (.int .i64 ((i + 1 : Nat) : Int))) (some (.int .i64 ((i + 1 + N : Nat) : Int))) none).run Try.prog w' = .ok (.slice (some ⟨b, o + (i + 1), none⟩) N (c - (i + 1))) w' := fun w' => by
        rw [Abs.run_sliceAt (a := i + 1) (b := i + 1 + N) Abs.sl26 (.inl rfl) (.inl rfl) (by omega) (by omega), if_neg (by omega)]
        simp [Addr.add]
      clear hix hz2 hx
      by_cases hq : y = sumOf ((xs.drop (i + 1)).take N)
      · rw [if_pos hq] at hFV
        subst hq
        rw [hFV]
        dsimp only
        rw [hlen]
        clear hFV
        generalize sumOf ((xs.drop (i + 1)).take N) = s at *
        go_enter Try.func111, Try.ntmps111
        go_wp2_with (fail)
        go_quiet ((first | (go_at_call 55; first | (with_reducible exact quietL (HS.out _)))))
        go_wp2
        go_ret3
        exact ⟨by rw [show ((i + N + 2 : Nat) : Int) = (i : Int) + (N : Int) + 2 by omega] <;> rfl, _, rfl⟩
      · rw [if_neg hq] at hFV
        rw [hFV]
        dsimp only
        clear hFV
        generalize sumOf ((xs.drop (i + 1)).take N) = s at *
        go_enter Try.func111, Try.ntmps111
        go_wp2_with (fail)
        go_quiet ((first | (go_at_call 55; first | (with_reducible exact quietL (HS.out _)))))
        go_wp2
        go_ret3
        exact ⟨rfl, _, rfl⟩
    · have hF2 : frHd ((N : Int) :: xs.drop (i + 1)) = none := by
        simp only [frHd, Int.toNat_natCast, hrl]
        rw [if_neg (fun h => h1 ⟨by omega, by omega, by omega⟩)]
      rw [hF2] at hFV
      rw [hFV]
      dsimp only
      clear hFV hF2
      have hixI := fun w' => hix (i : Int) w' (by omega) (by omega)
      simp only [Int.toNat_natCast] at hixI
      have hw5 : IntKind.i64.wrap ((N : Int) + 2) = (N : Int) + 2 := IntWalk.i64_in _ (by omega)
      have hw6 : IntKind.i64.wrap ((xs.length : Int) - (i : Int)) = (xs.length : Int) - (i : Int) := IntWalk.i64_in _ (by omega)
      have d1 : ¬ (i : Int) < 0 := by omega
      have d2 : ¬ (xs.length : Int) ≤ (i : Int) := by omega
      subst ha1
      clear hix
      by_cases d4 : (N : Int) < 1
      · go_enter Try.func111, Try.ntmps111
        go_wp2
        go_ret3
        exact ⟨rfl, 0, rfl⟩
      · by_cases d5 : (100 : Int) < (N : Int)
        · go_enter Try.func111, Try.ntmps111
          go_wp2
          go_ret3
          exact ⟨rfl, 0, rfl⟩
        · have d6 : (xs.length : Int) - (i : Int) < (N : Int) + 2 := by omega
          go_enter Try.func111, Try.ntmps111
          go_wp2
          go_ret3
          exact ⟨rfl, 0, rfl⟩
  · obtain rfl : i = xs.length := by omega
    have hFV : frV b o c xs xs.length = .tuple #[.slice none 0 0, .int .i64 0, .bool false] := by unfold frV; rw [List.drop_length]; rfl
    rw [hFV]
    have d1 : ¬ (xs.length : Int) < 0 := by omega
    go_enter Try.func111, Try.ntmps111
    go_wp2
    go_ret3
    exact ⟨rfl, 0, rfl⟩
end Go.Proofs.Ytihpchbkodihpaa
