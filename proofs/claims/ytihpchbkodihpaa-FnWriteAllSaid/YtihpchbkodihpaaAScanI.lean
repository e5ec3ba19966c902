/- The iterator over frames, walked. No statement of the seat is proved here. -/
import Derived.RangeFuncNested
import Derived.RangeFuncBound
import Derived.RangeFuncCalls
import Derived.RangeFuncLeaves
import Derived.Shelf.Abstract
import Derived.Shelf.RegionOpen
import Derived.OwnWalkIn
import Derived.TacticsInMore
import Derived.LoopNIn
import Derived.LoopIn
import Derived.Test.YtihpchbkodihpaaRows
import Derived.WalkKit
import Derived.WalkSpells
import Derived.WalkLawsBesides
import Derived.Lib.Hide
import Derived.Handy
import Derived.BigQuiet
import Derived.Deep.QuietTactic
import Derived.Test.YtihpchbkodihpaaLib
import Derived.Test.YtihpchbkodihpaaOwn
import Derived.Test.YtihpchbkodihpaaJobs
import Derived.Test.YtihpchbkodihpaaCodes3
import Derived.Test.YtihpchbkodihpaaFrames2
import Derived.Test.YtihpchbkodihpaaGCod
import Derived.Test.YtihpchbkodihpaaAScan
set_option linter.unusedSimpArgs false
set_option linter.unusedVariables false
namespace Go.Proofs.Ytihpchbkodihpaa
open Go.RowKit

open Go.Shelf
open Abs (frHd)
attribute [local go_sem] Oper.semAt_some
/-- The frames from a place on: each with its place. -/
def itsF (xs : List Int) : Nat → Nat → List (Nat × List Int)
  | 0, _ => []
  | f + 1, i => match frHd (xs.drop i) with
    | some bd => (i, bd) :: itsF xs f (i + bd.length + 2)
    | none => []
def itsA (xs : List Int) (i : Nat) : List (Nat × List Int) := itsF xs (xs.length + 1 - i) i
theorem frHd_len {xs bd : List Int} (h : frHd xs = some bd) : bd.length + 2 ≤ xs.length := by
  cases xs with
  | nil => cases h
  | cons n r =>
    simp only [frHd] at h
    split at h
    · rename_i hc
      injection h with h
      subst h
      simp only [List.length_take, List.length_cons]
      omega
    · cases h
theorem itsF_fuel (xs : List Int) : ∀ (f g i : Nat), xs.length + 1 - i ≤ f → xs.length + 1 - i ≤ g → i ≤ xs.length → itsF xs f i = itsF xs g i
  | 0, g, i, h1, h2, h3 => by omega
  | f + 1, 0, i, h1, h2, h3 => by omega
  | f + 1, g + 1, i, h1, h2, h3 => by
    simp only [itsF]
    cases hh : frHd (xs.drop i) with
    | none => rfl
    | some bd =>
      have := frHd_len hh
      rw [List.length_drop] at this
      simp only
      rw [itsF_fuel xs f g _ (by omega) (by omega) (by omega)]
theorem itsA_none {xs : List Int} {i : Nat} (hi : i ≤ xs.length) (h : frHd (xs.drop i) = none) : itsA xs i = [] := by
  unfold itsA
  obtain ⟨k, hk⟩ : ∃ k, xs.length + 1 - i = k + 1 := ⟨xs.length - i, by omega⟩
  rw [hk]; simp only [itsF, h]
theorem itsA_some {xs bd : List Int} {i : Nat} (hi : i ≤ xs.length) (h : frHd (xs.drop i) = some bd) : itsA xs i = (i, bd) :: itsA xs (i + bd.length + 2) := by
  have hl := frHd_len h
  rw [List.length_drop] at hl
  unfold itsA
  obtain ⟨k, hk⟩ : ∃ k, xs.length + 1 - i = k + 1 := ⟨xs.length - i, by omega⟩
  rw [hk]; simp only [itsF, h]
  rw [itsF_fuel xs k (xs.length + 1 - (i + bd.length + 2)) _ (by omega) (by omega) (by omega)]
/-- A frame in a list. -/
structure Frm (xs : List Int) where
  i : Nat
  bd : List Int
  le : i + 1 + bd.length ≤ xs.length
  eq : (xs.drop (i + 1)).take bd.length = bd
  pos : 1 ≤ bd.length
theorem frHd_fr {xs bd : List Int} {i : Nat} (h : frHd (xs.drop i) = some bd) : i + 1 + bd.length ≤ xs.length ∧ (xs.drop (i + 1)).take bd.length = bd ∧ 1 ≤ bd.length := by
  have hl := frHd_len h
  rw [List.length_drop] at hl
  cases hd : xs.drop i with
  | nil => rw [hd] at h; cases h
  | cons n r =>
    have hr : xs.drop (i + 1) = r := by rw [← List.drop_drop, hd]; rfl
    rw [hd] at h
    simp only [frHd] at h
    split at h
    · rename_i hc
      injection h with h
      subst h
      rw [hr]
      refine ⟨by omega, ?_, ?_⟩
      · rw [List.length_take, Nat.min_eq_left (by omega)]
      · rw [List.length_take]; omega
    · cases h
abbrev Frm.p {xs : List Int} (x : Frm xs) : Nat × List Int := (x.i, x.bd)
def encsF (b o c : Nat) {xs : List Int} (x : Frm xs) : Array Value := #[.slice (some ⟨b, o + (x.i + 1), none⟩) x.bd.length (c - (x.i + 1)), .int .i64 ((x.i : Int) + (x.bd.length : Int) + 2)]
/-- What the iterator reads. -/
def GF (Bb b o c : Nat) (ao : Option Addr) (xs : List Int) (W : World) : Prop := W.cell? ⟨Bb, 0, none⟩ = some (.slice ao xs.length c) ∧ Ints W b o xs
set_option maxRecDepth 100000 in
set_option maxHeartbeats 2000000 in
theorem frames_stops (n : Nat) (hn : 1 ≤ n) (Bb b o c : Nat) (ao : Option Addr) (xs : List Int) (w0 : World) (hx : bytesOk xs = true) (hc : xs.length ≤ c) (hcm : c ≤ maxLen) (ha : At ao b o xs.length) (hG : ∀ W, Below w0.heap.size w0 W → GF Bb b o c ao xs W) :
    SeqStopsK Fence.wide n Try.prog 110 #[.pointer (some ⟨Bb, 0, none⟩)] (fun x : Frm xs => encsF b o c x) (fun A B => GF Bb b o c ao xs A → GF Bb b o c ao xs B) (fun ys => ys.map Frm.p = itsA xs 0) (fun _ => True) (itsA xs 0).length w0 := by
  intro l J Jx W hW hJ hJx hY h0
  have hro : Fence.wide.round = none := rfl
  have hGW := hG W hW
  refine callsIn_of_wp Try.func110 rfl trivial ?_ hro
  simp only [Try.ntmps110, List.size_toArray, List.length_cons, List.length_nil, Nat.reduceAdd, Nat.reduceSub, Array.replicate_succ, Array.replicate_zero, List.push_toArray, List.append_toArray, List.nil_append, List.cons_append]
  gi_wp2
  gi_loopw [3] (fun p wr => ∃ (pre : List (Frm xs)) (i : Nat), p = .int .i64 (i : Int) ∧ i ≤ xs.length ∧ itsA xs 0 = pre.map Frm.p ++ itsA xs i ∧ J pre wr ∧ GF Bb b o c ao xs wr)
    (fun p _ => xs.length - (intOf p).toNat)
  case atStart => exact ⟨[], 0, rfl, Nat.zero_le _, rfl, h0, hGW⟩
  case round =>
    obtain ⟨pre, i, rfl, hi, hE, hJs, hGs⟩ := hrel
    obtain ⟨hg1, hg2⟩ := hGs
    have hF := implFrameAt b o c ao xs i wr hx hc hcm ha hg2 hi
    have hJd : ∀ m, J pre (wr.drewN m) := fun m => hJ pre wr (wr.drewN m) none hJs (gb_drewN (World.grownBy.refl wr none) m) (fun r e => by cases e)
    cases hh : frHd (xs.drop i) with
    | none =>
      have hV : frV b o c xs i = .tuple #[.slice none 0 0, .int .i64 0, .bool false] := by unfold frV; rw [hh]
      rw [hV] at hF
      rw [itsA_none hi hh, List.append_nil] at hE
      clear hV hh hY
      gi_wp2_with (refine ⟨trivial, ?_⟩; gi_at_call 111; refine (callsIn_wide.2 hF).mono ?_; rintro e w1 ⟨rfl, m, rfl⟩)
      refine ⟨fun _ h => (by cases h), ?_⟩
      gi_wp2
      refine bodyPost_ret (results_none rfl _ _ _) rfl ?_
      exact ⟨⟨_, rfl⟩, .inl ⟨pre, hE.symm, hJd m⟩⟩
    | some bd =>
      have hl := frHd_len hh
      rw [List.length_drop] at hl
      have hV : frV b o c xs i = .tuple #[.slice (some ⟨b, o + (i + 1), none⟩) bd.length (c - (i + 1)), .int .i64 ((i + bd.length + 2 : Nat) : Int), .bool true] := by unfold frV; rw [hh]
      rw [hV] at hF
      rw [itsA_some hi hh] at hE
      have hlen : pre.length < (itsA xs 0).length := by rw [hE]; simp
      obtain ⟨q1, q2, q3⟩ := frHd_fr hh
      have hYm := fun m => hY pre ⟨i, bd, q1, q2, q3⟩ (wr.drewN m) (hJd m) hlen
      unfold encsF at hYm
      dsimp only at hYm
      clear hV hh hY
      gi_wp2_with (refine ⟨trivial, ?_⟩; gi_at_call 111; refine (callsIn_wide.2 hF).mono ?_; rintro e w1 ⟨rfl, m, rfl⟩; obtain ⟨fn, tmps, assign, body, hy, hR⟩ := hYm m)
      refine hR.mono ?_
      rintro e W3 (⟨rfl, hJ3, hk3⟩ | ⟨rfl, hJx3⟩)
      · gi_wp2
        go_roundw
        case rel => exact ⟨pre ++ [⟨i, bd, q1, q2, q3⟩], i + bd.length + 2, by first | rfl | (congr 1), by omega, by rw [hE, List.map_append, List.append_assoc]; rfl, hJ3, hk3 ⟨hg1, hg2⟩⟩
        case measure => simp only [intOf]; omega
      · gi_wp2
        refine bodyPost_ret (results_none rfl _ _ _) rfl ?_
        exact ⟨⟨_, rfl⟩, .inr ⟨_, trivial, hJx3⟩⟩
end Go.Proofs.Ytihpchbkodihpaa
