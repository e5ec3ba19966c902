/- Frames in a list of bytes: the program's frameAt. No statement of the seat is proved here. -/
import Derived.Test.YtmkecjamfippfaaRows
import Derived.WalkKit
import Derived.WalkSpells
import Derived.WalkLawsBesides
import Derived.Lib.Hide
import Derived.Handy
import Derived.BigQuiet
import Derived.Deep.QuietTactic
import Derived.RangeFuncNested
import Derived.RangeFuncBound
import Derived.RangeFuncCalls
import Derived.RangeFuncLeaves
import Derived.Shelf.Abstract
import Derived.Shelf.RegionOpen
import Derived.OwnWalkIn
import Derived.TacticsInMore
import Derived.LoopNIn
import Derived.LoopIn
import Derived.Test.YtmkecjamfippfaaRxLib
import Derived.Test.YtmkecjamfippfaaRxOwn
import Derived.Test.YtmkecjamfippfaaRxJobs
import Derived.Test.YtmkecjamfippfaaRxCodes3
import Derived.Test.YtmkecjamfippfaaRxFrames2
import Derived.Test.YtmkecjamfippfaaRxGCod
set_option linter.unusedSimpArgs false
set_option linter.unusedVariables false
namespace Go.Proofs.Ytmkecjamfippfaa
open Go.RowKit
open Abs (frHd)
def frV (b o c : Nat) (xs : List Int) (i : Nat) : Value := match frHd (xs.drop i) with
  | some bd => .tuple #[.slice (some ⟨b, o + (i + 1), none⟩) bd.length (c - (i + 1)), .int .i64 ((i + bd.length + 2 : Nat) : Int), .bool true]
  | none => .tuple #[.slice none 0 0, .int .i64 0, .bool false]
theorem quietL {P : Program} {f : FuncId} {args : Array Value} {w : World} {n : Nat} {v : Value}
    (h : Calls P f args (w.drewN n) fun e w' => e = .returned v ∧ w.drewN n = w') : Calls P f args (w.drewN n) fun e w'' => e = .returned v ∧ ∃ m, w'' = w.drewN m :=
  h.mono fun _ _ ⟨he, hm⟩ => ⟨he, n, hm.symm⟩
theorem Ints.drewN {w : World} {b o : Nat} {xs : List Int} (h : Ints w b o xs) (n : Nat) : Ints (w.drewN n) b o xs := h
theorem Ints.subC {w : World} {b o : Nat} {xs : List Int} (h : Ints w b o xs) (I m : Nat) (hm : I + m ≤ xs.length) : Ints w b (o + I) ((xs.drop I).take m) := fun i hi => by
  have hl : i < m := by rw [List.length_take, List.length_drop] at hi; omega
  have := h (I + i) (by omega)
  rw [← Nat.add_assoc] at this
  rw [this]
  congr 2
  rw [List.getD_eq_getElem?_getD, List.getD_eq_getElem?_getD, List.getElem?_take, if_pos hl, List.getElem?_drop]
set_option maxRecDepth 100000 in
set_option maxHeartbeats 2000000 in
theorem implFrameAt (b o c : Nat) (ao : Option Addr) (xs : List Int) (i : Nat) (w : World) (hx : bytesOk xs = true) (hc : xs.length ≤ c) (hcm : c ≤ maxLen) (ha : At ao b o xs.length) (hin : Ints w b o xs) (hi : i ≤ xs.length) :
    Calls Try.prog 136 #[.slice ao xs.length c, .int .i64 i] w fun e w' => e = .returned (frV b o c xs i) ∧ ∃ m, w' = w.drewN m := by
  have hl := bytesOk_len hx
  have hcm' := hcm
  unfold maxLen at hcm'
  by_cases h0 : i < xs.length
  · have hz := hin i h0
    have ha1 : ao = some ⟨b, o, none⟩ := ha.resolve_left (by omega)
    have hdr := List.drop_eq_getElem_cons h0
    have hzz : xs.getD i 0 = xs[i] := by rw [List.getD_eq_getElem?_getD, List.getElem?_eq_getElem h0]; rfl
    have hb := bytesOk_get hx i h0
    rw [hzz] at hz
    have hFV : frV b o c xs i = match frHd (xs[i] :: xs.drop (i + 1)) with
      | some bd => .tuple #[.slice (some ⟨b, o + (i + 1), none⟩) bd.length (c - (i + 1)), .int .i64 ((i + bd.length + 2 : Nat) : Int), .bool true]
      | none => .tuple #[.slice none 0 0, .int .i64 0, .bool false] := by unfold frV; rw [hdr]
    have hix := ha.ix (c := c) Try.underlying24 sz_int
    generalize xs[i] = z at *
    obtain ⟨N, rfl⟩ := Int.eq_ofNat_of_zero_le hb.1
    have hrl : (xs.drop (i + 1)).length = xs.length - (i + 1) := List.length_drop ..
    by_cases h1 : 1 ≤ N ∧ N ≤ 100 ∧ N < xs.length - (i + 1)
    · obtain ⟨h1, h2, h3⟩ := h1
      have hin2 := hin.subC (i + 1) N (by omega)
      have hz2 := hin (i + 1 + N) (by omega)
      have hlen : ((xs.drop (i + 1)).take N).length = N := by rw [List.length_take, hrl]; omega
      have hS := fun n => implCheckSum (some ⟨b, o + (i + 1), none⟩) b (o + (i + 1)) (c - (i + 1)) ((xs.drop (i + 1)).take N) (w.drewN n) (by rw [hlen]; omega) (.inr rfl) (hin2.drewN n)
      rw [hlen] at hS
      have hg : (xs.drop (i + 1)).getD N 0 = xs.getD (i + 1 + N) 0 := by rw [List.getD_eq_getElem?_getD, List.getD_eq_getElem?_getD, List.getElem?_drop]
      have hF2 : frHd ((N : Int) :: xs.drop (i + 1)) = if xs.getD (i + 1 + N) 0 = sumOf ((xs.drop (i + 1)).take N) then some ((xs.drop (i + 1)).take N) else none := by
        simp only [frHd, Int.toNat_natCast, hg, hrl]
        by_cases hq : xs.getD (i + 1 + N) 0 = sumOf ((xs.drop (i + 1)).take N)
        · rw [if_pos hq, if_pos ⟨by omega, by omega, by omega, hq⟩]
        · rw [if_neg hq, if_neg (fun h => hq h.2.2.2)]
      rw [hF2] at hFV
      clear hF2 hg hin2 hrl hdr hzz hin
      have HS := Lib.hid hS
      clear hS
      generalize xs.getD (i + 1 + N) 0 = y at *
      have hw1 : IntKind.i64.wrap ((i : Int) + 1) = ((i + 1 : Nat) : Int) := by rw [IntWalk.i64_in _ (by omega)]; omega
      have hw2 : IntKind.i64.wrap (((i + 1 : Nat) : Int) + (N : Int)) = ((i + 1 + N : Nat) : Int) := by rw [IntWalk.i64_in _ (by omega)]; omega
      have hw3 : IntKind.i64.wrap ((i : Int) + (N : Int)) = ((i + N : Nat) : Int) := by rw [IntWalk.i64_in _ (by omega)]; omega
      have hw4 : IntKind.i64.wrap (((i + N : Nat) : Int) + 2) = ((i + N + 2 : Nat) : Int) := by rw [IntWalk.i64_in _ (by omega)]; omega
      have hw5 : IntKind.i64.wrap ((N : Int) + 2) = (N : Int) + 2 := IntWalk.i64_in _ (by omega)
      have hw6 : IntKind.i64.wrap ((xs.length : Int) - (i : Int)) = (xs.length : Int) - (i : Int) := IntWalk.i64_in _ (by omega)
      have d1 : ¬ (i : Int) < 0 := by omega
      have d2 : ¬ (xs.length : Int) ≤ (i : Int) := by omega
      have d3 : (i : Int) < (xs.length : Int) := by omega
      have d4 : ¬ (N : Int) < 1 := by omega
      have d5 : ¬ (100 : Int) < (N : Int) := by omega
      have d6 : ¬ (xs.length : Int) - (i : Int) < (N : Int) + 2 := by omega
      have hixI := fun w' => hix (i : Int) w' (by omega) (by omega)
      have hixJ := fun w' => hix ((i + 1 + N : Nat) : Int) w' (by omega) (by omega)
      simp only [Int.toNat_natCast] at hixI hixJ
      have hz2' : w.cell? ⟨b, o + (i + 1 + N), none⟩ = some (.int .i64 y) := hz2
      subst ha1
      have hsl : ∀ w' : World, (Instr.sliceAt 24 (.slice (some ⟨b, o, none⟩) xs.length c) (some (.int .i64 ((i + 1 : Nat) : Int))) (some (.int .i64 ((i + 1 + N : Nat) : Int))) none).run Try.prog w' = .ok (.slice (some ⟨b, o + (i + 1), none⟩) N (c - (i + 1))) w' := fun w' => by
        rw [Abs.run_sliceAt (a := i + 1) (b := i + 1 + N) Abs.sl24 (.inl rfl) (.inl rfl) (by omega) (by omega), if_neg (by omega)]
        simp [Addr.add]
      clear hix hz2 hx
      by_cases hq : y = sumOf ((xs.drop (i + 1)).take N)
      · rw [if_pos hq] at hFV
        subst hq
        rw [hFV]
        dsimp only
        rw [hlen]
        clear hFV
        generalize sumOf ((xs.drop (i + 1)).take N) = s at *
        go_enter Try.func136, Try.ntmps136
        go_wp2_with (fail)
        go_quiet ((first|(go_at_call 78;first|(with_reducible exact quietL (HS.out _)))))
        go_wp2
        go_ret3
        exact ⟨by rw [show ((i + N + 2 : Nat) : Int) = (i : Int) + (N : Int) + 2 by omega] <;> rfl, _, rfl⟩
      · rw [if_neg hq] at hFV
        rw [hFV]
        dsimp only
        clear hFV
        generalize sumOf ((xs.drop (i + 1)).take N) = s at *
        go_enter Try.func136, Try.ntmps136
        go_wp2_with (fail)
        go_quiet ((first|(go_at_call 78;first|(with_reducible exact quietL (HS.out _)))))
        go_wp2
        go_ret3
        exact ⟨rfl, _, rfl⟩
    · have hF2 : frHd ((N : Int) :: xs.drop (i + 1)) = none := by
        simp only [frHd, Int.toNat_natCast, hrl]
        rw [if_neg (fun h => h1 ⟨by omega, by omega, by omega⟩)]
      rw [hF2] at hFV
      rw [hFV]
      dsimp only
      clear hFV hF2
      have hixI := fun w' => hix (i : Int) w' (by omega) (by omega)
      simp only [Int.toNat_natCast] at hixI
      have hw5 : IntKind.i64.wrap ((N : Int) + 2) = (N : Int) + 2 := IntWalk.i64_in _ (by omega)
      have hw6 : IntKind.i64.wrap ((xs.length : Int) - (i : Int)) = (xs.length : Int) - (i : Int) := IntWalk.i64_in _ (by omega)
      have d1 : ¬ (i : Int) < 0 := by omega
      have d2 : ¬ (xs.length : Int) ≤ (i : Int) := by omega
      subst ha1
      clear hix
      by_cases d4 : (N : Int) < 1
      · go_enter Try.func136, Try.ntmps136
        go_wp2
        go_ret3
        exact ⟨rfl, 0, rfl⟩
      · by_cases d5 : (100 : Int) < (N : Int)
        · go_enter Try.func136, Try.ntmps136
          go_wp2
          go_ret3
          exact ⟨rfl, 0, rfl⟩
        · have d6 : (xs.length : Int) - (i : Int) < (N : Int) + 2 := by omega
          go_enter Try.func136, Try.ntmps136
          go_wp2
          go_ret3
          exact ⟨rfl, 0, rfl⟩
  · obtain rfl : i = xs.length := by omega
    have hFV : frV b o c xs xs.length = .tuple #[.slice none 0 0, .int .i64 0, .bool false] := by unfold frV; rw [List.drop_length]; rfl
    rw [hFV]
    have d1 : ¬ (xs.length : Int) < 0 := by omega
    go_enter Try.func136, Try.ntmps136
    go_wp2
    go_ret3
    exact ⟨rfl, 0, rfl⟩
end Go.Proofs.Ytmkecjamfippfaa
set_option linter.unusedSimpArgs false
set_option linter.unusedVariables false
namespace Go.Proofs.Ytmkecjamfippfaa
open Go.RowKit
open Go.Shelf
open Abs (frHd)
attribute [local go_sem] Oper.semAt_some
def itsF (xs : List Int) : Nat → Nat → List (Nat × List Int)
  | 0, _ => []
  | f + 1, i => match frHd (xs.drop i) with
    | some bd => (i, bd) :: itsF xs f (i + bd.length + 2)
    | none => []
def itsA (xs : List Int) (i : Nat) : List (Nat × List Int) := itsF xs (xs.length + 1 - i) i
theorem frHd_len {xs bd : List Int} (h : frHd xs = some bd) : bd.length + 2 ≤ xs.length := by
  cases xs with
  | nil => cases h
  | cons n r =>
    simp only [frHd] at h
    split at h
    · rename_i hc
      injection h with h
      subst h
      simp only [List.length_take, List.length_cons]
      omega
    · cases h
theorem itsF_fuel (xs : List Int) : ∀ (f g i : Nat), xs.length + 1 - i ≤ f → xs.length + 1 - i ≤ g → i ≤ xs.length → itsF xs f i = itsF xs g i
  | 0, g, i, h1, h2, h3 => by omega
  | f + 1, 0, i, h1, h2, h3 => by omega
  | f + 1, g + 1, i, h1, h2, h3 => by
    simp only [itsF]
    cases hh : frHd (xs.drop i) with
    | none => rfl
    | some bd =>
      have := frHd_len hh
      rw [List.length_drop] at this
      simp only
      rw [itsF_fuel xs f g _ (by omega) (by omega) (by omega)]
theorem itsA_none {xs : List Int} {i : Nat} (hi : i ≤ xs.length) (h : frHd (xs.drop i) = none) : itsA xs i = [] := by
  unfold itsA
  obtain ⟨k, hk⟩ : ∃ k, xs.length + 1 - i = k + 1 := ⟨xs.length - i, by omega⟩
  rw [hk]; simp only [itsF, h]
theorem itsA_some {xs bd : List Int} {i : Nat} (hi : i ≤ xs.length) (h : frHd (xs.drop i) = some bd) : itsA xs i = (i, bd) :: itsA xs (i + bd.length + 2) := by
  have hl := frHd_len h
  rw [List.length_drop] at hl
  unfold itsA
  obtain ⟨k, hk⟩ : ∃ k, xs.length + 1 - i = k + 1 := ⟨xs.length - i, by omega⟩
  rw [hk]; simp only [itsF, h]
  rw [itsF_fuel xs k (xs.length + 1 - (i + bd.length + 2)) _ (by omega) (by omega) (by omega)]
structure Frm (xs : List Int) where
  i : Nat
  bd : List Int
  le : i + 1 + bd.length ≤ xs.length
  eq : (xs.drop (i + 1)).take bd.length = bd
  pos : 1 ≤ bd.length
theorem frHd_fr {xs bd : List Int} {i : Nat} (h : frHd (xs.drop i) = some bd) : i + 1 + bd.length ≤ xs.length ∧ (xs.drop (i + 1)).take bd.length = bd ∧ 1 ≤ bd.length := by
  have hl := frHd_len h
  rw [List.length_drop] at hl
  cases hd : xs.drop i with
  | nil => rw [hd] at h; cases h
  | cons n r =>
    have hr : xs.drop (i + 1) = r := by rw [← List.drop_drop, hd]; rfl
    rw [hd] at h
    simp only [frHd] at h
    split at h
    · rename_i hc
      injection h with h
      subst h
      rw [hr]
      refine ⟨by omega, ?_, ?_⟩
      · rw [List.length_take, Nat.min_eq_left (by omega)]
      · rw [List.length_take]; omega
    · cases h
abbrev Frm.p {xs : List Int} (x : Frm xs) : Nat × List Int := (x.i, x.bd)
def encsF (b o c : Nat) {xs : List Int} (x : Frm xs) : Array Value := #[.slice (some ⟨b, o + (x.i + 1), none⟩) x.bd.length (c - (x.i + 1)), .int .i64 ((x.i : Int) + (x.bd.length : Int) + 2)]
def GF (Bb b o c : Nat) (ao : Option Addr) (xs : List Int) (W : World) : Prop := W.cell? ⟨Bb, 0, none⟩ = some (.slice ao xs.length c) ∧ Ints W b o xs
set_option maxRecDepth 100000 in
set_option maxHeartbeats 2000000 in
theorem frames_stops (n : Nat) (hn : 1 ≤ n) (Bb b o c : Nat) (ao : Option Addr) (xs : List Int) (w0 : World) (hx : bytesOk xs = true) (hc : xs.length ≤ c) (hcm : c ≤ maxLen) (ha : At ao b o xs.length) (hG : ∀ W, Below w0.heap.size w0 W → GF Bb b o c ao xs W) :
    SeqStopsK Fence.wide n Try.prog 135 #[.pointer (some ⟨Bb, 0, none⟩)] (fun x : Frm xs => encsF b o c x) (fun A B => GF Bb b o c ao xs A → GF Bb b o c ao xs B) (fun ys => ys.map Frm.p = itsA xs 0) (fun _ => True) (itsA xs 0).length w0 := by
  intro l J Jx W hW hJ hJx hY h0
  have hro : Fence.wide.round = none := rfl
  have hGW := hG W hW
  refine callsIn_of_wp Try.func135 rfl trivial ?_ hro
  simp only [Try.ntmps135, List.size_toArray, List.length_cons, List.length_nil, Nat.reduceAdd, Nat.reduceSub, Array.replicate_succ, Array.replicate_zero, List.push_toArray, List.append_toArray, List.nil_append, List.cons_append]
  gi_wp2
  gi_loopw [3] (fun p wr => ∃ (pre : List (Frm xs)) (i : Nat), p = .int .i64 (i : Int) ∧ i ≤ xs.length ∧ itsA xs 0 = pre.map Frm.p ++ itsA xs i ∧ J pre wr ∧ GF Bb b o c ao xs wr)
    (fun p _ => xs.length - (intOf p).toNat)
  case atStart => exact ⟨[], 0, rfl, Nat.zero_le _, rfl, h0, hGW⟩
  case round =>
    obtain ⟨pre, i, rfl, hi, hE, hJs, hGs⟩ := hrel
    obtain ⟨hg1, hg2⟩ := hGs
    have hF := implFrameAt b o c ao xs i wr hx hc hcm ha hg2 hi
    have hJd : ∀ m, J pre (wr.drewN m) := fun m => hJ pre wr (wr.drewN m) none hJs (gb_drewN (World.grownBy.refl wr none) m) (fun r e => by cases e)
    cases hh : frHd (xs.drop i) with
    | none =>
      have hV : frV b o c xs i = .tuple #[.slice none 0 0, .int .i64 0, .bool false] := by unfold frV; rw [hh]
      rw [hV] at hF
      rw [itsA_none hi hh, List.append_nil] at hE
      clear hV hh hY
      gi_wp2_with (refine ⟨trivial, ?_⟩; gi_at_call 136; refine (callsIn_wide.2 hF).mono ?_; rintro e w1 ⟨rfl, m, rfl⟩)
      refine ⟨fun _ h => (by cases h), ?_⟩
      gi_wp2
      refine bodyPost_ret (results_none rfl _ _ _) rfl ?_
      exact ⟨⟨_, rfl⟩, .inl ⟨pre, hE.symm, hJd m⟩⟩
    | some bd =>
      have hl := frHd_len hh
      rw [List.length_drop] at hl
      have hV : frV b o c xs i = .tuple #[.slice (some ⟨b, o + (i + 1), none⟩) bd.length (c - (i + 1)), .int .i64 ((i + bd.length + 2 : Nat) : Int), .bool true] := by unfold frV; rw [hh]
      rw [hV] at hF
      rw [itsA_some hi hh] at hE
      have hlen : pre.length < (itsA xs 0).length := by rw [hE]; simp
      obtain ⟨q1, q2, q3⟩ := frHd_fr hh
      have hYm := fun m => hY pre ⟨i, bd, q1, q2, q3⟩ (wr.drewN m) (hJd m) hlen
      unfold encsF at hYm
      dsimp only at hYm
      clear hV hh hY
      gi_wp2_with (refine ⟨trivial, ?_⟩; gi_at_call 136; refine (callsIn_wide.2 hF).mono ?_; rintro e w1 ⟨rfl, m, rfl⟩; obtain ⟨fn, tmps, assign, body, hy, hR⟩ := hYm m)
      refine hR.mono ?_
      rintro e W3 (⟨rfl, hJ3, hk3⟩ | ⟨rfl, hJx3⟩)
      · gi_wp2
        go_roundw
        case rel => exact ⟨pre ++ [⟨i, bd, q1, q2, q3⟩], i + bd.length + 2, by first|rfl|(congr 1), by omega, by rw [hE, List.map_append, List.append_assoc];rfl, hJ3, hk3 ⟨hg1, hg2⟩⟩
        case measure => simp only [intOf]; omega
      · gi_wp2
        refine bodyPost_ret (results_none rfl _ _ _) rfl ?_
        exact ⟨⟨_, rfl⟩, .inr ⟨_, trivial, hJx3⟩⟩
end Go.Proofs.Ytmkecjamfippfaa
