/- Numbers as bytes: what the tests, the writers and the readers of codes return. No statement of the seat is proved here. -/
import Derived.Test.YtlobefglhppbdaaGreatDoorRows
import Derived.WalkKit
import Derived.WalkSpells
import Derived.WalkLawsBesides
import Derived.Lib.Hide
import Derived.Handy
import Derived.BigQuiet
import Derived.Deep.QuietTactic
import Derived.LoopN
import Derived.Deep.RegionHeld3
import Derived.Lib.AppendZerosOnto
import Derived.Lib.SliceRun
import Derived.Test.YtlobefglhppbdaaGreatDoorCtLib
import Derived.Test.YtlobefglhppbdaaGreatDoorCtOwn
import Derived.Test.YtlobefglhppbdaaGreatDoorCtJobs
set_option linter.unusedSimpArgs false
set_option linter.unusedVariables false
set_option maxRecDepth 100000
set_option maxHeartbeats 4000000
namespace Go.Proofs.YtlobefglhppbdaaGreatDoor
open Go.RowKit
theorem sz_int (w : World) : (sizeOf 3).run Tryz.prog w = .ok 1 w := by kernel_rfl
theorem el_int : El Tryz.prog 27 3 1 8 (.int .i64 0) := ⟨Tryz.underlying27, info_parts (by kernel_rfl), rfl, by omega⟩
def enc (n : Int) : List Int :=
  if n < 0 ∨ 1000000 < n then [] else if n < 128 then [n] else if n < 16384 then [n % 128 + 128, n / 128] else [n % 128 + 128, n / 128 % 128 + 128, n / 128 / 128]
structure Rdr (w : World) (rb : Nat) (s : Value) (at_ : Int) : Prop where
  c0 : w.cell? ⟨rb, 0, none⟩ = some s
  c1 : w.cell? ⟨rb, 1, none⟩ = some (.int .i64 at_)
  f1 : w.frozen? ⟨rb, 1, none⟩ = false
theorem Rdr.new (w : World) (s : Value) (n : Int) (T : Nat) : Rdr (w.alloc (.cells #[s, .int .i64 n] T)) w.heap.size s n :=
  ⟨by rw [World.cell?_alloc_at _ _ _ _ rfl]; rfl, by rw [World.cell?_alloc_at _ _ _ _ rfl]; rfl, frozen_new _ _ _ _⟩
end Go.Proofs.YtlobefglhppbdaaGreatDoor
set_option linter.unusedSimpArgs false
set_option linter.unusedVariables false
namespace Go.Proofs.YtlobefglhppbdaaGreatDoor
open Go.RowKit
abbrev E3 := Int × Int × Int
def ev : List E3 → List Value
  | [] => []
  | e :: t => .int .i64 e.1 :: .int .i64 e.2.1 :: .int .i64 e.2.2 :: ev t
theorem ev_len : ∀ es : List E3, (ev es).length = es.length * 3
  | [] => rfl
  | e :: t => by simp [ev, ev_len t]; omega
theorem ev_append : ∀ xs ys : List E3, ev (xs ++ ys) = ev xs ++ ev ys
  | [], ys => rfl
  | e :: t, ys => by simp [ev, ev_append t ys]
theorem oneCell_ev : ∀ (es : List E3), ∀ u ∈ ev es, u.oneCell' = true
  | [], u, h => by simp [ev] at h
  | e :: t, u, h => by
    simp only [ev, List.mem_cons] at h
    rcases h with rfl | rfl | rfl | h
    · rfl
    · rfl
    · rfl
    · exact oneCell_ev t u h
theorem ev_get : ∀ (es : List E3) (k : Nat) (h : k < es.length), (ev es)[k * 3]? = some (.int .i64 es[k].1) ∧ (ev es)[k * 3 + 1]? = some (.int .i64 es[k].2.1) ∧ (ev es)[k * 3 + 2]? = some (.int .i64 es[k].2.2)
  | e :: t, 0, _ => ⟨rfl, rfl, rfl⟩
  | e :: t, k + 1, h => by
    have := ev_get t k (by simpa using h)
    rw [show (k + 1) * 3 = k * 3 + 1 + 1 + 1 by omega]
    simpa [ev] using this
theorem sz_edge (w : World) : (sizeOf 50).run Tryz.prog w = .ok 3 w := by kernel_rfl
theorem el_edge : El Tryz.prog 23 50 3 24 (.agg #[.int .i64 0, .int .i64 0, .int .i64 0]) := ⟨Tryz.underlying23, info_parts (by kernel_rfl), rfl, by omega⟩
abbrev Se (w : World) (ao : Option Addr) (es : List E3) : Prop := Src w ao es.length 3 (ev es)
def Edg (w : World) (b o : Nat) (es : List E3) : Prop := ∀ k (h : k < es.length), w.cell? ⟨b, o + k * 3, none⟩ = some (.int .i64 es[k].1) ∧ w.cell? ⟨b, o + k * 3 + 1, none⟩ = some (.int .i64 es[k].2.1) ∧ w.cell? ⟨b, o + k * 3 + 2, none⟩ = some (.int .i64 es[k].2.2)
theorem Src.edges {w : World} {ao : Option Addr} {es : List E3} (h : Se w ao es) : ∃ b o, At ao b o es.length ∧ Edg w b o es := by
  obtain ⟨b, o, ha, hc⟩ := h.at_
  refine ⟨b, o, ha, fun k hk => ?_⟩
  obtain ⟨h0, h1, h2⟩ := ev_get es k hk
  exact ⟨hc _ _ h0, by rw [Nat.add_assoc]; exact hc _ _ h1, by rw [Nat.add_assoc]; exact hc _ _ h2⟩
theorem Edg.lt {w : World} {b o : Nat} {es : List E3} (h : Edg w b o es) (hn : 0 < es.length) : b < w.heap.size := World.block_lt_of_cell? w _ (h 0 hn).1
theorem Edg.keep {w w' : World} {b o : Nat} {es : List E3} (h : Edg w b o es) (hk : Keeps w w') : Edg w' b o es := fun k hk' => by
  have hb := h.lt (by omega)
  obtain ⟨h0, h1, h2⟩ := h k hk'
  exact ⟨(hk _ hb).trans h0, (hk _ hb).trans h1, (hk _ hb).trans h2⟩
theorem Edg.below {B : Nat} {w w' : World} {b o : Nat} {es : List E3} (h : Edg w b o es) (hb : Below B w w') (hB : w.heap.size ≤ B) : Edg w' b o es := h.keep (keeps_below hb hB)
abbrev gr (m : Int) (ao : Option Addr) (n c : Nat) : Value := .agg #[.int .i64 m, .slice ao n c]
abbrev ed (e : E3) : Value := .agg #[.int .i64 e.1, .int .i64 e.2.1, .int .i64 e.2.2]
def hasV (m v : Int) : Bool := decide (0 ≤ v ∧ v < m)
def before (a b : E3) : Bool := decide (a.1 < b.1 ∨ a.1 = b.1 ∧ a.2.1 < b.2.1)
def cmpI (a b : Int) : Int := if a < b then -1 else if b < a then 1 else 0
def orI (x y : Int) : Int := if x = 0 then y else x
def cmpE (a b : E3) : Int := if cmpI a.1 b.1 = 0 then cmpI a.2.1 b.2.1 else cmpI a.1 b.1
theorem cmpE_neg (a b : E3) : (cmpE a b < 0) = (before a b = true) := by
  unfold cmpE cmpI before
  apply propext
  simp only [decide_eq_true_eq]
  split <;> (split <;> (try split) <;> (try split) <;> omega)
theorem implHas (m : Int) (ao : Option Addr) (n c : Nat) (v : Int) (w : World) : Calls Tryz.prog 28 #[gr m ao n c, .int .i64 v] w fun e w' => e = .returned (.bool (hasV m v)) ∧ Below w.heap.size w w' := by
  go_enter Tryz.func28, Tryz.ntmps28
  go_wp2
  all_goals (go_ret;exact ⟨ret_bool (bool_of_iff (by simp_all [hasV] <;> omega)), (by repeat' (first|(with_reducible exact Below.refl _ _)|(with_reducible assumption)|(with_reducible refine Below.alloc ?_ ?_ _)|(with_reducible refine Below.drew ?_)|(with_reducible refine below_drewN ?_ _)|(with_reducible refine Below.setCell ?_ ?_ _)|(refine bstep (by with_reducible assumption) ?_)|(refine bstep2 (by with_reducible assumption) (by first|omega|(simp;done)|(simp;omega)) ?_)|go_size))⟩)
theorem cmpNaN (a : Int) (w : World) : Calls Tryz.prog 48 #[.int .i64 a] w fun e w' => e = .returned (.bool false) ∧ w = w' := by
  have h : (a != a) = false := by simp
  go_enter Tryz.func48, Tryz.ntmps48
  go_wp2
  go_ret
  exact ⟨rfl, rfl⟩
theorem cmpCompare (a b : Int) (w : World) : Calls Tryz.prog 43 #[.int .i64 a, .int .i64 b] w fun e w' => e = .returned (.int .i64 (cmpI a b)) ∧ w = w' := by
  by_cases h1 : a < b
  · have HE : Hid (cmpI a b = -1) := by unfold Hid cmpI; rw [if_pos h1]
    go_enter Tryz.func43, Tryz.ntmps43
    go_wp2_with (first|(go_at_call 48;refine (cmpNaN _ _).mono ?_;rintro e w1 ⟨rfl, rfl⟩))
    go_ret
    exact ⟨ret_int HE.out.symm, rfl⟩
  · by_cases h2 : b < a
    · have HE : Hid (cmpI a b = 1) := by unfold Hid cmpI; rw [if_neg h1, if_pos h2]
      go_enter Tryz.func43, Tryz.ntmps43
      go_wp2_with (first|(go_at_call 48;refine (cmpNaN _ _).mono ?_;rintro e w1 ⟨rfl, rfl⟩))
      go_ret
      exact ⟨ret_int HE.out.symm, rfl⟩
    · have HE : Hid (cmpI a b = 0) := by unfold Hid cmpI; rw [if_neg h1, if_neg h2]
      have h1' : b ≤ a := by omega
      have h2' : a ≤ b := by omega
      go_enter Tryz.func43, Tryz.ntmps43
      go_wp2_with (first|(go_at_call 48;refine (cmpNaN _ _).mono ?_;rintro e w1 ⟨rfl, rfl⟩))
      go_ret
      exact ⟨ret_int HE.out.symm, rfl⟩
theorem cmpOr (B : Nat) (x y : Int) (w : World) (h0 : w.cell? ⟨B, 0, none⟩ = some (.int .i64 x)) (h1 : w.cell? ⟨B, 1, none⟩ = some (.int .i64 y)) :
    Calls Tryz.prog 42 #[.slice (some ⟨B, 0, none⟩) 2 2] w fun e w' => e = .returned (.int .i64 (orI x y)) ∧ w = w' := by
  have hs := sz_int
  by_cases hx : x = 0
  · have hxb : (x != 0) = false := by simp [hx]
    have HX := Lib.hid hx
    clear hx
    by_cases hy : y = 0
    · have hyb : (y != 0) = false := by simp [hy]
      have HY := Lib.hid hy
      clear hy
      go_enter Tryz.func42, Tryz.ntmps42
      go_wp2
      refine wp_loop_rounds 3 ?_
      rw [rounds_succ]
      go_wp2
      rw [rounds_succ]
      go_wp2
      rw [rounds_succ]
      go_wp2
      go_ret
      exact ⟨ret_int (by unfold orI; rw [if_pos HX.out, HY.out]), rfl⟩
    · have hyb : (y != 0) = true := by simp [hy]
      go_enter Tryz.func42, Tryz.ntmps42
      go_wp2
      refine wp_loop_rounds 3 ?_
      rw [rounds_succ]
      go_wp2
      rw [rounds_succ]
      go_wp2
      go_ret
      exact ⟨ret_int (by unfold orI; rw [if_pos HX.out]), rfl⟩
  · have hxb : (x != 0) = true := by simp [hx]
    have HX := Lib.hid hx
    clear hx
    go_enter Tryz.func42, Tryz.ntmps42
    go_wp2
    refine wp_loop_rounds 3 ?_
    rw [rounds_succ]
    go_wp2
    go_ret
    exact ⟨ret_int (by unfold orI; rw [if_neg HX.out]), rfl⟩
theorem implCompareEnds (a b : E3) (w : World) : Calls Tryz.prog 33 #[ed a, ed b] w fun e w' => e = .returned (.int .i64 (cmpE a b)) ∧ Below w.heap.size w w' := by
  have HE : Hid (cmpE a b = orI (cmpI a.1 b.1) (cmpI a.2.1 b.2.1)) := rfl
  have KC := Lib.hid (fun x y W => Lib.hid (cmpCompare x y W))
  have KO := Lib.hid (fun B x y W h0 h1 => Lib.hid (cmpOr B x y W h0 h1))
  obtain ⟨a0, a1, a2⟩ := a
  obtain ⟨b0, b1, b2⟩ := b
  dsimp only at HE ⊢
  generalize cmpE (a0, a1, a2) (b0, b1, b2) = r at *
  go_enter Tryz.func33, Tryz.ntmps33
  go_wp2
  go_region_held3 (fun w' => w'.cell? ⟨w.heap.size, 0, none⟩ = some (.int .i64 a0) ∧ w'.cell? ⟨w.heap.size, 1, none⟩ = some (.int .i64 a1) ∧ w'.cell? ⟨w.heap.size + 1, 0, none⟩ = some (.int .i64 b0) ∧ w'.cell? ⟨w.heap.size + 1, 1, none⟩ = some (.int .i64 b1)) (go_keep) (first|((try go_simp);go_at_call 43;(with_reducible refine (KC.out _ _ _).out.mono ?_);rintro e w1 ⟨rfl, rfl⟩)|((try go_simp);go_at_call 42;(with_reducible refine (KO.out _ (cmpI a0 b0) (cmpI a1 b1) _ ?_ ?_).out.mono ?_);(first|(with_reducible exact cell_lit (by simp) rfl)|(with_reducible exact cell_litD (by simp) rfl)|go_keep|go_simp);(first|(with_reducible exact cell_lit (by simp) rfl)|(with_reducible exact cell_litD (by simp) rfl)|go_keep|go_simp);rintro e w1 ⟨rfl, rfl⟩))
  all_goals
    go_wp2
    go_ret
    exact ⟨ret_int HE.out.symm, (by repeat' (first|(with_reducible exact Below.refl _ _)|(with_reducible assumption)|(with_reducible refine Below.alloc ?_ ?_ _)|(with_reducible refine Below.drew ?_)|(with_reducible refine below_drewN ?_ _)|(with_reducible refine Below.setCell ?_ ?_ _)|(refine bstep (by with_reducible assumption) ?_)|(refine bstep2 (by with_reducible assumption) (by first|omega|(simp;done)|(simp;omega)) ?_)|go_size))⟩
end Go.Proofs.YtlobefglhppbdaaGreatDoor
set_option linter.unusedSimpArgs false
set_option linter.unusedVariables false
namespace Go.Proofs.YtlobefglhppbdaaGreatDoor
open Go.RowKit
def eOk (P : Int → Bool) (e : E3) : Bool := P e.1 && P e.2.1 && decide (e.1 ≠ e.2.1) && decide (0 ≤ e.2.2 ∧ e.2.2 ≤ 20)
def ordOk : Option E3 → E3 → Bool
  | none, _ => true
  | some q, e => before q e
def chain (P : Int → Bool) : Option E3 → List E3 → Bool
  | _, [] => true
  | p, e :: t => eOk P e && ordOk p e && chain P (some e) t
def gOk (m : Int) (es : List E3) : Bool := decide (0 ≤ m ∧ m ≤ 16) && decide (es.length ≤ 40) && chain (hasV m) none es
def prevE (es : List E3) : Nat → Option E3
  | 0 => none
  | j + 1 => es[j]?
theorem chain_step {P : Int → Bool} {es : List E3} {k : Nat} (h : k < es.length) : chain P (prevE es k) (es.drop k) = (eOk P es[k] && ordOk (prevE es k) es[k] && chain P (prevE es (k + 1)) (es.drop (k + 1))) := by
  rw [List.drop_eq_getElem_cons h]
  simp [chain, prevE, h]
theorem chain_end {P : Int → Bool} {es : List E3} {k : Nat} (h : es.length ≤ k) : chain P (prevE es k) (es.drop k) = true := by
  rw [List.drop_of_length_le h]; rfl
theorem chain_congr {P Q : Int → Bool} (h : ∀ v, P v = Q v) : ∀ p es, chain P p es = chain Q p es
  | _, [] => rfl
  | p, e :: t => by simp [chain, eOk, h, chain_congr h (some e) t]
theorem implGraphValid (m : Int) (ao : Option Addr) (c : Nat) (es : List E3) (w : World) (hl : es.length ≤ maxLen) (hs : Se w ao es) :
    Calls Tryz.prog 16 #[gr m ao es.length c] w fun e w' => e = .returned (.bool (gOk m es)) ∧ Below w.heap.size w w' := by
  have hl' := hl
  unfold maxLen at hl'
  by_cases hm0 : m < 0
  · have HE : Hid (gOk m es = false) := by unfold Hid gOk; rw [show decide (0 ≤ m ∧ m ≤ 16) = false by simp; omega]; rfl
    go_enter Tryz.func16, Tryz.ntmps16
    go_wp2
    go_ret
    exact ⟨ret_bool HE.out.symm, (by repeat' (first|(with_reducible exact Below.refl _ _)|(with_reducible assumption)|(with_reducible refine Below.alloc ?_ ?_ _)|(with_reducible refine Below.drew ?_)|(with_reducible refine below_drewN ?_ _)|(with_reducible refine Below.setCell ?_ ?_ _)|(refine bstep (by with_reducible assumption) ?_)|(refine bstep2 (by with_reducible assumption) (by first|omega|(simp;done)|(simp;omega)) ?_)|go_size))⟩
  · have hm0' : 0 ≤ m := by omega
    by_cases hm1 : 16 < m
    · have HE : Hid (gOk m es = false) := by unfold Hid gOk; rw [show decide (0 ≤ m ∧ m ≤ 16) = false by simp; omega]; rfl
      go_enter Tryz.func16, Tryz.ntmps16
      go_wp2
      go_ret
      exact ⟨ret_bool HE.out.symm, (by repeat' (first|(with_reducible exact Below.refl _ _)|(with_reducible assumption)|(with_reducible refine Below.alloc ?_ ?_ _)|(with_reducible refine Below.drew ?_)|(with_reducible refine below_drewN ?_ _)|(with_reducible refine Below.setCell ?_ ?_ _)|(refine bstep (by with_reducible assumption) ?_)|(refine bstep2 (by with_reducible assumption) (by first|omega|(simp;done)|(simp;omega)) ?_)|go_size))⟩
    · have hm1' : m ≤ 16 := by omega
      by_cases hn : 40 < es.length
      · have HE : Hid (gOk m es = false) := by unfold Hid gOk; rw [show decide (es.length ≤ 40) = false by simp; omega, Bool.and_false, Bool.false_and]
        have hn' : (40 : Int) < es.length := by omega
        go_enter Tryz.func16, Tryz.ntmps16
        go_wp2
        go_ret
        exact ⟨ret_bool HE.out.symm, (by repeat' (first|(with_reducible exact Below.refl _ _)|(with_reducible assumption)|(with_reducible refine Below.alloc ?_ ?_ _)|(with_reducible refine Below.drew ?_)|(with_reducible refine below_drewN ?_ _)|(with_reducible refine Below.setCell ?_ ?_ _)|(refine bstep (by with_reducible assumption) ?_)|(refine bstep2 (by with_reducible assumption) (by first|omega|(simp;done)|(simp;omega)) ?_)|go_size))⟩
      · have HR : Hid (gOk m es = chain (hasV m) (prevE es 0) (es.drop 0)) := by unfold Hid gOk; rw [show decide (0 ≤ m ∧ m ≤ 16) = true by simp; omega, show decide (es.length ≤ 40) = true by simp; omega]; rfl
        have hn' : (es.length : Int) ≤ 40 := by omega
        have KH := Lib.hid (fun v W => Lib.hid (implHas m ao es.length c v W))
        have KC := Lib.hid (fun x y W => Lib.hid (implCompareEnds x y W))
        obtain ⟨b, o, ha, hE⟩ := hs.edges
        have hix := ha.ixN (c := c) 3 Tryz.underlying23 sz_edge
        have HS := Lib.hid hE
        have hlt0 : 0 < es.length → b < w.heap.size := fun h => hE.lt h
        have HLT := Lib.hid hlt0
        clear hs hE ha hm0 hm1 hn hlt0
        go_enter Tryz.func16, Tryz.ntmps16
        go_wp2
        go_loopw [3, 4, 22] (fun _ _ i wr => ∃ k : Nat, k ≤ es.length ∧ i = .int .i64 k ∧ Below (w.heap.size + 1) (w.alloc (.cells #[.int .i64 m, .slice ao es.length c] 25)) wr ∧ Hid (gOk m es = chain (hasV m) (prevE es k) (es.drop k))) (fun _ _ i _ => es.length - (intOf i).toNat)
        case atStart => exact ⟨0, Nat.zero_le _, rfl, by simpa using Below.refl (w.heap.size + 1) _, HR⟩
        case round =>
          obtain ⟨k, hk, rfl, hb, HP⟩ := hrel
          clear HR
          have hcg0 : wr.cell? ⟨w.heap.size, 0, none⟩ = some (.int .i64 m) := (hb.cell (p := ⟨w.heap.size, 0, none⟩) (by simp)).trans (cell_lit rfl rfl)
          have hcg1 : wr.cell? ⟨w.heap.size, 1, none⟩ = some (.slice ao es.length c) := (hb.cell (p := ⟨w.heap.size, 1, none⟩) (by simp)).trans (cell_lit rfl rfl)
          have hsz := hb.size
          try simp only [World.size_alloc] at hsz
          have hg0 : w.heap.size < wr.heap.size := by omega
          by_cases hlt : k < es.length
          · have hlti : (k : Int) < es.length := by omega
            have hbw := HLT.out (by omega)
            have hEr : Edg wr b o es := HS.out.keep (fun a ha2 => (hb.cell (p := a) (Nat.lt_succ_of_lt ha2)).trans (World.cell?_alloc_lt _ _ _ ha2))
            obtain ⟨hc0, hc1, hc2⟩ := hEr k hlt
            have hbr : b < wr.heap.size := by omega
            have HD : Hid (gOk m es = (eOk (hasV m) es[k] && ordOk (prevE es k) es[k] && chain (hasV m) (prevE es (k + 1)) (es.drop (k + 1)))) := by unfold Hid; rw [HP.out, chain_step hlt]
            have hHb : Below w.heap.size w wr := ((Below.refl w.heap.size w).alloc (Nat.le_refl _) _).trans (hb.mono (Nat.le_succ _))
            clear HP
            have hpr : 0 < k → ∃ q, prevE es k = some q ∧ wr.cell? ⟨b, o + (k - 1) * 3, none⟩ = some (.int .i64 q.1) ∧ wr.cell? ⟨b, o + (k - 1) * 3 + 1, none⟩ = some (.int .i64 q.2.1) ∧ wr.cell? ⟨b, o + (k - 1) * 3 + 2, none⟩ = some (.int .i64 q.2.2) := by
              intro h0
              obtain ⟨j, rfl⟩ : ∃ j, k = j + 1 := ⟨k - 1, by omega⟩
              exact ⟨es[j], by simp [prevE, show j < es.length by omega], hEr j (by omega)⟩
            have HPR := Lib.hid hpr
            clear hpr hEr
            generalize hek : es[k] = e at *
            clear hek
            obtain ⟨ea, eb, ec⟩ := e
            dsimp only at hc0 hc1 hc2
            cases hA : hasV m ea
            · have KA : Hid (∀ W, Calls Tryz.prog 28 #[gr m ao es.length c, .int .i64 ea] W fun e w' => e = .returned (.bool false) ∧ Below W.heap.size W w') := by
                intro W; have h := (KH.out ea W).out; rw [hA] at h; exact h
              have HA := Lib.hid hA
              clear hA
              go_wp2_with fail
              refine (KA.out _).mono ?_
              rintro e w1 ⟨rfl, hb1⟩
              (obtain ⟨hc1, hf1⟩ := bcell hb1); (try simp only [World.size_drew, World.size_drewN] at hc1 hf1); have hz1 := hb1.size; (try simp only [World.size_alloc, World.size_setCell, World.size_drew, World.size_drewN] at hz1)
              go_wp2
              go_ret
              exact ⟨ret_bool (by rw [HD.out];simp [eOk, HA.out]), (by repeat' (first|(with_reducible exact Below.refl _ _)|(with_reducible assumption)|(with_reducible refine Below.alloc ?_ ?_ _)|(with_reducible refine Below.drew ?_)|(with_reducible refine below_drewN ?_ _)|(with_reducible refine Below.setCell ?_ ?_ _)|(refine bstep (by with_reducible assumption) ?_)|(refine bstep2 (by with_reducible assumption) (by first|omega|(simp;done)|(simp;omega)) ?_)|go_size))⟩
            · have KA : Hid (∀ W, Calls Tryz.prog 28 #[gr m ao es.length c, .int .i64 ea] W fun e w' => e = .returned (.bool true) ∧ Below W.heap.size W w') := by
                intro W; have h := (KH.out ea W).out; rw [hA] at h; exact h
              have HA := Lib.hid hA
              clear hA
              go_wp2_with fail
              refine (KA.out _).mono ?_
              rintro e w1 ⟨rfl, hb1⟩
              (obtain ⟨hc1, hf1⟩ := bcell hb1); (try simp only [World.size_drew, World.size_drewN] at hc1 hf1); have hz1 := hb1.size; (try simp only [World.size_alloc, World.size_setCell, World.size_drew, World.size_drewN] at hz1)
              have hl1_00 : w.heap.size < w1.heap.size := (by omega); have hl1_01 : w.heap.size < w1.heap.size + 1 := (by omega); have hl1_02 : w.heap.size < w1.heap.size + 1 + 1 := (by omega); have hn1_00 : ¬ w.heap.size = w1.heap.size := (by omega); have hn1_01 : ¬ w.heap.size = w1.heap.size + 1 := (by omega)
              have hn1e : wr.heap.size < w1.heap.size := by omega
              cases hB : hasV m eb
              · have KB : Hid (∀ W, Calls Tryz.prog 28 #[gr m ao es.length c, .int .i64 eb] W fun e w' => e = .returned (.bool false) ∧ Below W.heap.size W w') := by
                  intro W; have h := (KH.out eb W).out; rw [hB] at h; exact h
                have HB := Lib.hid hB
                clear hB
                go_wp2_with fail
                refine (KB.out _).mono ?_
                rintro e w2 ⟨rfl, hb2⟩
                (obtain ⟨hc2, hf2⟩ := bcell hb2); (try simp only [World.size_drew, World.size_drewN] at hc2 hf2); have hz2 := hb2.size; (try simp only [World.size_alloc, World.size_setCell, World.size_drew, World.size_drewN] at hz2)
                go_wp2
                go_ret
                exact ⟨ret_bool (by rw [HD.out];simp [eOk, HB.out]), (by repeat' (first|(with_reducible exact Below.refl _ _)|(with_reducible assumption)|(with_reducible refine Below.alloc ?_ ?_ _)|(with_reducible refine Below.drew ?_)|(with_reducible refine below_drewN ?_ _)|(with_reducible refine Below.setCell ?_ ?_ _)|(refine bstep (by with_reducible assumption) ?_)|(refine bstep2 (by with_reducible assumption) (by first|omega|(simp;done)|(simp;omega)) ?_)|go_size))⟩
              · have KB : Hid (∀ W, Calls Tryz.prog 28 #[gr m ao es.length c, .int .i64 eb] W fun e w' => e = .returned (.bool true) ∧ Below W.heap.size W w') := by
                  intro W; have h := (KH.out eb W).out; rw [hB] at h; exact h
                have HB := Lib.hid hB
                clear hB
                go_wp2_with fail
                refine (KB.out _).mono ?_
                rintro e w2 ⟨rfl, hb2⟩
                (obtain ⟨hc2, hf2⟩ := bcell hb2); (try simp only [World.size_drew, World.size_drewN] at hc2 hf2); have hz2 := hb2.size; (try simp only [World.size_alloc, World.size_setCell, World.size_drew, World.size_drewN] at hz2)
                have hl2_00 : w.heap.size < w2.heap.size := (by omega); have hl2_01 : w.heap.size < w2.heap.size + 1 := (by omega); have hl2_02 : w.heap.size < w2.heap.size + 1 + 1 := (by omega); have hn2_00 : ¬ w.heap.size = w2.heap.size := (by omega); have hn2_01 : ¬ w.heap.size = w2.heap.size + 1 := (by omega)
                have hn2e : wr.heap.size < w2.heap.size := by omega
                by_cases hq : ea = eb
                · have hqb : (ea == eb) = true := by simp [hq]
                  have HQ := Lib.hid hq
                  clear hq
                  go_wp2
                  go_ret
                  exact ⟨ret_bool (by rw [HD.out];simp [eOk, HQ.out]), (by repeat' (first|(with_reducible exact Below.refl _ _)|(with_reducible assumption)|(with_reducible refine Below.alloc ?_ ?_ _)|(with_reducible refine Below.drew ?_)|(with_reducible refine below_drewN ?_ _)|(with_reducible refine Below.setCell ?_ ?_ _)|(refine bstep (by with_reducible assumption) ?_)|(refine bstep2 (by with_reducible assumption) (by first|omega|(simp;done)|(simp;omega)) ?_)|go_size))⟩
                · have hqb : (ea == eb) = false := by simp [hq]
                  have HQ := Lib.hid hq
                  clear hq
                  by_cases hw0 : ec < 0
                  · go_wp2
                    go_ret
                    exact ⟨ret_bool (by rw [HD.out];simp [eOk];intros;omega), (by repeat' (first|(with_reducible exact Below.refl _ _)|(with_reducible assumption)|(with_reducible refine Below.alloc ?_ ?_ _)|(with_reducible refine Below.drew ?_)|(with_reducible refine below_drewN ?_ _)|(with_reducible refine Below.setCell ?_ ?_ _)|(refine bstep (by with_reducible assumption) ?_)|(refine bstep2 (by with_reducible assumption) (by first|omega|(simp;done)|(simp;omega)) ?_)|go_size))⟩
                  · have hw0' : 0 ≤ ec := by omega
                    by_cases hw1 : 20 < ec
                    · go_wp2
                      go_ret
                      exact ⟨ret_bool (by rw [HD.out];simp [eOk];intros;omega), (by repeat' (first|(with_reducible exact Below.refl _ _)|(with_reducible assumption)|(with_reducible refine Below.alloc ?_ ?_ _)|(with_reducible refine Below.drew ?_)|(with_reducible refine below_drewN ?_ _)|(with_reducible refine Below.setCell ?_ ?_ _)|(refine bstep (by with_reducible assumption) ?_)|(refine bstep2 (by with_reducible assumption) (by first|omega|(simp;done)|(simp;omega)) ?_)|go_size))⟩
                    · have hw1' : ec ≤ 20 := by omega
                      have HOK : Hid (eOk (hasV m) (ea, eb, ec) = true) := by unfold Hid; simp [eOk, HA.out, HB.out, HQ.out]; omega
                      by_cases hk0 : k = 0
                      · subst hk0
                        go_wp2
                        go_quiet (fail)
                        go_wp2
                        go_roundw
                        case rel => exact ⟨1, by omega, by go_num, (by repeat' (first|(with_reducible exact Below.refl _ _)|(with_reducible assumption)|(with_reducible refine Below.alloc ?_ ?_ _)|(with_reducible refine Below.drew ?_)|(with_reducible refine below_drewN ?_ _)|(with_reducible refine Below.setCell ?_ ?_ _)|(refine bstep (by with_reducible assumption) ?_)|(refine bstep2 (by with_reducible assumption) (by first|omega|(simp;done)|(simp;omega)) ?_)|go_size)), by unfold Hid;rw [HD.out, HOK.out];simp [ordOk, prevE]⟩
                        case measure => simp [intOf]; omega
                      · have hk0' : 0 < k := by omega
                        obtain ⟨q, hqp, hq0, hq1, hq2⟩ := HPR.out hk0'
                        have HQP := Lib.hid hqp
                        clear hqp hk0
                        obtain ⟨qa, qb, qc⟩ := q
                        dsimp only at hq0 hq1 hq2
                        have hkn : ((k : Int) - 1).toNat = k - 1 := by omega
                        have hk1 : (1 : Int) ≤ k := by omega
                        have hk2 : (k : Int) - 1 < es.length := by omega
                        have hkw : IntKind.i64.wrap ((k : Int) - 1) = (k : Int) - 1 := IntWalk.i64_in _ (by omega)
                        have hsg := cmpE_neg (qa, qb, qc) (ea, eb, ec)
                        have KQ : Hid (∀ W, Calls Tryz.prog 33 #[.agg #[.int .i64 qa, .int .i64 qb, .int .i64 qc], .agg #[.int .i64 ea, .int .i64 eb, .int .i64 ec]] W fun e w' => e = .returned (.int .i64 (cmpE (qa, qb, qc) (ea, eb, ec))) ∧ Below W.heap.size W w') := fun W => (KC.out (qa, qb, qc) (ea, eb, ec) W).out
                        generalize cmpE (qa, qb, qc) (ea, eb, ec) = r at *
                        have HSG := Lib.hid hsg
                        clear hsg
                        have hkd : decide ((0 : Int) < k) = true := by simp; omega
                        go_wp2
                        have hB2 : Below wr.heap.size wr w2 := (by repeat' (first|(with_reducible exact Below.refl _ _)|(with_reducible assumption)|(with_reducible refine Below.alloc ?_ ?_ _)|(with_reducible refine Below.drew ?_)|(with_reducible refine below_drewN ?_ _)|(with_reducible refine Below.setCell ?_ ?_ _)|(refine bstep (by with_reducible assumption) ?_)|(refine bstep2 (by with_reducible assumption) (by first|omega|(simp;done)|(simp;omega)) ?_)|go_size))
                        have hB3 : Below (wr.heap.size + 1) (wr.alloc (.cells #[.int .i64 ea, .int .i64 eb, .int .i64 ec] 50)) w2 := by
                          have h1 : Below (wr.heap.size + 1) (wr.alloc (.cells #[.int .i64 ea, .int .i64 eb, .int .i64 ec] 50)) w1 := by simpa using hb1
                          exact h1.trans (hb2.mono (by omega))
                        have hx0 := (hB2.cell (p := ⟨w.heap.size, 1, none⟩) hg0).trans hcg1
                        have hx1 := (hB2.cell (p := ⟨b, o + (k - 1) * 3, none⟩) hbr).trans hq0
                        have hx2 := (hB2.cell (p := ⟨b, o + (k - 1) * 3 + 1, none⟩) hbr).trans hq1
                        have hx3 := (hB2.cell (p := ⟨b, o + (k - 1) * 3 + 2, none⟩) hbr).trans hq2
                        have hx4 : w2.cell? ⟨wr.heap.size, 0, none⟩ = some (.int .i64 ea) := (hB3.cell (p := ⟨wr.heap.size, 0, none⟩) (by simp)).trans (cell_lit rfl rfl)
                        have hx5 : w2.cell? ⟨wr.heap.size, 1, none⟩ = some (.int .i64 eb) := (hB3.cell (p := ⟨wr.heap.size, 1, none⟩) (by simp)).trans (cell_lit rfl rfl)
                        have hx6 : w2.cell? ⟨wr.heap.size, 2, none⟩ = some (.int .i64 ec) := (hB3.cell (p := ⟨wr.heap.size, 2, none⟩) (by simp)).trans (cell_lit rfl rfl)
                        have hbr2 : b < w2.heap.size := by omega
                        clear hc1 hc2 hf1 hf2 hcg0 hcg1 hq0 hq1 hq2 hB2 hB3
                        go_region_held3 (fun w' => w'.cell? ⟨w.heap.size, 1, none⟩ = some (.slice ao es.length c) ∧ w'.cell? ⟨b, o + (k - 1) * 3, none⟩ = some (.int .i64 qa) ∧ w'.cell? ⟨b, o + (k - 1) * 3 + 1, none⟩ = some (.int .i64 qb) ∧ w'.cell? ⟨b, o + (k - 1) * 3 + 2, none⟩ = some (.int .i64 qc) ∧ w'.cell? ⟨wr.heap.size, 0, none⟩ = some (.int .i64 ea) ∧ w'.cell? ⟨wr.heap.size, 1, none⟩ = some (.int .i64 eb) ∧ w'.cell? ⟨wr.heap.size, 2, none⟩ = some (.int .i64 ec)) (go_keep) (first|((try go_simp);go_at_call 33;(with_reducible refine (KQ.out _).mono ?_);rintro e w3 ⟨rfl, hb3⟩;(obtain ⟨hc3, hf3⟩ := bcell hb3);(try simp only [World.size_drew, World.size_drewN] at hc3 hf3);have hz3 := hb3.size;(try simp only [World.size_alloc, World.size_setCell, World.size_drew, World.size_drewN] at hz3)))
                        by_cases hr : r < 0
                        · go_wp2
                          go_roundw
                          case rel => exact ⟨k + 1, by omega, by go_num, (by repeat' (first|(with_reducible exact Below.refl _ _)|(with_reducible assumption)|(with_reducible refine Below.alloc ?_ ?_ _)|(with_reducible refine Below.drew ?_)|(with_reducible refine below_drewN ?_ _)|(with_reducible refine Below.setCell ?_ ?_ _)|(refine bstep (by with_reducible assumption) ?_)|(refine bstep2 (by with_reducible assumption) (by first|omega|(simp;done)|(simp;omega)) ?_)|go_size)), by unfold Hid;rw [HD.out, HOK.out, HQP.out];have := HSG.out;simp [hr] at this;simp [ordOk, this]⟩
                          case measure => simp [intOf]; omega
                        · have hr' : 0 ≤ r := by omega
                          have hbf : before (qa, qb, qc) (ea, eb, ec) = false := by
                            rw [Bool.eq_false_iff]; intro hh; have h3 := HSG.out; rw [hh] at h3; simp at h3; omega
                          have HBF := Lib.hid hbf
                          clear hbf
                          go_wp2
                          go_ret
                          exact ⟨ret_bool (by rw [HD.out, HOK.out, HQP.out];simp [ordOk, HBF.out]), (by repeat' (first|(with_reducible exact Below.refl _ _)|(with_reducible assumption)|(with_reducible refine Below.alloc ?_ ?_ _)|(with_reducible refine Below.drew ?_)|(with_reducible refine below_drewN ?_ _)|(with_reducible refine Below.setCell ?_ ?_ _)|(refine bstep (by with_reducible assumption) ?_)|(refine bstep2 (by with_reducible assumption) (by first|omega|(simp;done)|(simp;omega)) ?_)|go_size))⟩
          · go_wp2
            go_ret
            exact ⟨ret_bool (by rw [HP.out, chain_end (by omega)]), (((Below.refl w.heap.size w).alloc (Nat.le_refl _) _).trans (hb.mono (Nat.le_succ _)))⟩
end Go.Proofs.YtlobefglhppbdaaGreatDoor
