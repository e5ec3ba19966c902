/- Graphs in memory; small tests of edges. No statement of the seat is proved here. -/
import Derived.LoopN
import Derived.Deep.RegionHeld3
import Derived.Test.YthjnidcmhegoeaaDoorRows
import Derived.WalkKit
import Derived.WalkSpells
import Derived.WalkLawsBesides
import Derived.Lib.Hide
import Derived.Handy
import Derived.BigQuiet
import Derived.Deep.QuietTactic
import Derived.Test.YthjnidcmhegoeaaDoorLib
import Derived.Test.YthjnidcmhegoeaaDoorOwn
import Derived.Test.YthjnidcmhegoeaaDoorJobs
import Derived.Test.YthjnidcmhegoeaaDoorCodes3
import Derived.Test.YthjnidcmhegoeaaDoorFrames2
set_option linter.unusedSimpArgs false
set_option linter.unusedVariables false
namespace Go.Proofs.YthjnidcmhegoeaaDoor
open Go.RowKit

/-- An edge: from, to, weight. -/
abbrev E3 := Int × Int × Int
def ev : List E3 → List Value
  | [] => []
  | e :: t => .int .i64 e.1 :: .int .i64 e.2.1 :: .int .i64 e.2.2 :: ev t
theorem ev_len : ∀ es : List E3, (ev es).length = es.length * 3
  | [] => rfl
  | e :: t => by simp [ev, ev_len t]; omega
theorem ev_append : ∀ xs ys : List E3, ev (xs ++ ys) = ev xs ++ ev ys
  | [], ys => rfl
  | e :: t, ys => by simp [ev, ev_append t ys]
theorem oneCell_ev : ∀ (es : List E3), ∀ u ∈ ev es, u.oneCell' = true
  | [], u, h => by simp [ev] at h
  | e :: t, u, h => by
    simp only [ev, List.mem_cons] at h
    rcases h with rfl | rfl | rfl | h
    · rfl
    · rfl
    · rfl
    · exact oneCell_ev t u h
theorem ev_get : ∀ (es : List E3) (k : Nat) (h : k < es.length), (ev es)[k * 3]? = some (.int .i64 es[k].1) ∧ (ev es)[k * 3 + 1]? = some (.int .i64 es[k].2.1) ∧ (ev es)[k * 3 + 2]? = some (.int .i64 es[k].2.2)
  | e :: t, 0, _ => ⟨rfl, rfl, rfl⟩
  | e :: t, k + 1, h => by
    have := ev_get t k (by simpa using h)
    rw [show (k + 1) * 3 = k * 3 + 1 + 1 + 1 by omega]
    simpa [ev] using this

theorem sz_edge (w : World) : (sizeOf 85).run Tryd.prog w = .ok 3 w := by kernel_rfl
theorem el_edge : El Tryd.prog 46 85 3 24 (.agg #[.int .i64 0, .int .i64 0, .int .i64 0]) := ⟨Tryd.underlying46, info_parts (by kernel_rfl), rfl, by omega⟩

/-- Edges can be read from the address ao on. -/
abbrev Se (w : World) (ao : Option Addr) (es : List E3) : Prop := Src w ao es.length 3 (ev es)
/-- From place o of block b on the edges es stand. -/
def Edg (w : World) (b o : Nat) (es : List E3) : Prop := ∀ k (h : k < es.length), w.cell? ⟨b, o + k * 3, none⟩ = some (.int .i64 es[k].1) ∧ w.cell? ⟨b, o + k * 3 + 1, none⟩ = some (.int .i64 es[k].2.1) ∧ w.cell? ⟨b, o + k * 3 + 2, none⟩ = some (.int .i64 es[k].2.2)
theorem Src.edges {w : World} {ao : Option Addr} {es : List E3} (h : Se w ao es) : ∃ b o, At ao b o es.length ∧ Edg w b o es := by
  obtain ⟨b, o, ha, hc⟩ := h.at_
  refine ⟨b, o, ha, fun k hk => ?_⟩
  obtain ⟨h0, h1, h2⟩ := ev_get es k hk
  exact ⟨hc _ _ h0, by rw [Nat.add_assoc]; exact hc _ _ h1, by rw [Nat.add_assoc]; exact hc _ _ h2⟩
theorem Edg.lt {w : World} {b o : Nat} {es : List E3} (h : Edg w b o es) (hn : 0 < es.length) : b < w.heap.size := World.block_lt_of_cell? w _ (h 0 hn).1
theorem Edg.keep {w w' : World} {b o : Nat} {es : List E3} (h : Edg w b o es) (hk : Keeps w w') : Edg w' b o es := fun k hk' => by
  have hb := h.lt (by omega)
  obtain ⟨h0, h1, h2⟩ := h k hk'
  exact ⟨(hk _ hb).trans h0, (hk _ hb).trans h1, (hk _ hb).trans h2⟩
theorem Edg.below {B : Nat} {w w' : World} {b o : Nat} {es : List E3} (h : Edg w b o es) (hb : Below B w w') (hB : w.heap.size ≤ B) : Edg w' b o es := h.keep (keeps_below hb hB)

abbrev gr (m : Int) (ao : Option Addr) (n c : Nat) : Value := .agg #[.int .i64 m, .slice ao n c]
abbrev ed (e : E3) : Value := .agg #[.int .i64 e.1, .int .i64 e.2.1, .int .i64 e.2.2]

/-! ### tests -/
def hasV (m v : Int) : Bool := decide (0 ≤ v ∧ v < m)
def before (a b : E3) : Bool := decide (a.1 < b.1 ∨ a.1 = b.1 ∧ a.2.1 < b.2.1)
def cmpI (a b : Int) : Int := if a < b then -1 else if b < a then 1 else 0
def orI (x y : Int) : Int := if x = 0 then y else x
def cmpE (a b : E3) : Int := if cmpI a.1 b.1 = 0 then cmpI a.2.1 b.2.1 else cmpI a.1 b.1
theorem cmpI_bd (a b : Int) : -1 ≤ cmpI a b ∧ cmpI a b ≤ 1 := by unfold cmpI; split; omega; split <;> omega
theorem cmpE_neg (a b : E3) : (cmpE a b < 0) = (before a b = true) := by
  unfold cmpE cmpI before
  apply propext
  simp only [decide_eq_true_eq]
  split <;> (split <;> (try split) <;> (try split) <;> omega)

set_option maxRecDepth 100000 in
set_option maxHeartbeats 1000000 in
theorem implHas (m : Int) (ao : Option Addr) (n c : Nat) (v : Int) (w : World) : Calls Tryd.prog 61 #[gr m ao n c, .int .i64 v] w fun e w' => e = .returned (.bool (hasV m v)) ∧ Below w.heap.size w w' := by
  go_enter Tryd.func61, Tryd.ntmps61
  go_wp2
  all_goals (go_ret; exact ⟨ret_bool (bool_of_iff (by simp_all [hasV] <;> omega)), (by repeat' (first | (with_reducible exact Below.refl _ _) | (with_reducible assumption) | (with_reducible refine Below.alloc ?_ ?_ _) | (with_reducible refine Below.drew ?_) | (with_reducible refine below_drewN ?_ _) | (with_reducible refine Below.setCell ?_ ?_ _) | (refine bstep (by with_reducible assumption) ?_) | (refine bstep2 (by with_reducible assumption) (by first | omega | (simp; done) | (simp; omega)) ?_) | go_size))⟩)

set_option maxRecDepth 100000 in
set_option maxHeartbeats 1000000 in
theorem specL4Before (a b : E3) (w : World) : Calls Tryd.prog 94 #[ed a, ed b] w fun e w' => e = .returned (.bool (before a b)) ∧ Below w.heap.size w w' := by
  obtain ⟨a0, a1, a2⟩ := a
  obtain ⟨b0, b1, b2⟩ := b
  by_cases h1 : a0 < b0
  · go_enter Tryd.func94, Tryd.ntmps94
    go_wp2
    go_ret
    exact ⟨ret_bool (bool_of_iff (by simp_all [before])), (by repeat' (first | (with_reducible exact Below.refl _ _) | (with_reducible assumption) | (with_reducible refine Below.alloc ?_ ?_ _) | (with_reducible refine Below.drew ?_) | (with_reducible refine below_drewN ?_ _) | (with_reducible refine Below.setCell ?_ ?_ _) | (refine bstep (by with_reducible assumption) ?_) | (refine bstep2 (by with_reducible assumption) (by first | omega | (simp; done) | (simp; omega)) ?_) | go_size))⟩
  · by_cases h2 : a0 = b0
    · have h2b : (a0 == b0) = true := by simp [h2]
      clear h2
      have h1' : b0 ≤ a0 := by omega
      go_enter Tryd.func94, Tryd.ntmps94
      go_wp2
      go_ret
      have h2 : a0 = b0 := by simpa using h2b
      exact ⟨ret_bool (bool_of_iff (by simp [before]; omega)), (by repeat' (first | (with_reducible exact Below.refl _ _) | (with_reducible assumption) | (with_reducible refine Below.alloc ?_ ?_ _) | (with_reducible refine Below.drew ?_) | (with_reducible refine below_drewN ?_ _) | (with_reducible refine Below.setCell ?_ ?_ _) | (refine bstep (by with_reducible assumption) ?_) | (refine bstep2 (by with_reducible assumption) (by first | omega | (simp; done) | (simp; omega)) ?_) | go_size))⟩
    · have h2b : (a0 == b0) = false := by simp [h2]
      go_enter Tryd.func94, Tryd.ntmps94
      go_wp2
      go_ret
      exact ⟨ret_bool (bool_of_iff (by simp [before]; omega)), (by repeat' (first | (with_reducible exact Below.refl _ _) | (with_reducible assumption) | (with_reducible refine Below.alloc ?_ ?_ _) | (with_reducible refine Below.drew ?_) | (with_reducible refine below_drewN ?_ _) | (with_reducible refine Below.setCell ?_ ?_ _) | (refine bstep (by with_reducible assumption) ?_) | (refine bstep2 (by with_reducible assumption) (by first | omega | (simp; done) | (simp; omega)) ?_) | go_size))⟩

set_option maxRecDepth 100000 in
set_option maxHeartbeats 1000000 in
theorem cmpNaN (a : Int) (w : World) : Calls Tryd.prog 111 #[.int .i64 a] w fun e w' => e = .returned (.bool false) ∧ w = w' := by
  have h : (a != a) = false := by simp
  go_enter Tryd.func111, Tryd.ntmps111
  go_wp2
  go_ret
  exact ⟨rfl, rfl⟩
set_option maxRecDepth 100000 in
set_option maxHeartbeats 1000000 in
theorem cmpCompare (a b : Int) (w : World) : Calls Tryd.prog 100 #[.int .i64 a, .int .i64 b] w fun e w' => e = .returned (.int .i64 (cmpI a b)) ∧ w = w' := by
  by_cases h1 : a < b
  · have HE : Hid (cmpI a b = -1) := by unfold Hid cmpI; rw [if_pos h1]
    go_enter Tryd.func100, Tryd.ntmps100
    go_wp2_with (first | (go_at_call 111; refine (cmpNaN _ _).mono ?_; rintro e w1 ⟨rfl, rfl⟩))
    go_ret
    exact ⟨ret_int HE.out.symm, rfl⟩
  · by_cases h2 : b < a
    · have HE : Hid (cmpI a b = 1) := by unfold Hid cmpI; rw [if_neg h1, if_pos h2]
      go_enter Tryd.func100, Tryd.ntmps100
      go_wp2_with (first | (go_at_call 111; refine (cmpNaN _ _).mono ?_; rintro e w1 ⟨rfl, rfl⟩))
      go_ret
      exact ⟨ret_int HE.out.symm, rfl⟩
    · have HE : Hid (cmpI a b = 0) := by unfold Hid cmpI; rw [if_neg h1, if_neg h2]
      have h1' : b ≤ a := by omega
      have h2' : a ≤ b := by omega
      go_enter Tryd.func100, Tryd.ntmps100
      go_wp2_with (first | (go_at_call 111; refine (cmpNaN _ _).mono ?_; rintro e w1 ⟨rfl, rfl⟩))
      go_ret
      exact ⟨ret_int HE.out.symm, rfl⟩
set_option maxRecDepth 100000 in
set_option maxHeartbeats 1000000 in
theorem cmpOr (B : Nat) (x y : Int) (w : World) (h0 : w.cell? ⟨B, 0, none⟩ = some (.int .i64 x)) (h1 : w.cell? ⟨B, 1, none⟩ = some (.int .i64 y)) :
    Calls Tryd.prog 99 #[.slice (some ⟨B, 0, none⟩) 2 2] w fun e w' => e = .returned (.int .i64 (orI x y)) ∧ w = w' := by
  have hs := sz_int
  by_cases hx : x = 0
  · have hxb : (x != 0) = false := by simp [hx]
    have HX := Lib.hid hx
    clear hx
    by_cases hy : y = 0
    · have hyb : (y != 0) = false := by simp [hy]
      have HY := Lib.hid hy
      clear hy
      go_enter Tryd.func99, Tryd.ntmps99
      go_wp2
      refine wp_loop_rounds 3 ?_
      rw [rounds_succ]
      go_wp2
      rw [rounds_succ]
      go_wp2
      rw [rounds_succ]
      go_wp2
      go_ret
      exact ⟨ret_int (by unfold orI; rw [if_pos HX.out, HY.out]), rfl⟩
    · have hyb : (y != 0) = true := by simp [hy]
      go_enter Tryd.func99, Tryd.ntmps99
      go_wp2
      refine wp_loop_rounds 3 ?_
      rw [rounds_succ]
      go_wp2
      rw [rounds_succ]
      go_wp2
      go_ret
      exact ⟨ret_int (by unfold orI; rw [if_pos HX.out]), rfl⟩
  · have hxb : (x != 0) = true := by simp [hx]
    have HX := Lib.hid hx
    clear hx
    go_enter Tryd.func99, Tryd.ntmps99
    go_wp2
    refine wp_loop_rounds 3 ?_
    rw [rounds_succ]
    go_wp2
    go_ret
    exact ⟨ret_int (by unfold orI; rw [if_neg HX.out]), rfl⟩

set_option maxRecDepth 100000 in
set_option maxHeartbeats 2000000 in
theorem implCompareEnds (a b : E3) (w : World) : Calls Tryd.prog 87 #[ed a, ed b] w fun e w' => e = .returned (.int .i64 (cmpE a b)) ∧ Below w.heap.size w w' := by
  have HE : Hid (cmpE a b = orI (cmpI a.1 b.1) (cmpI a.2.1 b.2.1)) := rfl
  have KC := Lib.hid (fun x y W => Lib.hid (cmpCompare x y W))
  have KO := Lib.hid (fun B x y W h0 h1 => Lib.hid (cmpOr B x y W h0 h1))
  obtain ⟨a0, a1, a2⟩ := a
  obtain ⟨b0, b1, b2⟩ := b
  dsimp only at HE ⊢
  generalize cmpE (a0, a1, a2) (b0, b1, b2) = r at *
  go_enter Tryd.func87, Tryd.ntmps87
  go_wp2
  go_region_held3 (fun w' => w'.cell? ⟨w.heap.size, 0, none⟩ = some (.int .i64 a0) ∧ w'.cell? ⟨w.heap.size, 1, none⟩ = some (.int .i64 a1) ∧ w'.cell? ⟨w.heap.size + 1, 0, none⟩ = some (.int .i64 b0) ∧ w'.cell? ⟨w.heap.size + 1, 1, none⟩ = some (.int .i64 b1)) (go_keep) (first | ((try go_simp); go_at_call 100; (with_reducible refine (KC.out _ _ _).out.mono ?_); rintro e w1 ⟨rfl, rfl⟩) | ((try go_simp); go_at_call 99; (with_reducible refine (KO.out _ (cmpI a0 b0) (cmpI a1 b1) _ ?_ ?_).out.mono ?_); (first | (with_reducible exact cell_lit (by simp) rfl) | (with_reducible exact cell_litD (by simp) rfl) | go_keep | go_simp); (first | (with_reducible exact cell_lit (by simp) rfl) | (with_reducible exact cell_litD (by simp) rfl) | go_keep | go_simp); rintro e w1 ⟨rfl, rfl⟩))
  all_goals
    go_wp2
    go_ret
    exact ⟨ret_int HE.out.symm, (by repeat' (first | (with_reducible exact Below.refl _ _) | (with_reducible assumption) | (with_reducible refine Below.alloc ?_ ?_ _) | (with_reducible refine Below.drew ?_) | (with_reducible refine below_drewN ?_ _) | (with_reducible refine Below.setCell ?_ ?_ _) | (refine bstep (by with_reducible assumption) ?_) | (refine bstep2 (by with_reducible assumption) (by first | omega | (simp; done) | (simp; omega)) ?_) | go_size))⟩
end Go.Proofs.YthjnidcmhegoeaaDoor
