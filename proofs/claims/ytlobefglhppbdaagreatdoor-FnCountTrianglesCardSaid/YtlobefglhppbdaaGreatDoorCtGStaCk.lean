/- States of runs: plain data. No statement of the seat is proved here. -/
import Derived.Lib.Hide
import Derived.Test.YtlobefglhppbdaaGreatDoorCtTy
import Derived.Test.YtlobefglhppbdaaGreatDoorCtALaw0
import Derived.Test.YtlobefglhppbdaaGreatDoorCtGCod
set_option linter.unusedSimpArgs false
set_option linter.unusedVariables false
namespace Go.Proofs.YtlobefglhppbdaaGreatDoor.Abs
open Go.RowKit
open R (val row ref)
def bef (a b : E3) : Bool := if a.1 ≠ b.1 then decide (a.1 < b.1) else if a.2.1 ≠ b.2.1 then decide (a.2.1 < b.2.1) else decide (a.2.2 < b.2.2)
def cmpI (a b : Int) : Int := if a < b then -1 else if b < a then 1 else 0
def orI : List Int → Int
  | [] => 0
  | x :: xs => if x ≠ 0 then x else orI xs
def cmpM (a b : E3) : Int := orI [cmpI a.1 b.1, cmpI a.2.1 b.2.1, cmpI a.2.2 b.2.2]
theorem cmpI_zero (a b : Int) : cmpI a b = 0 ↔ a = b := by unfold cmpI; split <;> (try split) <;> omega
theorem cmpI_neg (a b : Int) : cmpI a b < 0 ↔ a < b := by unfold cmpI; split <;> (try split) <;> omega
theorem cmpM_neg (a b : E3) : decide (cmpM a b < 0) = bef a b := by
  have z1 := cmpI_zero a.1 b.1
  have z2 := cmpI_zero a.2.1 b.2.1
  have n1 := cmpI_neg a.1 b.1
  have n2 := cmpI_neg a.2.1 b.2.1
  have n3 := cmpI_neg a.2.2 b.2.2
  unfold cmpM bef
  simp only [orI]
  generalize cmpI a.1 b.1 = x at *
  generalize cmpI a.2.1 b.2.1 = y at *
  generalize cmpI a.2.2 b.2.2 = z at *
  simp only [ne_eq, ← z1, ← z2, ← n1, ← n2, ← n3]
  by_cases h1 : x = 0 <;> by_cases h2 : y = 0 <;> by_cases h3 : z = 0 <;> simp [h1, h2, h3]
def valIn (v : Int) : Bool := inR (-1) 999999 v
def msgIn (u : Int) (m : E3) : Bool := inR 0 u m.1 && inR 0 u m.2.2 && inR 0 999999 m.2.1
def befP (m : E3) : Option E3 → Bool
  | none => true
  | some q => !bef m q
def msOk (u : Int) : Option E3 → List E3 → Bool
  | _, [] => true
  | p, m :: ms => msgIn u m && befP m p && msOk u (some m) ms
def srt : List E3 → Bool
  | [] => true
  | [_] => true
  | a :: b :: r => !bef b a && srt (b :: r)
theorem srt_iff : ∀ (ms : List E3), srt ms = true ↔ ∀ j (h : j + 1 < ms.length), bef ms[j + 1] ms[j] = false
  | [] => by simp [srt]
  | [a] => by simp [srt]
  | a :: b :: r => by
    have ih := srt_iff (b :: r)
    simp only [srt, Bool.and_eq_true, ih, Bool.not_eq_true']
    constructor
    · rintro ⟨h1, h2⟩ j h
      cases j with
      | zero => exact h1
      | succ j => exact h2 j (by simpa using h)
    · intro h
      exact ⟨h 0 (by simp), fun j hj => h (j + 1) (by simpa using hj)⟩
theorem msOk_some (u : Int) : ∀ (p : E3) (ms : List E3), msOk u (some p) ms = (srt (p :: ms) && ms.all (msgIn u))
  | _, [] => by simp [msOk, srt]
  | p, m :: ms => by
    simp only [msOk, msOk_some u m ms, srt, List.all_cons, befP]
    cases msgIn u m <;> cases bef m p <;> simp
theorem msOk_none (u : Int) (ms : List E3) : msOk u none ms = (srt ms && ms.all (msgIn u)) := by
  cases ms with
  | nil => simp [msOk, srt]
  | cons m ms =>
    simp only [msOk, msOk_some, List.all_cons, befP]
    cases msgIn u m <;> simp
def stOk (many r : Int) (vs : List Int) (gl : Nat) (ms : List E3) : Bool := inR 0 16 many && inR 0 100 r && decide ((vs.length : Int) = many) && decide ((gl : Int) = many) && decide (ms.length ≤ 2000) && vs.all valIn && msOk (many - 1) none ms
theorem all_step {α : Type} {f : α → Bool} {xs : List α} {k : Nat} (h : k < xs.length) : (xs.drop k).all f = (f xs[k] && (xs.drop (k + 1)).all f) := by
  rw [List.drop_eq_getElem_cons h, List.all_cons]
def bools (gs : List Bool) : List P0 := gs.map fun b => .one (bool b)
theorem bools_len (gs : List Bool) : (bools gs).length = gs.length := List.length_map ..
theorem bools_at {gs : List Bool} {k : Nat} (h : k < gs.length) : (bools gs)[(k : Int).toNat]? = some (.one (bool gs[k])) := by
  unfold bools; simp [h]
abbrev stateP (r : Int) (nv : Bool) (vs : List Int) (ng : Bool) (gs : List Bool) (nm : Bool) (ms : List E3) : P0 := .agg [int r, row nv 1 (ints vs), row ng 1 (bools gs), row nm 3 (edges ms)]
structure Sta where
  r : Int
  vs : List Int
  gs : List Bool
  ms : List E3
def b01 (g : Bool) : Int := if g then 1 else 0
def Sta.ok (s : Sta) : Bool := stOk s.vs.length s.r s.vs s.gs.length s.ms
def rcV (v : Int) (g : Bool) : List Int := 2 :: (enc (v + 1) ++ [b01 g])
def rcM (m : E3) : List Int := 3 :: edgeB m.1 m.2.1 m.2.2
def rcH (s : Sta) : List Int := 1 :: (enc s.r ++ (enc s.vs.length ++ enc s.ms.length))
def ckB (s : Sta) : List (List Int) := rcH s :: (List.zipWith rcV s.vs s.gs ++ (s.ms.map rcM ++ [[4]]))
def Ck (L : List (List Int)) (s : Sta) : Prop := s.ok = true ∧ ckB s <+: L
structure OkF (s : Sta) : Prop where
  many : s.vs.length ≤ 16
  r0 : 0 ≤ s.r
  r1 : s.r ≤ 100
  gl : s.gs.length = s.vs.length
  ml : s.ms.length ≤ 2000
  vin : ∀ v ∈ s.vs, -1 ≤ v ∧ v ≤ 999999
  min : ∀ m ∈ s.ms, 0 ≤ m.1 ∧ m.1 < s.vs.length ∧ 0 ≤ m.2.1 ∧ m.2.1 ≤ 999999 ∧ 0 ≤ m.2.2 ∧ m.2.2 < s.vs.length
theorem Sta.okF {s : Sta} (h : s.ok = true) : OkF s := by
  unfold Sta.ok stOk at h
  rw [msOk_none] at h
  simp only [Bool.and_eq_true, decide_eq_true_eq, List.all_eq_true] at h
  obtain ⟨⟨⟨⟨⟨⟨h1, h2⟩, h3⟩, h4⟩, h5⟩, h6⟩, h7, h8⟩ := h
  unfold inR at h1 h2
  rw [decide_eq_true_eq] at h1 h2
  refine ⟨by omega, h2.1, h2.2, by omega, h5, fun v hv => ?_, fun m hm => ?_⟩
  · have := h6 v hv
    unfold valIn inR at this
    simpa using this
  · have := h8 m hm
    unfold msgIn inR at this
    simp only [Bool.and_eq_true, decide_eq_true_eq] at this
    omega
theorem ckB_len {s : Sta} (h : OkF s) : (ckB s).length = s.vs.length + s.ms.length + 2 := by
  unfold ckB
  have := h.gl
  simp; omega
theorem Ck.len {L : List (List Int)} {s : Sta} (h : Ck L s) : s.vs.length + s.ms.length + 2 ≤ L.length := by
  rw [← ckB_len (Sta.okF h.1)]
  exact h.2.length_le
end Go.Proofs.YtlobefglhppbdaaGreatDoor.Abs
