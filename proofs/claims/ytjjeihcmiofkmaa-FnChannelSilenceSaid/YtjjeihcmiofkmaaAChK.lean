/- Channels by states: what l20Channel draws. No statement of the seat is proved here. -/
import Derived.Test.YtjjeihcmiofkmaaTy
import Derived.Lib.Hide
import Derived.Test.YtjjeihcmiofkmaaAChI
set_option linter.unusedSimpArgs false
set_option linter.unusedVariables false
namespace Go.Proofs.Ytjjeihcmiofkmaa.Abs
open Go.RowKit
open R (val row ref)

def zf : Nat → Bool
  | 0 => true
  | _ + 1 => false
def stTab : List Int := [0, 1, 1, 2, 3, 4, 5, 6, 7]
noncomputable def valV (bs : List Int) (p : Int) (i : Nat) : Int := pickV bs (p + (i : Int)) 256
noncomputable def valsT (bs : List Int) (p : Int) (n : Nat) : List Int := (List.range n).map (valV bs p)
theorem valsT_len (bs : List Int) (p : Int) (n : Nat) : (valsT bs p n).length = n := range_map_len _ _
theorem valsT_snoc (bs : List Int) (p : Int) (n : Nat) : valsT bs p (n + 1) = valsT bs p n ++ [pickV bs (p + (n : Int)) 256] := by unfold valsT; rw [List.range_succ, List.map_append]; rfl
theorem valsT_fits (bs : List Int) (p : Int) (n : Nat) (hn : n ≤ 20) : Ch.fits (valsT bs p n) = true := by
  unfold Ch.fits
  rw [valsT_len, Bool.and_eq_true, decide_eq_true_eq, List.all_eq_true]
  refine ⟨hn, fun v hv => ?_⟩
  obtain ⟨i, _, rfl⟩ := List.mem_map.1 hv
  have := pickV_in bs (p + (i : Int)) 256
  unfold Ch.fit valV
  rw [decide_eq_true_eq]; omega
noncomputable def stpV (bs : List Int) (p : Int) (i : Nat) : Int := dV stTab (pickV bs (p + (i : Int)) 9)
noncomputable def chAt (bs : List Int) (p : Int) (vs : List Int) : Nat → Ch
  | 0 => ch0 vs
  | i + 1 => (Ch.step (chAt bs p vs i) (stpV bs p i)).1
noncomputable def mkAt (bs : List Int) (p : Int) (vs : List Int) : Nat → Bool
  | 0 => true
  | i + 1 => decide (stpV bs p i = 6) && !(chAt bs p vs i).rs.isEmpty
theorem ch0_good {vs : List Int} (h : Ch.fits vs = true) : Ch.Good (ch0 vs) := Ch.ok_iff.1 ((ch0_ok vs).trans h)
theorem chAt_good (bs : List Int) (p : Int) {vs : List Int} (h : Ch.fits vs = true) : ∀ i, Ch.Good (chAt bs p vs i)
  | 0 => ch0_good h
  | i + 1 => ((chAt_good bs p h i).step _).1
def rowZ (nil : Bool) (k n sz : Nat) : Cell := if nil then .r true (row true 0 []) else .own k 0 n sz
theorem allN_ints (xs : List Int) : AllN 1 (ints xs) := fun i e he => by
  obtain ⟨x, _, rfl⟩ := List.mem_map.1 (List.mem_of_getElem? he)
  rfl
/-- The rows of a channel that is handed back. -/
def chW (k1 k2 k3 k4 : Nat) (nG nP nR mk : Bool) (c : Ch) : List Cell := [.own k1 0 c.vs.length 1, .r mk (int c.kn), rowZ nG k2 c.got.length 1, rowZ nP k3 c.ps.length 2, rowZ nR k4 c.rs.length 1]
def chWr (k1 k2 k3 k4 : Nat) (nG nP nR : Bool) (c : Ch) : List (Nat × Ob) := (k1, .sl 3 1 true (ints c.vs)) :: (rowO nG k2 3 1 (ints c.got) ++ (rowO nP k3 71 2 (pks c.ps) ++ rowO nR k4 3 1 (ints c.rs)))
def endCh (o : Bool) (q b : Int) (c : Ch) : Ch := if o = true then (if q = 0 then { c with kn := if b = 0 then -1 else (c.got.length : Int) + 1 } else if q = 1 then { c with got := c.got ++ [-5] } else if q = 2 then { c with ps := c.ps ++ [((c.vs.length : Int), 1)] } else { c with rs := c.rs ++ [(c.got.length : Int) + 1] }) else c
def endP (o : Bool) (q p : Int) : Int := if o = true then (if q = 0 then p + 1 + 1 + 1 else p + 1 + 1) else p + 1
def endG (K : Nat) (o : Bool) (q : Int) : Bool := zf K && !(o && decide (q = 1))
def endQ (K : Nat) (o : Bool) (q : Int) : Bool := zf K && !(o && decide (q = 2))
def endR (K : Nat) (o : Bool) (q : Int) : Bool := zf K && !(o && !decide (q = 0 ∨ q = 1 ∨ q = 2))
def endM (mk o : Bool) (q : Int) : Bool := if o = true ∧ q = 0 then true else mk
theorem end_facts {p p3 q b : Int} {K : Nat} {o : Bool} {c : Ch} (hz : zf K = true → c.got = [] ∧ c.ps = [] ∧ c.rs = []) (a1 : c.vs.length ≤ 20) (a2 : c.got.length ≤ c.vs.length) (a3 : c.ps.length ≤ 100) (a4 : c.rs.length ≤ 100) (h1 : p ≤ p3) (h2 : p3 ≤ p + 90) :
    (endG K o q = true → (endCh o q b c).got = []) ∧ (endQ K o q = true → (endCh o q b c).ps = []) ∧ (endR K o q = true → (endCh o q b c).rs = []) ∧ (endCh o q b c).vs.length ≤ 20 ∧ (endCh o q b c).got.length ≤ 21 ∧ (endCh o q b c).ps.length ≤ 101 ∧ (endCh o q b c).rs.length ≤ 101 ∧ p ≤ endP o q p3 ∧ endP o q p3 ≤ p + 100 := by
  unfold endG endQ endR endCh endP
  cases o with
  | false =>
    simp only [Bool.false_eq_true, if_false, Bool.false_and, Bool.not_false, Bool.and_true]
    exact ⟨fun h => (hz h).1, fun h => (hz h).2.1, fun h => (hz h).2.2, a1, by omega, by omega, by omega, by omega, by omega⟩
  | true =>
    by_cases q0 : q = 0
    · subst q0
      simp only [if_true, Bool.and_eq_true]
      exact ⟨fun h => (hz h.1).1, fun h => (hz h.1).2.1, fun h => (hz h.1).2.2, a1, by omega, by omega, by omega, by omega, by omega⟩
    · by_cases q1 : q = 1
      · subst q1
        simp only [if_true, Bool.and_eq_true]
        simp (decide := true) only [if_false, if_true]
        refine ⟨fun h => absurd h.2 (by simp), fun h => (hz h.1).2.1, fun h => (hz h.1).2.2, a1, by first | omega | (simp; omega), by first | omega | (simp; omega), by first | omega | (simp; omega), by omega, by omega⟩
      · by_cases q2 : q = 2
        · subst q2
          simp only [if_true, Bool.and_eq_true]
          simp (decide := true) only [if_false, if_true]
          refine ⟨fun h => (hz h.1).1, fun h => absurd h.2 (by simp), fun h => (hz h.1).2.2, a1, by first | omega | (simp; omega), by first | omega | (simp; omega), by first | omega | (simp; omega), by omega, by omega⟩
        · simp only [if_true, q0, q1, q2, if_false, Bool.and_eq_true]
          refine ⟨fun h => (hz h.1).1, fun h => (hz h.1).2.1, fun h => absurd h.2 (by simp), a1, by first | omega | (simp; omega), by first | omega | (simp; omega), by first | omega | (simp; omega), by omega, by omega⟩
end Go.Proofs.Ytjjeihcmiofkmaa.Abs
