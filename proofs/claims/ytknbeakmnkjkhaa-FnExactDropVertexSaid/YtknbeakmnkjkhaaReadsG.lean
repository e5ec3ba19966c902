/- What graphs that can be read as data look like in memory. No statement of the seat is proved here. -/
import Derived.Deep.Slices
import Derived.Test.YtknbeakmnkjkhaaRows
import Derived.WalkKit
import Derived.ProofKit
import Derived.Lib.SmallJoins
import Derived.Handy
import Derived.Test.YtknbeakmnkjkhaaLib
import Derived.Test.YtknbeakmnkjkhaaOwn
import Derived.Test.YtknbeakmnkjkhaaReads
import Derived.Test.YtknbeakmnkjkhaaGraphs
set_option linter.unusedSimpArgs false
set_option linter.unusedVariables false
namespace Go.Proofs.Ytknbeakmnkjkhaa
open Go.ChangeShapes Go.WideShapes Go.ChangeAt Go.RowKit

section
variable {H : Type} {enc : TypeId × Value → H} {W : World} {base fuel : Nat} {spare : Nat → Bool} {held : Bool} {cs : List Value} {x : DataW H × List MemPlace}
theorem rd_edge (h : DataW.trod enc Try.prog W base spare held fuel 45 cs = some x) : ∃ e : E3, cs = [.int .i64 e.1, .int .i64 e.2.1, .int .i64 e.2.2] := by
  obtain ⟨a, b, c, rfl, _⟩ := rd_three Try.underlying45 (by kernel_rfl) ⟨rfl, rfl⟩ ⟨rfl, rfl⟩ ⟨rfl, rfl⟩ h
  exact ⟨(a, b, c), rfl⟩
theorem rd_edges (h : DataW.trod enc Try.prog W base spare held fuel 22 cs = some x) :
    ∃ ao c es, cs = [.slice ao es.length c] ∧ Se W ao es ∧ es.length ≤ maxLen := by
  rcases Go.Deep.open_slice Try.underlying22 h with ⟨rfl, _⟩ | ⟨a, len, cap, m, n, D, Pl, rfl, hb, hl, hm, hmm, _, hx⟩
  · exact ⟨none, 0, [], rfl, Src.empty _ _ _, by simp⟩
  · have hlm : len ≤ m := by rw [hmm]; split <;> omega
    have ce : Try.prog.cellsOf 45 = 3 := by kernel_rfl
    have each : ∀ i, i < len → ∃ e : E3, W.cell? (a.add (i * 3)) = some (.int .i64 e.1) ∧ W.cell? (a.add (i * 3 + 1)) = some (.int .i64 e.2.1) ∧ W.cell? (a.add (i * 3 + 2)) = some (.int .i64 e.2.2) := by
      intro i hi
      obtain ⟨cs', h1, h2⟩ := hx i (by omega)
      rw [ce] at h1
      obtain ⟨_, hlen, hcell⟩ := World.cells?_some h1
      obtain ⟨e, rfl⟩ := rd_edge h2
      have e0 := hcell 0 (by omega)
      have e1 := hcell 1 (by omega)
      have e2 := hcell 2 (by omega)
      rw [Go.Deep.add_add] at e0 e1 e2
      exact ⟨e, by simpa using e0, by simpa using e1, by simpa using e2⟩
    obtain ⟨q, hq⟩ := Go.Deep.choose_lt each
    have hes : ((List.range len).map q).length = len := by simp
    refine ⟨some a, cap, (List.range len).map q, by rw [hes], ⟨by rw [ev_len], fun h0 => ?_⟩, by omega⟩
    rw [hes] at h0
    have ha0 := (hq 0 h0).1
    have hae : a = ⟨a.block, a.off, none⟩ := by
      have h3 := addr_of_cell ha0
      have h4 : a.add (0 * 3) = a := by simp [Addr.add]
      rw [h4] at h3
      exact h3
    refine ⟨a.block, a.off, congrArg some hae, fun j u hu => ?_⟩
    have hj : j < len * 3 := by
      have := (List.getElem?_eq_some_iff.1 hu).1
      rw [ev_len, hes] at this
      exact this
    have hi : j / 3 < len := by omega
    obtain ⟨g0, g1, g2⟩ := ev_get ((List.range len).map q) (j / 3) (by rw [hes]; exact hi)
    obtain ⟨c0, c1, c2⟩ := hq (j / 3) hi
    rw [hae, Addr.add_lit] at c0 c1 c2
    have hg : ((List.range len).map q)[j / 3]'(by rw [hes]; exact hi) = q (j / 3) := by simp
    rw [hg] at g0 g1 g2
    have h3 : j % 3 = 0 ∨ j % 3 = 1 ∨ j % 3 = 2 := by omega
    rcases h3 with h3 | h3 | h3
    · have hjj : j = j / 3 * 3 := by omega
      rw [← hjj] at g0 c0
      rw [g0] at hu
      rw [c0, hu]
    · have hjj : j = j / 3 * 3 + 1 := by omega
      rw [← hjj] at g1 c1
      rw [g1] at hu
      rw [c1, hu]
    · have hjj : j = j / 3 * 3 + 2 := by omega
      rw [← hjj] at g2 c2
      rw [g2] at hu
      rw [c2, hu]
theorem rd_graph (h : DataW.trod enc Try.prog W base spare held fuel 24 cs = some x) :
    ∃ m ao c es, cs = [.int .i64 m, .slice ao es.length c] ∧ I64 m ∧ Se W ao es ∧ es.length ≤ maxLen := by
  obtain ⟨cs0, cs1, x0, x1, n, rfl, _, _, h0, h1⟩ := rd_struct2 (n0 := 1) (n1 := 1) Try.underlying24 ⟨rfl, rfl⟩ ⟨rfl, rfl⟩ (by kernel_rfl) (by kernel_rfl) (by kernel_rfl) h
  obtain ⟨m, rfl, hm⟩ := rd_int h0
  obtain ⟨ao, c, es, rfl, hs, hl⟩ := rd_edges h1
  exact ⟨m, ao, c, es, rfl, hm, hs, hl⟩
end
end Go.Proofs.Ytknbeakmnkjkhaa
