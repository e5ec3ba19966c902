/- What an argument that can be read as data looks like in memory. No statement of the seat is proved here. -/
import Derived.Test.YtmkecjamfippfaaRows
import Derived.WalkKit
import Derived.ProofKit
import Derived.Lib.SmallJoins
import Derived.Handy
import Derived.Test.YtmkecjamfippfaaRxLib
set_option linter.unusedSimpArgs false
set_option linter.unusedVariables false
namespace Go.Proofs.Ytmkecjamfippfaa
open Go.ChangeShapes Go.WideShapes Go.ChangeAt Go.RowKit
theorem i64_of_wf {n : Int} (h : (Lit.int .i64 n).wf = true) : I64 n := by
  simp [Lit.wf, IntKind.min, IntKind.max, IntKind.signed, IntKind.bits] at h
  unfold I64; omega
section
variable {H : Type} {enc : TypeId × Value → H} {W : World} {base fuel : Nat} {spare : Nat → Bool} {held : Bool} {cs : List Value} {x : DataW H × List MemPlace}
theorem rd_int (h : DataW.trod enc Try.prog W base spare held fuel 3 cs = some x) : ∃ n, cs = [.int .i64 n] ∧ I64 n := by
  obtain ⟨n, h1, _, h2⟩ := DataW.trod_int Try.underlying3 h
  exact ⟨n, h1, i64_of_wf h2⟩
theorem addr_of_cell {w : World} {a : Addr} {v : Value} (h : w.cell? a = some v) : a = ⟨a.block, a.off, none⟩ := by
  unfold World.cell? at h
  cases hs : a.spot with
  | none => cases a; simp_all
  | some s => simp [hs] at h; split at h <;> simp_all
set_option maxRecDepth 100000 in
theorem rd_struct2 {t t0 t1 : TypeId} {f0 f1 : Field} {n0 n1 : Nat} (ht : Try.prog.underlying t = some (.struct #[f0, f1])) (h0 : f0.type = t0 ∧ f0.offset = 0) (h1 : f1.type = t1 ∧ f1.offset = n0) (c0 : Try.prog.cellsOf t0 = n0) (c1 : Try.prog.cellsOf t1 = n1)
    (hs : Try.prog.cellsOf t = n0 + n1) (h : DataW.trod enc Try.prog W base spare held fuel t cs = some x) :
    ∃ cs0 cs1 : List Value, ∃ x0 x1 : DataW H × List MemPlace, ∃ n, cs = cs0 ++ (cs1) ∧ cs0.length = n0 ∧ cs1.length = n1 ∧ DataW.trod enc Try.prog W base spare held n t0 cs0 = some x0 ∧ DataW.trod enc Try.prog W base spare held n t1 cs1 = some x1 := by
  obtain ⟨xs, n, _, _, hl, hx, hf⟩ := DataW.trod_struct ht h
  rw [hs] at hl
  match xs, hx with
  | [x0, x1], _ =>
    have g0 := hf 0 f0 rfl
    rw [h0.1, h0.2, c0] at g0
    have g1 := hf 1 f1 rfl
    rw [h1.1, h1.2, c1] at g1
    refine ⟨(cs.drop (0)).take n0, (cs.drop (n0)).take n1, x0, x1, n, ?_, by simp only [List.length_take, List.length_drop]; omega, by simp only [List.length_take, List.length_drop]; omega, g0, g1⟩
    have e1 : (cs.drop (n0)).take n1 = cs.drop (n0) := List.take_of_length_le (by simp only [List.length_drop]; omega)
    rw [e1]
    rw [show cs.drop (n0) = (cs.drop (0)).drop n0 by rw [List.drop_drop, Nat.zero_add], List.take_append_drop]
    simp
set_option maxRecDepth 100000 in
theorem rd_struct3 {t t0 t1 t2 : TypeId} {f0 f1 f2 : Field} {n0 n1 n2 : Nat} (ht : Try.prog.underlying t = some (.struct #[f0, f1, f2])) (h0 : f0.type = t0 ∧ f0.offset = 0) (h1 : f1.type = t1 ∧ f1.offset = n0) (h2 : f2.type = t2 ∧ f2.offset = n0 + n1) (c0 : Try.prog.cellsOf t0 = n0) (c1 : Try.prog.cellsOf t1 = n1) (c2 : Try.prog.cellsOf t2 = n2)
    (hs : Try.prog.cellsOf t = n0 + n1 + n2) (h : DataW.trod enc Try.prog W base spare held fuel t cs = some x) :
    ∃ cs0 cs1 cs2 : List Value, ∃ x0 x1 x2 : DataW H × List MemPlace, ∃ n, cs = cs0 ++ (cs1 ++ (cs2)) ∧ cs0.length = n0 ∧ cs1.length = n1 ∧ cs2.length = n2 ∧ DataW.trod enc Try.prog W base spare held n t0 cs0 = some x0 ∧ DataW.trod enc Try.prog W base spare held n t1 cs1 = some x1 ∧ DataW.trod enc Try.prog W base spare held n t2 cs2 = some x2 := by
  obtain ⟨xs, n, _, _, hl, hx, hf⟩ := DataW.trod_struct ht h
  rw [hs] at hl
  match xs, hx with
  | [x0, x1, x2], _ =>
    have g0 := hf 0 f0 rfl
    rw [h0.1, h0.2, c0] at g0
    have g1 := hf 1 f1 rfl
    rw [h1.1, h1.2, c1] at g1
    have g2 := hf 2 f2 rfl
    rw [h2.1, h2.2, c2] at g2
    refine ⟨(cs.drop (0)).take n0, (cs.drop (n0)).take n1, (cs.drop (n0 + n1)).take n2, x0, x1, x2, n, ?_, by simp only [List.length_take, List.length_drop]; omega, by simp only [List.length_take, List.length_drop]; omega, by simp only [List.length_take, List.length_drop]; omega, g0, g1, g2⟩
    have e2 : (cs.drop (n0 + n1)).take n2 = cs.drop (n0 + n1) := List.take_of_length_le (by simp only [List.length_drop]; omega)
    rw [e2]
    rw [show cs.drop (n0 + n1) = (cs.drop (n0)).drop n1 by rw [List.drop_drop], List.take_append_drop]
    rw [show cs.drop (n0) = (cs.drop (0)).drop n0 by rw [List.drop_drop, Nat.zero_add], List.take_append_drop]
    simp
end
end Go.Proofs.Ytmkecjamfippfaa
