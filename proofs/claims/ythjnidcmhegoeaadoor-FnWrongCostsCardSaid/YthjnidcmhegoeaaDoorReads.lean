/- What an argument that can be read as data looks like in memory. No statement of the seat is proved here. -/
import Derived.Test.YthjnidcmhegoeaaDoorRows
import Derived.WalkKit
import Derived.ProofKit
import Derived.Lib.SmallJoins
import Derived.Handy
import Derived.Test.YthjnidcmhegoeaaDoorLib
set_option linter.unusedSimpArgs false
set_option linter.unusedVariables false
namespace Go.Proofs.YthjnidcmhegoeaaDoor
open Go.ChangeShapes Go.WideShapes Go.ChangeAt Go.RowKit

theorem i64_of_wf {n : Int} (h : (Lit.int .i64 n).wf = true) : I64 n := by
  simp [Lit.wf, IntKind.min, IntKind.max, IntKind.signed, IntKind.bits] at h
  unfold I64; omega

section
variable {H : Type} {enc : TypeId × Value → H} {W : World} {base fuel : Nat} {spare : Nat → Bool} {held : Bool} {cs : List Value} {x : DataW H × List MemPlace}
theorem rd_int (h : DataW.trod enc Tryd.prog W base spare held fuel 3 cs = some x) : ∃ n, cs = [.int .i64 n] ∧ I64 n := by
  obtain ⟨n, h1, _, h2⟩ := DataW.trod_int Tryd.underlying3 h
  exact ⟨n, h1, i64_of_wf h2⟩

theorem addr_of_cell {w : World} {a : Addr} {v : Value} (h : w.cell? a = some v) : a = ⟨a.block, a.off, none⟩ := by
  unfold World.cell? at h
  cases hs : a.spot with
  | none => cases a; simp_all
  | some s => simp [hs] at h; split at h <;> simp_all

theorem rd_ints (h : DataW.trod enc Tryd.prog W base spare held fuel 44 cs = some x) :
    ∃ ao c b o xs, cs = [.slice ao xs.length c] ∧ At ao b o xs.length ∧ Ints W b o xs ∧ (∀ z ∈ xs, I64 z) ∧ xs.length ≤ c ∧ c ≤ maxLen := by
  rcases open_ints Tryd.underlying44 Tryd.underlying3 (by kernel_rfl) h with ⟨rfl, _⟩ | ⟨a, len, cap, zs, rfl, _, hl, hm, hz, _, hc, hw⟩
  · exact ⟨none, 0, 0, 0, [], rfl, .zero _ _ _, Ints.nil _ _ _, by simp, by simp, by simp [maxLen]⟩
  · have hlz : len ≤ zs.length := by rw [hz]; split <;> omega
    have hlen : (zs.take len).length = len := by rw [List.length_take]; omega
    refine ⟨some a, cap, a.block, a.off, zs.take len, by rw [hlen], ?_, ?_, fun z hz' => i64_of_wf (hw z (List.mem_of_mem_take hz')), by omega, hm⟩
    · rw [hlen]
      rcases Nat.eq_zero_or_pos len with h0 | h0
      · exact .inl h0
      · have h1 := hc 0 (by omega)
        have h2 : a.add 0 = a := by simp [Addr.add]
        rw [h2] at h1
        exact .inr (congrArg some (addr_of_cell h1))
    · intro i hi
      rw [hlen] at hi
      have h1 := hc i (by omega)
      have h0 := hc 0 (by omega)
      have h2 : a.add 0 = a := by simp [Addr.add]
      rw [h2] at h0
      have ha := addr_of_cell h0
      have h3 : a.add i = ⟨a.block, a.off + i, none⟩ := by rw [ha, Addr.add_lit]
      rw [h3] at h1
      rw [h1]
      simp [List.getD, List.getElem?_take, hi]

theorem u8_of_wf {n : Int} (h : (Lit.int .u8 n).wf = true) : 0 ≤ n ∧ n ≤ 255 := by
  simp [Lit.wf, IntKind.min, IntKind.max, IntKind.signed, IntKind.bits] at h
  omega
theorem rd_bytes (h : DataW.trod enc Tryd.prog W base spare held fuel 32 cs = some x) :
    ∃ ao c b o xs, cs = [.slice ao xs.length c] ∧ At ao b o xs.length ∧ Bytes W b o xs ∧ (∀ z ∈ xs, 0 ≤ z ∧ z ≤ 255) ∧ xs.length ≤ c ∧ c ≤ maxLen := by
  rcases open_ints Tryd.underlying32 Tryd.underlying5 (by kernel_rfl) h with ⟨rfl, _⟩ | ⟨a, len, cap, zs, rfl, _, hl, hm, hz, _, hc, hw⟩
  · exact ⟨none, 0, 0, 0, [], rfl, .zero _ _ _, fun i hi => by simp at hi, by simp, by simp, by simp [maxLen]⟩
  · have hlz : len ≤ zs.length := by rw [hz]; split <;> omega
    have hlen : (zs.take len).length = len := by rw [List.length_take]; omega
    refine ⟨some a, cap, a.block, a.off, zs.take len, by rw [hlen], ?_, ?_, fun z hz' => u8_of_wf (hw z (List.mem_of_mem_take hz')), by omega, hm⟩
    · rw [hlen]
      rcases Nat.eq_zero_or_pos len with h0 | h0
      · exact .inl h0
      · have h1 := hc 0 (by omega)
        have h2 : a.add 0 = a := by simp [Addr.add]
        rw [h2] at h1
        exact .inr (congrArg some (addr_of_cell h1))
    · intro i hi
      rw [hlen] at hi
      have h1 := hc i (by omega)
      have h0 := hc 0 (by omega)
      have h2 : a.add 0 = a := by simp [Addr.add]
      rw [h2] at h0
      have ha := addr_of_cell h0
      have h3 : a.add i = ⟨a.block, a.off + i, none⟩ := by rw [ha, Addr.add_lit]
      rw [h3] at h1
      rw [h1]
      simp [List.getD, List.getElem?_take, hi]

set_option maxRecDepth 100000 in
/-- A struct of three numbers. -/
theorem rd_three {t : TypeId} {f0 f1 f2 : Field} (ht : Tryd.prog.underlying t = some (.struct #[f0, f1, f2])) (hs : Tryd.prog.cellsOf t = 3)
    (h0 : f0.type = 3 ∧ f0.offset = 0) (h1 : f1.type = 3 ∧ f1.offset = 1) (h2 : f2.type = 3 ∧ f2.offset = 2)
    (h : DataW.trod enc Tryd.prog W base spare held fuel t cs = some x) : ∃ a b c, cs = [.int .i64 a, .int .i64 b, .int .i64 c] ∧ I64 a ∧ I64 b ∧ I64 c := by
  obtain ⟨xs, n, _, _, hl, hx, hf⟩ := DataW.trod_struct ht h
  rw [hs] at hl
  have c1 : Tryd.prog.cellsOf 3 = 1 := by kernel_rfl
  match cs, hl, xs, hx with
  | [v0, v1, v2], _, [x0, x1, x2], _ =>
    have g0 := hf 0 f0 rfl
    have g1 := hf 1 f1 rfl
    have g2 := hf 2 f2 rfl
    rw [h0.1, h0.2, c1] at g0
    rw [h1.1, h1.2, c1] at g1
    rw [h2.1, h2.2, c1] at g2
    obtain ⟨a, ha, wa⟩ := rd_int (show DataW.trod enc Tryd.prog W base spare held n 3 [v0] = some x0 from g0)
    obtain ⟨b, hb, wb⟩ := rd_int (show DataW.trod enc Tryd.prog W base spare held n 3 [v1] = some x1 from g1)
    obtain ⟨c, hc, wc⟩ := rd_int (show DataW.trod enc Tryd.prog W base spare held n 3 [v2] = some x2 from g2)
    simp at ha hb hc
    subst ha hb hc
    exact ⟨a, b, c, rfl, wa, wb, wc⟩

set_option maxRecDepth 100000 in
theorem rd_struct2 {t t0 t1 : TypeId} {f0 f1 : Field} {n0 n1 : Nat} (ht : Tryd.prog.underlying t = some (.struct #[f0, f1])) (h0 : f0.type = t0 ∧ f0.offset = 0) (h1 : f1.type = t1 ∧ f1.offset = n0) (c0 : Tryd.prog.cellsOf t0 = n0) (c1 : Tryd.prog.cellsOf t1 = n1)
    (hs : Tryd.prog.cellsOf t = n0 + n1) (h : DataW.trod enc Tryd.prog W base spare held fuel t cs = some x) :
    ∃ cs0 cs1 : List Value, ∃ x0 x1 : DataW H × List MemPlace, ∃ n, cs = cs0 ++ (cs1) ∧ cs0.length = n0 ∧ cs1.length = n1 ∧ DataW.trod enc Tryd.prog W base spare held n t0 cs0 = some x0 ∧ DataW.trod enc Tryd.prog W base spare held n t1 cs1 = some x1 := by
  obtain ⟨xs, n, _, _, hl, hx, hf⟩ := DataW.trod_struct ht h
  rw [hs] at hl
  match xs, hx with
  | [x0, x1], _ =>
    have g0 := hf 0 f0 rfl
    rw [h0.1, h0.2, c0] at g0
    have g1 := hf 1 f1 rfl
    rw [h1.1, h1.2, c1] at g1
    refine ⟨(cs.drop (0)).take n0, (cs.drop (n0)).take n1, x0, x1, n, ?_, by simp only [List.length_take, List.length_drop]; omega, by simp only [List.length_take, List.length_drop]; omega, g0, g1⟩
    have e1 : (cs.drop (n0)).take n1 = cs.drop (n0) := List.take_of_length_le (by simp only [List.length_drop]; omega)
    rw [e1]
    rw [show cs.drop (n0) = (cs.drop (0)).drop n0 by rw [List.drop_drop, Nat.zero_add], List.take_append_drop]
    simp

set_option maxRecDepth 100000 in
theorem rd_struct3 {t t0 t1 t2 : TypeId} {f0 f1 f2 : Field} {n0 n1 n2 : Nat} (ht : Tryd.prog.underlying t = some (.struct #[f0, f1, f2])) (h0 : f0.type = t0 ∧ f0.offset = 0) (h1 : f1.type = t1 ∧ f1.offset = n0) (h2 : f2.type = t2 ∧ f2.offset = n0 + n1) (c0 : Tryd.prog.cellsOf t0 = n0) (c1 : Tryd.prog.cellsOf t1 = n1) (c2 : Tryd.prog.cellsOf t2 = n2)
    (hs : Tryd.prog.cellsOf t = n0 + n1 + n2) (h : DataW.trod enc Tryd.prog W base spare held fuel t cs = some x) :
    ∃ cs0 cs1 cs2 : List Value, ∃ x0 x1 x2 : DataW H × List MemPlace, ∃ n, cs = cs0 ++ (cs1 ++ (cs2)) ∧ cs0.length = n0 ∧ cs1.length = n1 ∧ cs2.length = n2 ∧ DataW.trod enc Tryd.prog W base spare held n t0 cs0 = some x0 ∧ DataW.trod enc Tryd.prog W base spare held n t1 cs1 = some x1 ∧ DataW.trod enc Tryd.prog W base spare held n t2 cs2 = some x2 := by
  obtain ⟨xs, n, _, _, hl, hx, hf⟩ := DataW.trod_struct ht h
  rw [hs] at hl
  match xs, hx with
  | [x0, x1, x2], _ =>
    have g0 := hf 0 f0 rfl
    rw [h0.1, h0.2, c0] at g0
    have g1 := hf 1 f1 rfl
    rw [h1.1, h1.2, c1] at g1
    have g2 := hf 2 f2 rfl
    rw [h2.1, h2.2, c2] at g2
    refine ⟨(cs.drop (0)).take n0, (cs.drop (n0)).take n1, (cs.drop (n0 + n1)).take n2, x0, x1, x2, n, ?_, by simp only [List.length_take, List.length_drop]; omega, by simp only [List.length_take, List.length_drop]; omega, by simp only [List.length_take, List.length_drop]; omega, g0, g1, g2⟩
    have e2 : (cs.drop (n0 + n1)).take n2 = cs.drop (n0 + n1) := List.take_of_length_le (by simp only [List.length_drop]; omega)
    rw [e2]
    rw [show cs.drop (n0 + n1) = (cs.drop (n0)).drop n1 by rw [List.drop_drop], List.take_append_drop]
    rw [show cs.drop (n0) = (cs.drop (0)).drop n0 by rw [List.drop_drop, Nat.zero_add], List.take_append_drop]
    simp

set_option maxRecDepth 100000 in
theorem rd_struct4 {t t0 t1 t2 t3 : TypeId} {f0 f1 f2 f3 : Field} {n0 n1 n2 n3 : Nat} (ht : Tryd.prog.underlying t = some (.struct #[f0, f1, f2, f3])) (h0 : f0.type = t0 ∧ f0.offset = 0) (h1 : f1.type = t1 ∧ f1.offset = n0) (h2 : f2.type = t2 ∧ f2.offset = n0 + n1) (h3 : f3.type = t3 ∧ f3.offset = n0 + n1 + n2) (c0 : Tryd.prog.cellsOf t0 = n0) (c1 : Tryd.prog.cellsOf t1 = n1) (c2 : Tryd.prog.cellsOf t2 = n2) (c3 : Tryd.prog.cellsOf t3 = n3)
    (hs : Tryd.prog.cellsOf t = n0 + n1 + n2 + n3) (h : DataW.trod enc Tryd.prog W base spare held fuel t cs = some x) :
    ∃ cs0 cs1 cs2 cs3 : List Value, ∃ x0 x1 x2 x3 : DataW H × List MemPlace, ∃ n, cs = cs0 ++ (cs1 ++ (cs2 ++ (cs3))) ∧ cs0.length = n0 ∧ cs1.length = n1 ∧ cs2.length = n2 ∧ cs3.length = n3 ∧ DataW.trod enc Tryd.prog W base spare held n t0 cs0 = some x0 ∧ DataW.trod enc Tryd.prog W base spare held n t1 cs1 = some x1 ∧ DataW.trod enc Tryd.prog W base spare held n t2 cs2 = some x2 ∧ DataW.trod enc Tryd.prog W base spare held n t3 cs3 = some x3 := by
  obtain ⟨xs, n, _, _, hl, hx, hf⟩ := DataW.trod_struct ht h
  rw [hs] at hl
  match xs, hx with
  | [x0, x1, x2, x3], _ =>
    have g0 := hf 0 f0 rfl
    rw [h0.1, h0.2, c0] at g0
    have g1 := hf 1 f1 rfl
    rw [h1.1, h1.2, c1] at g1
    have g2 := hf 2 f2 rfl
    rw [h2.1, h2.2, c2] at g2
    have g3 := hf 3 f3 rfl
    rw [h3.1, h3.2, c3] at g3
    refine ⟨(cs.drop (0)).take n0, (cs.drop (n0)).take n1, (cs.drop (n0 + n1)).take n2, (cs.drop (n0 + n1 + n2)).take n3, x0, x1, x2, x3, n, ?_, by simp only [List.length_take, List.length_drop]; omega, by simp only [List.length_take, List.length_drop]; omega, by simp only [List.length_take, List.length_drop]; omega, by simp only [List.length_take, List.length_drop]; omega, g0, g1, g2, g3⟩
    have e3 : (cs.drop (n0 + n1 + n2)).take n3 = cs.drop (n0 + n1 + n2) := List.take_of_length_le (by simp only [List.length_drop]; omega)
    rw [e3]
    rw [show cs.drop (n0 + n1 + n2) = (cs.drop (n0 + n1)).drop n2 by rw [List.drop_drop], List.take_append_drop]
    rw [show cs.drop (n0 + n1) = (cs.drop (n0)).drop n1 by rw [List.drop_drop], List.take_append_drop]
    rw [show cs.drop (n0) = (cs.drop (0)).drop n0 by rw [List.drop_drop, Nat.zero_add], List.take_append_drop]
    simp

set_option maxRecDepth 100000 in
theorem rd_struct5 {t t0 t1 t2 t3 t4 : TypeId} {f0 f1 f2 f3 f4 : Field} {n0 n1 n2 n3 n4 : Nat} (ht : Tryd.prog.underlying t = some (.struct #[f0, f1, f2, f3, f4])) (h0 : f0.type = t0 ∧ f0.offset = 0) (h1 : f1.type = t1 ∧ f1.offset = n0) (h2 : f2.type = t2 ∧ f2.offset = n0 + n1) (h3 : f3.type = t3 ∧ f3.offset = n0 + n1 + n2) (h4 : f4.type = t4 ∧ f4.offset = n0 + n1 + n2 + n3) (c0 : Tryd.prog.cellsOf t0 = n0) (c1 : Tryd.prog.cellsOf t1 = n1) (c2 : Tryd.prog.cellsOf t2 = n2) (c3 : Tryd.prog.cellsOf t3 = n3) (c4 : Tryd.prog.cellsOf t4 = n4)
    (hs : Tryd.prog.cellsOf t = n0 + n1 + n2 + n3 + n4) (h : DataW.trod enc Tryd.prog W base spare held fuel t cs = some x) :
    ∃ cs0 cs1 cs2 cs3 cs4 : List Value, ∃ x0 x1 x2 x3 x4 : DataW H × List MemPlace, ∃ n, cs = cs0 ++ (cs1 ++ (cs2 ++ (cs3 ++ (cs4)))) ∧ cs0.length = n0 ∧ cs1.length = n1 ∧ cs2.length = n2 ∧ cs3.length = n3 ∧ cs4.length = n4 ∧ DataW.trod enc Tryd.prog W base spare held n t0 cs0 = some x0 ∧ DataW.trod enc Tryd.prog W base spare held n t1 cs1 = some x1 ∧ DataW.trod enc Tryd.prog W base spare held n t2 cs2 = some x2 ∧ DataW.trod enc Tryd.prog W base spare held n t3 cs3 = some x3 ∧ DataW.trod enc Tryd.prog W base spare held n t4 cs4 = some x4 := by
  obtain ⟨xs, n, _, _, hl, hx, hf⟩ := DataW.trod_struct ht h
  rw [hs] at hl
  match xs, hx with
  | [x0, x1, x2, x3, x4], _ =>
    have g0 := hf 0 f0 rfl
    rw [h0.1, h0.2, c0] at g0
    have g1 := hf 1 f1 rfl
    rw [h1.1, h1.2, c1] at g1
    have g2 := hf 2 f2 rfl
    rw [h2.1, h2.2, c2] at g2
    have g3 := hf 3 f3 rfl
    rw [h3.1, h3.2, c3] at g3
    have g4 := hf 4 f4 rfl
    rw [h4.1, h4.2, c4] at g4
    refine ⟨(cs.drop (0)).take n0, (cs.drop (n0)).take n1, (cs.drop (n0 + n1)).take n2, (cs.drop (n0 + n1 + n2)).take n3, (cs.drop (n0 + n1 + n2 + n3)).take n4, x0, x1, x2, x3, x4, n, ?_, by simp only [List.length_take, List.length_drop]; omega, by simp only [List.length_take, List.length_drop]; omega, by simp only [List.length_take, List.length_drop]; omega, by simp only [List.length_take, List.length_drop]; omega, by simp only [List.length_take, List.length_drop]; omega, g0, g1, g2, g3, g4⟩
    have e4 : (cs.drop (n0 + n1 + n2 + n3)).take n4 = cs.drop (n0 + n1 + n2 + n3) := List.take_of_length_le (by simp only [List.length_drop]; omega)
    rw [e4]
    rw [show cs.drop (n0 + n1 + n2 + n3) = (cs.drop (n0 + n1 + n2)).drop n3 by rw [List.drop_drop], List.take_append_drop]
    rw [show cs.drop (n0 + n1 + n2) = (cs.drop (n0 + n1)).drop n2 by rw [List.drop_drop], List.take_append_drop]
    rw [show cs.drop (n0 + n1) = (cs.drop (n0)).drop n1 by rw [List.drop_drop], List.take_append_drop]
    rw [show cs.drop (n0) = (cs.drop (0)).drop n0 by rw [List.drop_drop, Nat.zero_add], List.take_append_drop]
    simp

theorem list3 {v : List Value} (h : v.length = 3) : ∃ a b c, v = [a, b, c] := by
  match v, h with
  | [a, b, c], _ => exact ⟨a, b, c, rfl⟩
theorem list1 {v : List Value} (h : v.length = 1) : ∃ a, v = [a] := by
  match v, h with
  | [a], _ => exact ⟨a, rfl⟩
theorem rd_program (h : DataW.trod enc Tryd.prog W base spare held fuel 23 cs = some x) : ∃ a b c, cs = [.int .i64 a, .int .i64 b, .int .i64 c] ∧ I64 a ∧ I64 b ∧ I64 c :=
  rd_three Tryd.underlying23 (by kernel_rfl) ⟨rfl, rfl⟩ ⟨rfl, rfl⟩ ⟨rfl, rfl⟩ h
theorem rd_job (h : DataW.trod enc Tryd.prog W base spare held fuel 25 cs = some x) : ∃ a b c d, cs = [.int .i64 a, .int .i64 b, .int .i64 c, .int .i64 d] ∧ I64 a ∧ I64 b ∧ I64 c ∧ I64 d := by
  obtain ⟨cs0, cs1, x0, x1, n, rfl, _, _, h0, h1⟩ := rd_struct2 (n0 := 3) (n1 := 1) Tryd.underlying25 ⟨rfl, rfl⟩ ⟨rfl, rfl⟩ (by kernel_rfl) (by kernel_rfl) (by kernel_rfl) h
  obtain ⟨a, b, c, rfl, wa, wb, wc⟩ := rd_program h0
  obtain ⟨d, rfl, wd⟩ := rd_int h1
  exact ⟨a, b, c, d, rfl, wa, wb, wc, wd⟩
end
end Go.Proofs.YthjnidcmhegoeaaDoor
