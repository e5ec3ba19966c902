/- Arguments that can be read as data, by states: what a reader of each type gives. No statement of the seat is proved here. -/
import Derived.Deep.Slices
import Derived.Test.YtlobefglhppbdaaGreatDoorRows
import Derived.WalkKit
import Derived.ProofKit
import Derived.Lib.SmallJoins
import Derived.Handy
import Derived.Lib.Hide
import Derived.Lib.LaidTab
import Derived.LaidMore
import Derived.Lay
import Derived.SevenTiedAt
import Derived.OpenShut
import Derived.Stop.Joined
import Derived.Test.YtlobefglhppbdaaGreatDoorCtLib
import Derived.Test.YtlobefglhppbdaaGreatDoorCtOwn
import Derived.Test.YtlobefglhppbdaaGreatDoorCtFrame
import Derived.Test.YtlobefglhppbdaaGreatDoorCtReads
import Derived.Test.YtlobefglhppbdaaGreatDoorCtTy
import Derived.Test.YtlobefglhppbdaaGreatDoorCtADrwI
set_option linter.unusedSimpArgs false
set_option linter.unusedVariables false
namespace Go.Proofs.YtlobefglhppbdaaGreatDoor.Abs
open Go.RowKit
open R (val row ref)
open Go.ChangeShapes Go.WideShapes Go.ChangeAt
def CsP (W : World) (cs : List Value) (x : P0) : Prop := cs.length = x.rs.length ∧ ∀ (j : Nat) (r : R), x.rs[j]? = some r → ∃ u, cs[j]? = some u ∧ r.p ⟨W, fun _ => False⟩ u
theorem CsP.one {W : World} {v : Value} {r : R} (h : r.p ⟨W, fun _ => False⟩ v) : CsP W [v] (.one r) :=
  ⟨rfl, fun j r' hj => by
    match j, hj with
    | 0, hj => obtain rfl : r = r' := by simpa [P0.rs] using hj
               exact ⟨v, rfl, h⟩⟩
theorem CsP.arg {W : World} {v : Value} {r : R} (h : CsP W [v] (.one r)) : (P0.one r).p ⟨W, fun _ => False⟩ v := by
  obtain ⟨u, hu, hr⟩ := h.2 0 r rfl
  obtain rfl : v = u := by simpa using hu
  exact hr
theorem block_lt' {w : World} {a : Addr} {v : Value} (h : w.cell? a = some v) : a.block < w.heap.size := by
  unfold World.cell? at h
  cases hb : w.heap[a.block]? with
  | none => simp [hb] at h
  | some _ => exact (Array.getElem?_eq_some_iff.1 hb).1
section
variable {H : Type} (enc : TypeId × Value → H) (W : World) (base : Nat) (spare : Nat → Bool) (held : Bool)
def Rdr (t : TypeId) (α : Type) (g : α → P0) (good : α → Prop) : Prop := ∀ (fuel : Nat) (cs : List Value) (x : DataW H × List MemPlace), DataW.trod enc Tryz.prog W base spare held fuel t cs = some x → ∃ z : α, good z ∧ CsP W cs (g z)
variable {enc W base spare held}
theorem rdr_slice {t e : TypeId} {sz : Nat} {α : Type} [Inhabited α] {g : α → P0} {q : α → Prop} (ht : Tryz.prog.underlying t = some (.slice e)) (ce : Tryz.prog.cellsOf e = sz) (hz : 0 < sz) (hg : ∀ z, (g z).rs.length = sz) (r0 : Rdr enc W base spare held e α g q) :
    Rdr enc W base spare held t (Bool × List α) (fun z => .one (row z.1 sz (z.2.map g))) (fun z => z.2.length ≤ maxLen ∧ ∀ y ∈ z.2, q y) := fun _ _ _ h => by
  rcases Go.Deep.open_slice ht h with ⟨rfl, _⟩ | ⟨a, len, cap, m, n, D, Pl, rfl, hb, hl, hm, hmm, _, hx⟩
  · exact ⟨(true, []), ⟨by simp, by simp⟩, .one (row_p.2 ⟨none, 0, rfl, ⟨by simp, by simp⟩, by simp, fun _ => rfl, by simp⟩)⟩
  · have hlm : len ≤ m := by rw [hmm]; split <;> omega
    have each : ∀ i, i < len → ∃ z : α, q z ∧ ∀ j r, (g z).rs[j]? = some r → ∃ u, W.cell? (a.add (i * sz + j)) = some u ∧ r.p ⟨W, fun _ => False⟩ u := by
      intro i hi
      obtain ⟨cs', h1, h2⟩ := hx i (by omega)
      rw [ce] at h1
      obtain ⟨_, hlen, hcell⟩ := World.cells?_some h1
      obtain ⟨z, hq, hz⟩ := r0 _ _ _ h2
      refine ⟨z, hq, fun j r hj => ?_⟩
      obtain ⟨u, hu, hr⟩ := hz.2 j r hj
      have hjl : j < sz := by rw [← hg z]; exact (List.getElem?_eq_some_iff.1 hj).1
      have := hcell j (by omega)
      rw [Go.Deep.add_add] at this
      refine ⟨u, ?_, hr⟩
      rw [this]
      exact hu
    obtain ⟨f, hf⟩ := Go.Deep.choose_lt each
    have hes : ((List.range len).map f).length = len := by simp
    have hgl : (((List.range len).map f).map g).length = len := by simp
    refine ⟨(false, (List.range len).map f), ⟨by rw [hes]; omega, fun y hy => ?_⟩, .one (row_p.2 ⟨some a, cap, by rw [hgl], ⟨by rw [hgl]; exact hl, hm⟩, by simp, by simp, fun h0 => ?_⟩)⟩
    · simp only [List.mem_map, List.mem_range] at hy
      obtain ⟨i, hi, rfl⟩ := hy
      exact (hf i hi).1
    · rw [hgl] at h0
      have first : ∃ r, (g (f 0)).rs[0]? = some r := ⟨_, List.getElem?_eq_getElem (by rw [hg]; exact hz)⟩
      obtain ⟨r, hr⟩ := first
      obtain ⟨u, hu, _⟩ := (hf 0 h0).2 0 r hr
      have hae : a = ⟨a.block, a.off, none⟩ := by
        have h4 : a.add (0 * sz + 0) = a := by simp [Addr.add]
        rw [h4] at hu
        exact addr_of_cell hu
      have hin : a.block < W.heap.size := by
        have h4 : a.add (0 * sz + 0) = a := by simp [Addr.add]
        rw [h4] at hu
        exact block_lt' hu
      refine ⟨a.block, a.off, congrArg some hae, hin, id, fun i e he => ?_⟩
      simp only [List.getElem?_map, Option.map_eq_some_iff] at he
      obtain ⟨z, ⟨i', hi', rfl⟩, rfl⟩ := he
      obtain ⟨hil, rfl⟩ : i < len ∧ i = i' := by
        have := List.getElem?_eq_some_iff.1 hi'
        obtain ⟨h5, h6⟩ := this
        simp at h5 h6
        exact ⟨h5, h6⟩
      refine ⟨hg _, fun j r hj => ?_⟩
      obtain ⟨u, hu, hr⟩ := (hf i hil).2 j r hj
      refine ⟨u, ?_, hr⟩
      rw [hae, Addr.add_lit, ← Nat.add_assoc] at hu
      exact hu
theorem Rdr.turn {t : TypeId} {α : Type} {g g' : α → P0} {q q' : α → Prop} (h : Rdr enc W base spare held t α g q) (hg : ∀ z, g z = g' z) (hq : ∀ z, q z → q' z) : Rdr enc W base spare held t α g' q' := fun _ _ _ e => by
  obtain ⟨z, h1, h2⟩ := h _ _ _ e
  exact ⟨z, hq z h1, hg z ▸ h2⟩
theorem rdr_byte : Rdr enc W base spare held 5 Int byP (fun z => 0 ≤ z ∧ z ≤ 255) := fun _ _ _ h => by
  obtain ⟨n, rfl, _, h2⟩ := DataW.trod_int Tryz.underlying5 h
  exact ⟨n, u8_of_wf h2, .one (val_p.2 ⟨rfl, rfl⟩)⟩
theorem rdr_bytes : Rdr enc W base spare held 22 (Bool × List Int) (fun z => .one (row z.1 1 (bys z.2))) (fun z => z.2.length ≤ maxLen ∧ Byte z.2) :=
  (rdr_slice (sz := 1) Tryz.underlying22 (by kernel_rfl) (by omega) (fun _ => rfl) rdr_byte).turn (fun _ => rfl) (fun _ h => h)
end
theorem law_calls {f : FuncId} {args : List P0} (h : Fn Tryz.prog f args (.v (.one (bool true)))) {W : World} {vs : Array Value} (hG : Glob W.heap.size W) (hA : Args ⟨W, fun _ => False⟩ vs.toList args) :
    Calls Tryz.prog f vs W fun e w' => e = .returned (.bool true) ∧ Below W.heap.size W w' := by
  refine (h.2 W vs.toList hG hA).mono ?_
  rintro e w' ⟨v, rfl, hv, hb⟩
  exact ⟨by rw [(val_p.1 (show (bool true).p ⟨w', fun b => b < W.heap.size⟩ v from hv)).1], hb⟩
end Go.Proofs.YtlobefglhppbdaaGreatDoor.Abs
set_option linter.unusedSimpArgs false
set_option linter.unusedVariables false
namespace Go.Proofs.YtlobefglhppbdaaGreatDoor
open Go.ChangeShapes Go.WideShapes Go.ChangeAt Go.RowKit
open Go.ChangeShapes Go.WideShapes Go.ChangeAt Go.RowKit
def tabL : List (String × DataW Unit) := [("math/bits.deBruijn32tab", Rows.laid_math_bits_deBruijn32tab)]
theorem glob_of {W : World} (h : laidMetH Tryz.prog tabL W) : Abs.Glob W.heap.size W := by
  rw [MakeChecks.laidMetH_plain _ _ _ (by kernel_rfl)] at h
  have hT := Lib.tabIs_of_head (k := .u8) (zs := Abs.debTab) (g := 0) (t := 81) (e := 5) (n := 32) (rest := []) (by kernel_rfl) (by kernel_rfl) Tryz.underlying81 Tryz.underlying5 (by kernel_rfl) (by kernel_rfl) h
  have hc := fun (i : Nat) (hi : i < 32) => hT.cell (g := 0) (by kernel_rfl) i hi
  exact ⟨Abs.block_lt' (hc 0 (by omega)), hc⟩
end Go.Proofs.YtlobefglhppbdaaGreatDoor
