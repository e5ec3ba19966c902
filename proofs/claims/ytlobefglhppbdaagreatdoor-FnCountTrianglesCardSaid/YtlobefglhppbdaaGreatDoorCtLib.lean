/- Small words for memory: what a slice of numbers reads as, rows of a call's own, and how both stay. No statement of the seat is proved here. -/
import Derived.WalkKit
import Derived.WalkSpells
import Derived.Lib.Hide
import Derived.Handy
import Derived.Deep.Draws
namespace Go.Proofs.YtlobefglhppbdaaGreatDoor
open Go.RowKit
@[simp, go_sem] theorem lt_two (n : Nat) : n < n + 1 + 1 := by omega
@[simp, go_sem] theorem lt_three (n : Nat) : n < n + 1 + 1 + 1 := by omega
@[simp, go_sem] theorem lt_four (n : Nat) : n < n + 1 + 1 + 1 + 1 := by omega
@[simp, go_sem] theorem ne_two' (n : Nat) : (n + 1 + 1 = n) = False := by simp; omega
@[simp, go_sem] theorem ne_three' (n : Nat) : (n + 1 + 1 + 1 = n) = False := by simp; omega
@[simp, go_sem] theorem lt_five (n : Nat) : n < n + 1 + 1 + 1 + 1 + 1 := by omega
theorem ret_bool {a b : Bool} (h : a = b) : Ending.returned (.bool a) = .returned (.bool b) := by rw [h]
theorem ret_int {k : IntKind} {a b : Int} (h : a = b) : Ending.returned (.int k a) = .returned (.int k b) := by rw [h]
theorem bool_of_iff {a b : Bool} (h : a = true ↔ b = true) : a = b := Bool.eq_iff_iff.2 h
theorem bcell {W w1 : World} (hb : Below W.heap.size W w1) : (∀ b o, b < W.heap.size → w1.cell? ⟨b, o, none⟩ = W.cell? ⟨b, o, none⟩) ∧ (∀ b o, b < W.heap.size → w1.frozen? ⟨b, o, none⟩ = W.frozen? ⟨b, o, none⟩) :=
  ⟨fun b o h => hb.cell (p := ⟨b, o, none⟩) h, fun b o h => hb.frozen (p := ⟨b, o, none⟩) h⟩
theorem below_drewN {B : Nat} {a w : World} (h : Below B a w) (n : Nat) : Below B a (w.drewN n) := ⟨h.os, h.tape, h.output, h.size, h.block⟩
theorem bstep {w W w1 : World} (hb : Below W.heap.size W w1) (h : Below w.heap.size w W) : Below w.heap.size w w1 := h.trans (hb.mono h.size)
theorem bstep2 {B : Nat} {w W w1 : World} (hb : Below W.heap.size W w1) (hB : B ≤ w.heap.size) (h : Below B w W) : Below B w w1 := h.trans (hb.mono (Nat.le_trans hB h.size))
theorem World.size_drewN (w : World) (n : Nat) : (w.drewN n).heap.size = w.heap.size := rfl
def At (ao : Option Addr) (b o n : Nat) : Prop := n = 0 ∨ ao = some ⟨b, o, none⟩
theorem At.mk (b o n : Nat) : At (some ⟨b, o, none⟩) b o n := .inr rfl
theorem At.zero (ao : Option Addr) (b o : Nat) : At ao b o 0 := .inl rfl
theorem At.ix {P : Program} {t e : TypeId} {ao : Option Addr} {b o n c : Nat} (h : At ao b o n) (ht : P.underlying t = some (.slice e))
    (hs : ∀ w, (sizeOf e).run P w = .ok 1 w) (i : Int) (w : World) (h0 : 0 ≤ i) (h1 : i < n) :
    (Instr.indexAt t (.slice ao n c) (.int .i64 i)).run P w = .ok (.pointer (some ⟨b, o + i.toNat, none⟩)) w := by
  rcases h with rfl | rfl
  · omega
  · have he : P.elem t = e := by simp [Program.elem, ht]
    rw [run_indexAt_slice (h := by rw [he]; exact ht), if_pos ⟨h0, h1⟩, he, hs]
    simp [Result.andThen, Addr.add]
theorem At.ixN {P : Program} {t e : TypeId} {ao : Option Addr} {b o n c : Nat} (s : Nat) (h : At ao b o n) (ht : P.underlying t = some (.slice e))
    (hs : ∀ w, (sizeOf e).run P w = .ok s w) (i : Int) (w : World) (h0 : 0 ≤ i) (h1 : i < n) :
    (Instr.indexAt t (.slice ao n c) (.int .i64 i)).run P w = .ok (.pointer (some ⟨b, o + i.toNat * s, none⟩)) w := by
  rcases h with rfl | rfl
  · omega
  · have he : P.elem t = e := by simp [Program.elem, ht]
    rw [run_indexAt_slice (h := by rw [he]; exact ht), if_pos ⟨h0, h1⟩, he, hs]
    simp only [Result.andThen, Addr.add]
    split
    · rename_i hz
      simp [hz]
    · rfl
def Ints (w : World) (b o : Nat) (xs : List Int) : Prop := ∀ i, i < xs.length → w.cell? ⟨b, o + i, none⟩ = some (.int .i64 (xs.getD i 0))
def Keeps (w w' : World) : Prop := ∀ a : Addr, a.block < w.heap.size → w'.cell? a = w.cell? a
theorem keeps_below {B : Nat} {w w' : World} (h : Below B w w') (hB : w.heap.size ≤ B) : Keeps w w' := fun _ ha => h.cell (by omega)
theorem Ints.take {w : World} {b o k : Nat} {xs : List Int} (h : Ints w b o xs) : Ints w b o (xs.take k) := fun i hi => by
  simp only [List.length_take] at hi
  rw [h i (by omega)]
  simp [List.getD, show i < k by omega]
end Go.Proofs.YtlobefglhppbdaaGreatDoor
