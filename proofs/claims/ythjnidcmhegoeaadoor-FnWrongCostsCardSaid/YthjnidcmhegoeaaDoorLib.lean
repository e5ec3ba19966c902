/- Small words for memory: what a slice of numbers reads as, rows of a call's own, and how both stay. No statement of the seat is proved here. -/
import Derived.WalkKit
import Derived.WalkSpells
import Derived.Lib.Hide
import Derived.Handy
import Derived.Deep.Draws
namespace Go.Proofs.YthjnidcmhegoeaaDoor
open Go.RowKit

/-- A number that an int of 64 bits holds. -/
def I64 (n : Int) : Prop := -9223372036854775808 ≤ n ∧ n ≤ 9223372036854775807

@[simp, go_sem] theorem lt_two (n : Nat) : n < n + 1 + 1 := by omega
@[simp, go_sem] theorem lt_three (n : Nat) : n < n + 1 + 1 + 1 := by omega
@[simp, go_sem] theorem lt_four (n : Nat) : n < n + 1 + 1 + 1 + 1 := by omega
@[simp, go_sem] theorem le_two (n : Nat) : n ≤ n + 1 + 1 := by omega
@[simp, go_sem] theorem le_three (n : Nat) : n ≤ n + 1 + 1 + 1 := by omega

@[simp, go_sem] theorem ne_two (n : Nat) : (n = n + 1 + 1) = False := by simp; omega
@[simp, go_sem] theorem ne_three (n : Nat) : (n = n + 1 + 1 + 1) = False := by simp; omega
@[simp, go_sem] theorem ne_four (n : Nat) : (n = n + 1 + 1 + 1 + 1) = False := by simp; omega
@[simp, go_sem] theorem ne_two' (n : Nat) : (n + 1 + 1 = n) = False := by simp; omega
@[simp, go_sem] theorem ne_three' (n : Nat) : (n + 1 + 1 + 1 = n) = False := by simp; omega
@[simp, go_sem] theorem ne_four' (n : Nat) : (n + 1 + 1 + 1 + 1 = n) = False := by simp; omega
@[simp, go_sem] theorem lt_five (n : Nat) : n < n + 1 + 1 + 1 + 1 + 1 := by omega
@[simp, go_sem] theorem le_four (n : Nat) : n ≤ n + 1 + 1 + 1 + 1 := by omega

theorem ret_bool {a b : Bool} (h : a = b) : Ending.returned (.bool a) = .returned (.bool b) := by rw [h]
theorem ret_int {k : IntKind} {a b : Int} (h : a = b) : Ending.returned (.int k a) = .returned (.int k b) := by rw [h]
theorem bool_of_iff {a b : Bool} (h : a = true ↔ b = true) : a = b := Bool.eq_iff_iff.2 h

/-- What stands below the heap's end reads in the new world as it did. -/
theorem bcell {W w1 : World} (hb : Below W.heap.size W w1) : (∀ b o, b < W.heap.size → w1.cell? ⟨b, o, none⟩ = W.cell? ⟨b, o, none⟩) ∧ (∀ b o, b < W.heap.size → w1.frozen? ⟨b, o, none⟩ = W.frozen? ⟨b, o, none⟩) :=
  ⟨fun b o h => hb.cell (p := ⟨b, o, none⟩) h, fun b o h => hb.frozen (p := ⟨b, o, none⟩) h⟩

theorem below_drewN {B : Nat} {a w : World} (h : Below B a w) (n : Nat) : Below B a (w.drewN n) := ⟨h.os, h.tape, h.output, h.size, h.block⟩

theorem bstep {w W w1 : World} (hb : Below W.heap.size W w1) (h : Below w.heap.size w W) : Below w.heap.size w w1 := h.trans (hb.mono h.size)
theorem bstep2 {B : Nat} {w W w1 : World} (hb : Below W.heap.size W w1) (hB : B ≤ w.heap.size) (h : Below B w W) : Below B w w1 := h.trans (hb.mono (Nat.le_trans hB h.size))
theorem World.size_drewN (w : World) (n : Nat) : (w.drewN n).heap.size = w.heap.size := rfl

/-- The address of a slice of n elements: block b, place o; nothing is said of an empty one. -/
def At (ao : Option Addr) (b o n : Nat) : Prop := n = 0 ∨ ao = some ⟨b, o, none⟩

theorem At.mk (b o n : Nat) : At (some ⟨b, o, none⟩) b o n := .inr rfl
theorem At.zero (ao : Option Addr) (b o : Nat) : At ao b o 0 := .inl rfl

theorem At.ix {P : Program} {t e : TypeId} {ao : Option Addr} {b o n c : Nat} (h : At ao b o n) (ht : P.underlying t = some (.slice e))
    (hs : ∀ w, (sizeOf e).run P w = .ok 1 w) (i : Int) (w : World) (h0 : 0 ≤ i) (h1 : i < n) :
    (Instr.indexAt t (.slice ao n c) (.int .i64 i)).run P w = .ok (.pointer (some ⟨b, o + i.toNat, none⟩)) w := by
  rcases h with rfl | rfl
  · omega
  · have he : P.elem t = e := by simp [Program.elem, ht]
    rw [run_indexAt_slice (h := by rw [he]; exact ht), if_pos ⟨h0, h1⟩, he, hs]
    simp [Result.andThen, Addr.add]

theorem At.ixN {P : Program} {t e : TypeId} {ao : Option Addr} {b o n c : Nat} (s : Nat) (h : At ao b o n) (ht : P.underlying t = some (.slice e))
    (hs : ∀ w, (sizeOf e).run P w = .ok s w) (i : Int) (w : World) (h0 : 0 ≤ i) (h1 : i < n) :
    (Instr.indexAt t (.slice ao n c) (.int .i64 i)).run P w = .ok (.pointer (some ⟨b, o + i.toNat * s, none⟩)) w := by
  rcases h with rfl | rfl
  · omega
  · have he : P.elem t = e := by simp [Program.elem, ht]
    rw [run_indexAt_slice (h := by rw [he]; exact ht), if_pos ⟨h0, h1⟩, he, hs]
    simp only [Result.andThen, Addr.add]
    split
    · rename_i hz
      simp [hz]
    · rfl

/-- Cells: from place o of block b on the cells cs stand. -/
def Cells (w : World) (b o : Nat) (cs : List Value) : Prop := ∀ i, i < cs.length → w.cell? ⟨b, o + i, none⟩ = cs[i]?

/-- From place o of block b on the numbers xs stand. -/
def Ints (w : World) (b o : Nat) (xs : List Int) : Prop := ∀ i, i < xs.length → w.cell? ⟨b, o + i, none⟩ = some (.int .i64 (xs.getD i 0))

/-- Everything that stands below the heap's end in w reads so in w'. -/
def Keeps (w w' : World) : Prop := ∀ a : Addr, a.block < w.heap.size → w'.cell? a = w.cell? a
theorem Keeps.refl (w : World) : Keeps w w := fun _ _ => rfl
theorem keeps_below {B : Nat} {w w' : World} (h : Below B w w') (hB : w.heap.size ≤ B) : Keeps w w' := fun _ ha => h.cell (by omega)

theorem Cells.lt {w : World} {b o : Nat} {cs : List Value} (h : Cells w b o cs) (hn : 0 < cs.length) : b < w.heap.size := by
  have h0 := h 0 hn
  rw [List.getElem?_eq_getElem hn] at h0
  exact World.block_lt_of_cell? w _ h0
theorem Ints.lt {w : World} {b o : Nat} {xs : List Int} (h : Ints w b o xs) (hn : 0 < xs.length) : b < w.heap.size := World.block_lt_of_cell? w _ (h 0 hn)
theorem Ints.keep {w w' : World} {b o : Nat} {xs : List Int} (h : Ints w b o xs) (hk : Keeps w w') : Ints w' b o xs := fun i hi => by
  rw [hk _ (h.lt (by omega))]; exact h i hi
theorem Ints.below {B : Nat} {w w' : World} {b o : Nat} {xs : List Int} (h : Ints w b o xs) (hb : Below B w w') (hB : w.heap.size ≤ B) : Ints w' b o xs := h.keep (keeps_below hb hB)
theorem Ints.nil (w : World) (b o : Nat) : Ints w b o [] := fun i hi => by simp at hi
theorem Ints.drop {w : World} {b o k : Nat} {xs : List Int} (h : Ints w b o xs) : Ints w b (o + k) (xs.drop k) := fun i hi => by
  simp only [List.length_drop] at hi
  have := h (k + i) (by omega)
  rw [show o + k + i = o + (k + i) by omega, this]
  simp [List.getD, List.getElem?_drop]
theorem Ints.take {w : World} {b o k : Nat} {xs : List Int} (h : Ints w b o xs) : Ints w b o (xs.take k) := fun i hi => by
  simp only [List.length_take] at hi
  rw [h i (by omega)]
  simp [List.getD, show i < k by omega]

/-- A slice of numbers that the call owns. -/
def OwnI (E : TypeId) (w : World) (base : Nat) (ao : Option Addr) (c : Nat) (xs : List Int) : Prop := w.ownsRow base E 1 (.slice ao xs.length c) xs.length (xs.map (Value.int .i64))

theorem OwnI.reads {E : TypeId} {w : World} {base : Nat} {ao : Option Addr} {c : Nat} {xs : List Int} (h : OwnI E w base ao c xs) :
    ∃ b, At ao b 0 xs.length ∧ Ints w b 0 xs ∧ (0 < xs.length → base ≤ b) := by
  obtain ⟨_, h⟩ := h
  rcases h with ⟨hv, hn⟩ | ⟨g, cap, cur, hv, hg, hh, hnc, hcm, hcs, htake⟩
  · have hx : xs = [] := List.length_eq_zero_iff.1 hn
    subst hx
    exact ⟨0, .zero _ _ _, Ints.nil _ _ _, fun h => by simp at h⟩
  · simp only [Value.slice.injEq, true_and] at hv
    obtain ⟨rfl, rfl⟩ := hv
    refine ⟨g, .mk _ _ _, fun i hi => ?_, fun _ => hg⟩
    have h1 : w.cell? ⟨g, 0 + i, none⟩ = cur[0 + i]? := cell_of_row w g (0 + i) cur E (0, 0) hh
    rw [h1, Nat.zero_add]
    have h2 : (cur.toList.take (xs.length * 1))[i]? = (xs.map (Value.int .i64))[i]? := by rw [htake]
    rw [List.getElem?_take, if_pos (by omega)] at h2
    rw [← Array.getElem?_toList, h2]
    simp [List.getD, hi]

/-- From place o of block b on the bytes bs stand. -/
def Bytes (w : World) (b o : Nat) (bs : List Int) : Prop := ∀ i, i < bs.length → w.cell? ⟨b, o + i, none⟩ = some (.int .u8 (bs.getD i 0))
theorem Bytes.lt {w : World} {b o : Nat} {bs : List Int} (h : Bytes w b o bs) (hn : 0 < bs.length) : b < w.heap.size := World.block_lt_of_cell? w _ (h 0 hn)
theorem Bytes.keep {w w' : World} {b o : Nat} {bs : List Int} (h : Bytes w b o bs) (hk : Keeps w w') : Bytes w' b o bs := fun i hi => by
  rw [hk _ (h.lt (by omega))]; exact h i hi
theorem Bytes.grown {w w' : World} {b o g : Nat} {bs : List Int} (h : Bytes w b o bs) (hg : w.grownBy w' (some g)) (hne : bs = [] ∨ b ≠ g) : Bytes w' b o bs := by
  intro i hi
  have hb := h.lt (by omega)
  rw [World.cell?_of_block (a := ⟨b, o + i, none⟩) (hg.block b hb (fun e => by simp at e; rcases hne with rfl | hne; simp at hi; exact hne e))]
  exact h i hi

end Go.Proofs.YthjnidcmhegoeaaDoor
