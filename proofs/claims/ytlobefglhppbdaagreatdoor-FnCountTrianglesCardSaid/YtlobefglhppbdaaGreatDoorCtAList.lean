/- Edges as lists by states. No statement of the seat is proved here. -/
import Derived.Lib.Hide
import Derived.Test.YtlobefglhppbdaaGreatDoorCtTy
import Derived.Test.YtlobefglhppbdaaGreatDoorCtAbsX
import Derived.Test.YtlobefglhppbdaaGreatDoorCtADrwI
import Derived.Test.YtlobefglhppbdaaGreatDoorCtALaw0
import Derived.Test.YtlobefglhppbdaaGreatDoorCtAGraph
import Derived.Test.YtlobefglhppbdaaGreatDoorCtJLists
import Derived.Test.YtlobefglhppbdaaGreatDoorCtAHops
set_option linter.unusedSimpArgs false
set_option linter.unusedVariables false
namespace Go.Proofs.YtlobefglhppbdaaGreatDoor.Abs
open Go.RowKit
open R (val row ref)
def lstP (m : Nat) (es : List E3) : List P0 := (List.range m).map fun v : Nat => .one (row (decide (outE es (v : Int) = [])) 3 (edges (outE es (v : Int))))
theorem lstP_len (m : Nat) (es : List E3) : (lstP m es).length = m := by unfold lstP; simp
theorem lstP_at {m : Nat} {es : List E3} {v : Int} (h0 : 0 ≤ v) (h1 : v < (m : Int)) : (lstP m es)[v.toNat]? = some (.one (row (decide (outE es v = [])) 3 (edges (outE es v)))) := by
  unfold lstP
  rw [List.getElem?_map, List.getElem?_range oM]
  simp only [Option.map_some]
  rw [Int.toNat_of_nonneg h0]
theorem own_resE {w' : World} {base base' c : Nat} {ao : Option Addr} {es : List E3} {nil : Bool} (h : Own w' base 50 3 ao es.length c (Go.Proofs.YtlobefglhppbdaaGreatDoor.ev es)) (hb : base' ≤ base) (hn : ao = none ↔ nil = true) : (row nil 3 (edges es)).p ⟨w', fun b => b < base'⟩ (.slice ao es.length c) := by
  obtain ⟨b, o, ha, hi⟩ := Src.edges h.src
  rcases h.form_ with ⟨rfl, h0, rfl⟩ | ⟨g, rfl, hg1, hg2⟩
  · refine row_p.2 ⟨none, 0, by rw [edges_len], by rw [edges_len]; simp only [maxLen]; omega, hn.symm, fun _ => rfl, fun hp => by rw [edges_len] at hp; omega⟩
  · have hcap := h.cap_
    refine row_p.2 ⟨_, c, by rw [edges_len], by rw [edges_len]; exact hcap, hn.symm, fun h => by (cases h), fun hp => ⟨g, 0, rfl, hg2, ?_, fun i e he => ?_⟩⟩
    · show ¬ g < base'
      omega
    · unfold edges at he
      rw [List.getElem?_map, Option.map_eq_some_iff] at he
      obtain ⟨z, hz1, rfl⟩ := he
      obtain ⟨hil, hzz⟩ := List.getElem?_eq_some_iff.1 hz1
      obtain ⟨c0, c1, c2⟩ := hi i hil
      rw [hzz] at c0 c1 c2
      have ha' := ha.resolve_left oM
      injection ha' with ha'
      injection ha' with hb ho
      subst hb ho
      refine ⟨rfl, fun j r hj => ?_⟩
      match j, hj with
      | 0, hj => obtain rfl : int z.1 = r := by simpa [P0.rs, edgeP] using hj
                 exact ⟨_, c0, (val_p (c := ⟨w', fun b => b < base'⟩)).2 ⟨rfl, rfl⟩⟩
      | 1, hj => obtain rfl : int z.2.1 = r := by simpa [P0.rs, edgeP] using hj
                 exact ⟨_, c1, (val_p (c := ⟨w', fun b => b < base'⟩)).2 ⟨rfl, rfl⟩⟩
      | 2, hj => obtain rfl : int z.2.2 = r := by simpa [P0.rs, edgeP] using hj
                 exact ⟨_, c2, (val_p (c := ⟨w', fun b => b < base'⟩)).2 ⟨rfl, rfl⟩⟩
      | j + 3, hj => simp [P0.rs, edgeP] at hj
theorem f_lists (m : Nat) (nil : Bool) (es : List E3) (hl : es.length ≤ 1048576) (hm : m ≤ 16) (hI : ∀ e ∈ es, 0 ≤ e.1 ∧ e.1 < (m : Int)) : Fn Tryz.prog 60 [graphP m nil es] (.v (.one (row false 1 (lstP m es)))) := by
  refine ⟨ent_of Tryz.func60 kRf rfl, fun w vs _ hA => ?_⟩
  match vs, hA with
  | [v], ⟨h1, _⟩ =>
    obtain ⟨ao, cap, rfl, hs⟩ := graph_arg h1
    refine (implLists m ao cap es w hl hm hI hs).mono ?_
    rintro e w' ⟨B, vals, rfl, hL, hb⟩
    refine ⟨_, rfl, ?_, hb⟩
    obtain ⟨hB1, hB2⟩ := hL.out.lt_ B rfl
    show (row false 1 (lstP m es)).p _ _
    have hlp := lstP_len m es
    have hvl := hL.len
    refine row_p.2 ⟨_, m, by rw [hlp], by rw [hlp]; simp only [maxLen]; omega, by simp, fun h => by (cases h), fun hp => ⟨B, 0, rfl, hB2, ?_, fun i e he => ?_⟩⟩
    · show ¬ B < w.heap.size
      omega
    · unfold lstP at he
      rw [List.getElem?_map, Option.map_eq_some_iff] at he
      obtain ⟨u, hu, rfl⟩ := he
      have hum : i < m ∧ i = u := by
        rw [List.getElem?_eq_some_iff] at hu
        obtain ⟨h1, h2⟩ := hu
        simp at h1 h2
        exact ⟨h1, h2⟩
      obtain ⟨him, rfl⟩ := hum
      refine ⟨rfl, fun j r hj => ?_⟩
      match j, hj with
      | 0, hj =>
        obtain rfl : row (decide (outE es (i : Int) = [])) 3 (edges (outE es (i : Int))) = r := by simpa [P0.rs] using hj
        obtain ⟨au, cu, q1, q2, q3⟩ := hL.row i him
        have hc := hL.out.cell_at i oM
        rw [q1] at hc
        refine ⟨_, ?_, own_resE q2 oM ?_⟩
        · show w'.cell? ⟨B, 0 + i * 1 + 0, none⟩ = _
          rw [Nat.mul_one, Nat.add_zero, Nat.zero_add]
          exact hc
        · constructor
          · intro hn
            rcases q2.form_ with ⟨_, h0, _⟩ | ⟨g, hg, _⟩
            · simp only [decide_eq_true_eq]
              exact List.length_eq_zero_iff.1 h0
            · rw [hn] at hg; cases hg
          · intro hn
            exact q3 (by simpa using hn)
      | j + 1, hj => simp [P0.rs] at hj
end Go.Proofs.YtlobefglhppbdaaGreatDoor.Abs
