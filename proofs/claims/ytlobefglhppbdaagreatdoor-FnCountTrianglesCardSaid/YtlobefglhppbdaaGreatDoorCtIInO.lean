/-
  DERIVED: THE SHELF's CONTRACTS AT THIS DUMP, IN PLAIN WORDS (tools/lay-plain.mjs out of 'TryzShelf.lean', which tools/lay-shelf.mjs wrote): THE SAME DECLARATIONS UNDER THE SAME NAMES: 'import', 'namespace', 'open', 'def', 'theorem' AND NOTHING ELSE: no command of the shelf's: FOR A HAND-IN. Each laying: the table of numbers ('.._ren') and one theorem, a field a fact of the dump's own or the kernel's comparison; each contract: ONE APPLICATION.
-/
import Derived.Shelf.SlSortCmp.NoneTotal
import Derived.Shelf.Slices.In.SortNone
import Derived.Ground.SlsfProg
import Derived.Ground.NamesProg
import Derived.Test.YtlobefglhppbdaaGreatDoorProg
import Derived.Maps.OwnOps
import Derived.Maps.OwnSet
import Derived.Test.YtlobefglhppbdaaGreatDoorRows
import Derived.WalkKit
import Derived.WalkSpells
import Derived.WalkLawsBesides
import Derived.Lib.Hide
import Derived.Handy
import Derived.BigQuiet
import Derived.Deep.QuietTactic
import Derived.LoopN
import Derived.Deep.RegionHeld3
import Derived.Sort.Grow
import Derived.Lib.AppendZerosOnto
import Derived.Lib.SliceRun
import Derived.Shelf.GgSortFunc.RowK
import Derived.Shelf.Sort.Plain
import Derived.Maps.Own
import Derived.Deep.RegionLaw
import Derived.Test.YtlobefglhppbdaaGreatDoorCtLib
import Derived.Test.YtlobefglhppbdaaGreatDoorCtOwn
import Derived.Test.YtlobefglhppbdaaGreatDoorCtJobs
import Derived.Test.YtlobefglhppbdaaGreatDoorCtGValid
set_option maxRecDepth 100000
set_option maxHeartbeats 8000000
namespace Go.Proofs
open Go.Shelf
def Tryz.sortMsg_ren : Go.Shelf.Ren := ⟨fun | 6 => 63 | 15 => 69 | 14 => 70 | 28 => 80 | 29 => 81 | 20 => 82 | 21 => 83 | 22 => 84 | 23 => 85 | 24 => 86 | 25 => 87 | 26 => 88 | 27 => 89 | 46 => 95 | 47 => 91 | 48 => 92 | 49 => 96 | 50 => 97 | 57 => 99 | n => n, fun | 22 => 54 | 24 => 105 | 25 => 108 | 3 => 3 | 39 => 73 | 0 => 0 | 53 => 43 | 55 => 133 | 4 => 4 | 46 => 125 | 45 => 124 | 50 => 130 | 5 => 5 | 9 => 9 | 66 => 139 | 70 => 143 | 76 => 147 | 77 => 148 | n => n, fun | n => n⟩
theorem Tryz.sortMsg : Go.Proofs.SlLaysF0.n6 Tryz.prog Tryz.sortMsg_ren := {
  mixed := by kernel_rfl
  f6 := ⟨Tryz.f63.name, by decide, Tryz.func63.trans (congrArg some (by kernel_rfl))⟩
  f14 := ⟨Tryz.f70.name, by decide, Tryz.func70.trans (congrArg some (by kernel_rfl))⟩
  f15 := Tryz.func69.trans (congrArg some (by kernel_rfl))
  f20 := ⟨Tryz.f82.name, by decide, Tryz.func82.trans (congrArg some (by kernel_rfl))⟩
  f21 := ⟨Tryz.f83.name, by decide, Tryz.func83.trans (congrArg some (by kernel_rfl))⟩
  f22 := ⟨Tryz.f84.name, by decide, Tryz.func84.trans (congrArg some (by kernel_rfl))⟩
  f23 := ⟨Tryz.f85.name, by decide, Tryz.func85.trans (congrArg some (by kernel_rfl))⟩
  f24 := ⟨Tryz.f86.name, by decide, Tryz.func86.trans (congrArg some (by kernel_rfl))⟩
  f25 := ⟨Tryz.f87.name, by decide, Tryz.func87.trans (congrArg some (by kernel_rfl))⟩
  f26 := ⟨Tryz.f88.name, by decide, Tryz.func88.trans (congrArg some (by kernel_rfl))⟩
  f27 := ⟨Tryz.f89.name, by decide, Tryz.func89.trans (congrArg some (by kernel_rfl))⟩
  f28 := Tryz.func80.trans (congrArg some (by kernel_rfl))
  f29 := Tryz.func81.trans (congrArg some (by kernel_rfl))
  f46 := ⟨Tryz.f95.name, by decide, Tryz.func95.trans (congrArg some (by kernel_rfl))⟩
  f47 := Tryz.func91.trans (congrArg some (by kernel_rfl))
  f48 := Tryz.func92.trans (congrArg some (by kernel_rfl))
  f49 := ⟨Tryz.f96.name, by decide, Tryz.func96.trans (congrArg some (by kernel_rfl))⟩
  f50 := ⟨Tryz.f97.name, by decide, Tryz.func97.trans (congrArg some (by kernel_rfl))⟩
  f57 := ⟨Tryz.f99.name, by decide, Tryz.func99.trans (congrArg some (by kernel_rfl))⟩
  t0 := Tryz.underlying0
  a0 := Tryz.isAgg0
  z0 := Tryz.sizeOf0
  v0 := Tryz.zeroValue0
  t3 := Tryz.underlying3
  a3 := Tryz.isAgg3
  z3 := Tryz.sizeOf3
  v3 := Tryz.zeroValue3
  t4 := Tryz.underlying4
  a4 := Tryz.isAgg4
  z4 := Tryz.sizeOf4
  v4 := Tryz.zeroValue4
  t5 := Tryz.underlying5
  a5 := Tryz.isAgg5
  z5 := Tryz.sizeOf5
  v5 := Tryz.zeroValue5
  t9 := Tryz.underlying9
  a9 := Tryz.isAgg9
  z9 := Tryz.sizeOf9
  v9 := Tryz.zeroValue9
  t22 := Tryz.underlying54
  a22 := Tryz.isAgg54
  z22 := Tryz.sizeOf54
  v22 := Tryz.zeroValue54
  t25 := Tryz.underlying108
  a25 := Tryz.isAgg108
  z25 := Tryz.sizeOf108
  v25 := Tryz.zeroValue108
  t39 := Tryz.underlying73
  a39 := Tryz.isAgg73
  z39 := Tryz.sizeOf73
  v39 := Tryz.zeroValue73
  t45 := Tryz.underlying124
  a45 := Tryz.isAgg124
  z45 := Tryz.sizeOf124
  v45 := Tryz.zeroValue124
  t46 := Tryz.underlying125
  a46 := Tryz.isAgg125
  z46 := Tryz.sizeOf125
  v46 := Tryz.zeroValue125
  t50 := Tryz.underlying130
  a50 := Tryz.isAgg130
  z50 := Tryz.sizeOf130
  v50 := Tryz.zeroValue130
  t53 := Tryz.underlying43
  a53 := Tryz.isAgg43
  z53 := Tryz.sizeOf43
  v53 := Tryz.zeroValue43
  t55 := Tryz.underlying133
  a55 := Tryz.isAgg133
  z55 := Tryz.sizeOf133
  v55 := Tryz.zeroValue133
  t66 := Tryz.underlying139
  a66 := Tryz.isAgg139
  z66 := Tryz.sizeOf139
  v66 := Tryz.zeroValue139
  t70 := Tryz.underlying143
  a70 := Tryz.isAgg143
  z70 := Tryz.sizeOf143
  v70 := Tryz.zeroValue143
  t76 := Tryz.underlying147
  a76 := Tryz.isAgg147
  z76 := Tryz.sizeOf147
  v76 := Tryz.zeroValue147
  t77 := Tryz.underlying148
  a77 := Tryz.isAgg148
  z77 := Tryz.sizeOf148
  v77 := Tryz.zeroValue148 }
def Tryz.sortInt_ren : Go.Shelf.Ren := ⟨fun | 189 => 62 | 125 => 69 | 257 => 68 | 128 => 80 | 129 => 81 | 294 => 71 | 295 => 72 | 296 => 73 | 297 => 74 | 298 => 75 | 299 => 76 | 216 => 77 | 300 => 78 | 301 => 79 | 328 => 90 | 329 => 91 | 330 => 92 | 331 => 93 | 332 => 94 | 215 => 48 | 343 => 98 | n => n, fun | 28 => 27 | 3 => 3 | 46 => 73 | 0 => 0 | 51 => 43 | 53 => 133 | 4 => 4 | 183 => 125 | 182 => 124 | 131 => 130 | 5 => 5 | 9 => 9 | 218 => 139 | 222 => 143 | 228 => 147 | 229 => 148 | n => n, fun | n => n⟩
theorem Tryz.sortInt : Go.Proofs.Lays.n189 Tryz.prog Tryz.sortInt_ren := {
  mixed := by kernel_rfl
  f125 := Tryz.func69.trans (congrArg some (by kernel_rfl))
  f128 := Tryz.func80.trans (congrArg some (by kernel_rfl))
  f129 := Tryz.func81.trans (congrArg some (by kernel_rfl))
  f189 := Tryz.func62.trans (congrArg some (by kernel_rfl))
  f215 := Tryz.func48.trans (congrArg some (by kernel_rfl))
  f216 := Tryz.func77.trans (congrArg some (by kernel_rfl))
  f257 := Tryz.func68.trans (congrArg some (by kernel_rfl))
  f294 := Tryz.func71.trans (congrArg some (by kernel_rfl))
  f295 := Tryz.func72.trans (congrArg some (by kernel_rfl))
  f296 := Tryz.func73.trans (congrArg some (by kernel_rfl))
  f297 := Tryz.func74.trans (congrArg some (by kernel_rfl))
  f298 := Tryz.func75.trans (congrArg some (by kernel_rfl))
  f299 := Tryz.func76.trans (congrArg some (by kernel_rfl))
  f300 := Tryz.func78.trans (congrArg some (by kernel_rfl))
  f301 := Tryz.func79.trans (congrArg some (by kernel_rfl))
  f328 := Tryz.func90.trans (congrArg some (by kernel_rfl))
  f329 := Tryz.func91.trans (congrArg some (by kernel_rfl))
  f330 := Tryz.func92.trans (congrArg some (by kernel_rfl))
  f331 := Tryz.func93.trans (congrArg some (by kernel_rfl))
  f332 := Tryz.func94.trans (congrArg some (by kernel_rfl))
  f343 := Tryz.func98.trans (congrArg some (by kernel_rfl))
  t0 := Tryz.underlying0
  a0 := Tryz.isAgg0
  z0 := Tryz.sizeOf0
  v0 := Tryz.zeroValue0
  t3 := Tryz.underlying3
  a3 := Tryz.isAgg3
  z3 := Tryz.sizeOf3
  v3 := Tryz.zeroValue3
  t4 := Tryz.underlying4
  a4 := Tryz.isAgg4
  z4 := Tryz.sizeOf4
  v4 := Tryz.zeroValue4
  t5 := Tryz.underlying5
  a5 := Tryz.isAgg5
  z5 := Tryz.sizeOf5
  v5 := Tryz.zeroValue5
  t9 := Tryz.underlying9
  a9 := Tryz.isAgg9
  z9 := Tryz.sizeOf9
  v9 := Tryz.zeroValue9
  t28 := Tryz.underlying27
  a28 := Tryz.isAgg27
  z28 := Tryz.sizeOf27
  v28 := Tryz.zeroValue27
  t46 := Tryz.underlying73
  a46 := Tryz.isAgg73
  z46 := Tryz.sizeOf73
  v46 := Tryz.zeroValue73
  t51 := Tryz.underlying43
  a51 := Tryz.isAgg43
  z51 := Tryz.sizeOf43
  v51 := Tryz.zeroValue43
  t53 := Tryz.underlying133
  a53 := Tryz.isAgg133
  z53 := Tryz.sizeOf133
  v53 := Tryz.zeroValue133
  t131 := Tryz.underlying130
  a131 := Tryz.isAgg130
  z131 := Tryz.sizeOf130
  v131 := Tryz.zeroValue130
  t182 := Tryz.underlying124
  a182 := Tryz.isAgg124
  z182 := Tryz.sizeOf124
  v182 := Tryz.zeroValue124
  t183 := Tryz.underlying125
  a183 := Tryz.isAgg125
  z183 := Tryz.sizeOf125
  v183 := Tryz.zeroValue125
  t218 := Tryz.underlying139
  a218 := Tryz.isAgg139
  z218 := Tryz.sizeOf139
  v218 := Tryz.zeroValue139
  t222 := Tryz.underlying143
  a222 := Tryz.isAgg143
  z222 := Tryz.sizeOf143
  v222 := Tryz.zeroValue143
  t228 := Tryz.underlying147
  a228 := Tryz.isAgg147
  z228 := Tryz.sizeOf147
  v228 := Tryz.zeroValue147
  t229 := Tryz.underlying148
  a229 := Tryz.isAgg148
  z229 := Tryz.sizeOf148
  v229 := Tryz.zeroValue148 }
end Go.Proofs
set_option linter.unusedSimpArgs false
set_option linter.unusedVariables false
namespace Go.Proofs.YtlobefglhppbdaaGreatDoor
open Go.RowKit
open Go.Maps (Keyed int_keyed keyOf_int_mk)
def heldR (v : Value) : Option (DataW Value × List MemPlace) := some (.held v, [])
def okK (k : Int) : Prop := (Lit.int .i64 k).wf = true
theorem okK_of {k : Int} (h : -9223372036854775808 ≤ k ∧ k ≤ 9223372036854775807) : okK k := by
  unfold okK; exact WalkArith.wf_i64 h
def IMap (P : Program) (K : TypeId) (w : World) (b n : Nat) (z : Value) (M : Int → Value) : Prop :=
  ∃ D : DataW Value, w.ownsMap P K heldR b n D ∧ ∀ k : Int, okK k → D.atKey (.int .i64 k) (.held z) = .held (M k)
section
variable {P : Program} {K : TypeId} {w w' : World} {b n : Nat} {z : Value} {M : Int → Value}
theorem IMap.made (w : World) (P : Program) (K : TypeId) (z : Value) : IMap P K (w.alloc (.map #[] 0)) w.heap.size 0 z (fun _ => z) :=
  ⟨.map [], World.ownsMap_made _ _ _ _, fun k _ => rfl⟩
theorem IMap.kept {row : Option Nat} (h : IMap P K w b n z M) (hg : w.grownBy w' row) (hne : some b ≠ row) : IMap P K w' b n z M := by
  obtain ⟨D, h1, h2⟩ := h
  exact ⟨D, h1.kept hg hne, h2⟩
theorem IMap.alloc (h : IMap P K w b n z M) (o : Obj) : IMap P K (w.alloc o) b n z M := h.kept (World.grownBy_alloc w o none) (by simp)
theorem IMap.drew (h : IMap P K w b n z M) : IMap P K w.drew b n z M := h.kept (row := none) ⟨rfl, rfl, rfl, Nat.le_refl _, fun _ _ _ => rfl⟩ (by simp)
theorem IMap.look {t e : TypeId} (h : IMap P K w b n z M) (hK : P.underlying K = some (.int .i64)) (ht : P.underlying t = some (.map K e)) (hz : (zeroValue e).run P w = .ok z w) {k : Int} (hk : okK k) :
    (Instr.lookup t (.map (some b)) (.int .i64 k) false).run P w = .ok (M k) w := by
  obtain ⟨D, h1, h2⟩ := h
  obtain ⟨v, ps, hr, hv⟩ := h1.lookup (int_keyed hK) ht hz (zd := .held z) (zp := []) rfl (keyOf_int_mk hK hk)
  rw [h2 k hk] at hv
  unfold heldR at hv
  injection hv with hv
  injection hv with hv
  injection hv with hv
  rw [hr, hv]
theorem IMap.put {t e : TypeId} (h : IMap P K w b n z M) (hK : P.underlying K = some (.int .i64)) (ht : P.underlying t = some (.map K e)) (hn : n < maxLen) {k : Int} (hk : okK k) (v : Value) :
    ∃ w', (Instr.mapUpdate t (.map (some b)) (.int .i64 k) v).run P w = .ok () w' ∧ IMap P K w' b (n + 1) z (fun j => if j = k then v else M j) ∧ w.grownBy w' (some b) := by
  obtain ⟨D, h1, h2⟩ := h
  obtain ⟨w', hr, h3, h4⟩ := h1.update (int_keyed hK) ht hn (keyOf_int_mk hK hk) (val := v) (d := .held v) (ps := []) rfl
  refine ⟨w', hr, ⟨_, h3, fun j hj => ?_⟩, h4⟩
  by_cases hjk : j = k
  · subst hjk
    rw [Go.Maps.atKey_put_same h1.isMap]
    · show _ = DataW.held (if j = j then v else M j)
      rw [if_pos rfl]
    · trivial
  · rw [Go.Maps.atKey_put_other (fun e => hjk (by injection e)), h2 j hj]
    show _ = DataW.held (if j = k then v else M j)
    rw [if_neg hjk]
end
theorem wp_mlook {P : Program} (w : World) {ops : Array Oper} {rest : List Oper} {o : Oper} {a : Act} {Q : Exit → Act → World → Prop} {K e : TypeId} {z : Value}
    (hg : o.guard = none) (m x : Operand) (t : TypeId) (hop : o.op = Op.lookup t m x false) (hK : P.underlying K = some (.int .i64)) (ht : P.underlying t = some (.map K e)) (hz : (zeroValue e).run P w = .ok z w) (b n : Nat) (M : Int → Value) (k : Int)
    (hm : a.eval m = .map (some b)) (hown : IMap P K w b n z M) (hx : a.eval x = .int .i64 k) (hk : okK k) (h : wpList P ops Q rest (a.put o.dst (M k)) w) : wpList P ops Q (o :: rest) a w := by
  refine wpList_plain hg fun K' hK' => ?_
  have hr := hown.look hK ht hz hk
  unfold Oper.wp
  simp [execOp, hop, hm, hx, hr, Result.andThen]
  exact hK' _ _ h
end Go.Proofs.YtlobefglhppbdaaGreatDoor
set_option linter.unusedSimpArgs false
set_option linter.unusedVariables false
namespace Go.Proofs.YtlobefglhppbdaaGreatDoor
open Go.RowKit
def or3 (x y z : Int) : Int := if x = 0 then (if y = 0 then z else y) else x
def cmp3 (a b : E3) : Int := or3 (cmpI a.1 b.1) (cmpI a.2.1 b.2.1) (cmpI a.2.2 b.2.2)
theorem grow_of {w w' : World} (h : Below w.heap.size w w') (hd : w.drawn ≤ w'.drawn) : ∃ q os', w' = Go.Sort.grow (w.drewN q) os' := by
  refine ⟨w'.drawn - w.drawn, w'.heap.extract w.heap.size w'.heap.size, ?_⟩
  obtain ⟨heap', tape', drawn', os', out'⟩ := w'
  obtain ⟨heap, tape, drawn, os, out⟩ := w
  obtain ⟨h1, h2, h3, h4, h5⟩ := h
  dsimp only at *
  subst h1 h2 h3
  have e1 : heap' = heap ++ heap'.extract heap.size heap'.size := by
    refine Array.ext_getElem? fun i => ?_
    rw [Array.getElem?_append]
    split
    · rename_i hi; exact h5 i hi
    · rename_i hi
      rw [Array.getElem?_extract]
      split
      · congr 1; omega
      · rw [Array.getElem?_eq_none (by omega)]
  have e2 : drawn' = drawn + (drawn' - drawn) := by omega
  unfold Go.Sort.grow World.drewN
  dsimp only
  rw [← e1, ← e2]
theorem cmpOr3 (B : Nat) (x y z : Int) (w : World) (h0 : w.cell? ⟨B, 0, none⟩ = some (.int .i64 x)) (h1 : w.cell? ⟨B, 1, none⟩ = some (.int .i64 y)) (h2 : w.cell? ⟨B, 2, none⟩ = some (.int .i64 z)) :
    Calls Tryz.prog 42 #[.slice (some ⟨B, 0, none⟩) 3 3] w fun e w' => e = .returned (.int .i64 (or3 x y z)) ∧ w = w' := by
  have hs := sz_int
  by_cases hx : x = 0
  · have hxb : (x != 0) = false := by simp [hx]
    have HX := Lib.hid hx
    clear hx
    by_cases hy : y = 0
    · have hyb : (y != 0) = false := by simp [hy]
      have HY := Lib.hid hy
      clear hy
      by_cases hz : z = 0
      · have hzb : (z != 0) = false := by simp [hz]
        have HZ := Lib.hid hz
        clear hz
        go_enter Tryz.func42, Tryz.ntmps42
        go_wp2
        refine wp_loop_rounds 4 ?_
        rw [rounds_succ]
        go_wp2
        rw [rounds_succ]
        go_wp2
        rw [rounds_succ]
        go_wp2
        rw [rounds_succ]
        go_wp2
        go_ret
        exact ⟨ret_int (by unfold or3; rw [if_pos HX.out, if_pos HY.out, HZ.out]), rfl⟩
      · have hzb : (z != 0) = true := by simp [hz]
        have HZ := Lib.hid hz
        clear hz
        go_enter Tryz.func42, Tryz.ntmps42
        go_wp2
        refine wp_loop_rounds 4 ?_
        rw [rounds_succ]
        go_wp2
        rw [rounds_succ]
        go_wp2
        rw [rounds_succ]
        go_wp2
        go_ret
        exact ⟨ret_int (by unfold or3; rw [if_pos HX.out, if_pos HY.out]), rfl⟩
    · have hyb : (y != 0) = true := by simp [hy]
      have HY := Lib.hid hy
      clear hy
      go_enter Tryz.func42, Tryz.ntmps42
      go_wp2
      refine wp_loop_rounds 4 ?_
      rw [rounds_succ]
      go_wp2
      rw [rounds_succ]
      go_wp2
      go_ret
      exact ⟨ret_int (by unfold or3; rw [if_pos HX.out, if_neg HY.out]), rfl⟩
  · have hxb : (x != 0) = true := by simp [hx]
    have HX := Lib.hid hx
    clear hx
    go_enter Tryz.func42, Tryz.ntmps42
    go_wp2
    refine wp_loop_rounds 4 ?_
    rw [rounds_succ]
    go_wp2
    go_ret
    exact ⟨ret_int (by unfold or3; rw [if_neg HX.out]), rfl⟩
theorem implCompareMessages (a b : E3) (w : World) : Calls Tryz.prog 64 #[ed a, ed b] w fun e w' => e = .returned (.int .i64 (cmp3 a b)) ∧ ∃ q os', w' = Go.Sort.grow (w.drewN q) os' := by
  have HE : Hid (cmp3 a b = or3 (cmpI a.1 b.1) (cmpI a.2.1 b.2.1) (cmpI a.2.2 b.2.2)) := rfl
  have KC := Lib.hid (fun x y W => Lib.hid (cmpCompare x y W))
  have KO := Lib.hid (fun B x y z W h0 h1 h2 => Lib.hid (cmpOr3 B x y z W h0 h1 h2))
  obtain ⟨a0, a1, a2⟩ := a
  obtain ⟨b0, b1, b2⟩ := b
  dsimp only at HE ⊢
  generalize cmp3 (a0, a1, a2) (b0, b1, b2) = r at *
  go_enter Tryz.func64, Tryz.ntmps64
  go_wp2
  go_region_held3 (fun w' => w'.cell? ⟨w.heap.size, 0, none⟩ = some (.int .i64 a0) ∧ w'.cell? ⟨w.heap.size, 1, none⟩ = some (.int .i64 a1) ∧ w'.cell? ⟨w.heap.size, 2, none⟩ = some (.int .i64 a2) ∧ w'.cell? ⟨w.heap.size + 1, 0, none⟩ = some (.int .i64 b0) ∧ w'.cell? ⟨w.heap.size + 1, 1, none⟩ = some (.int .i64 b1) ∧ w'.cell? ⟨w.heap.size + 1, 2, none⟩ = some (.int .i64 b2)) (go_keep) (first|((try go_simp);go_at_call 43;(with_reducible refine (KC.out _ _ _).out.mono ?_);rintro e w1 ⟨rfl, rfl⟩)|((try go_simp);go_at_call 42;(with_reducible refine (KO.out _ (cmpI a0 b0) (cmpI a1 b1) (cmpI a2 b2) _ ?_ ?_ ?_).out.mono ?_);(first|(with_reducible exact cell_lit (by simp) rfl)|(with_reducible exact cell_litD (by simp) rfl)|go_keep|go_simp);(first|(with_reducible exact cell_lit (by simp) rfl)|(with_reducible exact cell_litD (by simp) rfl)|go_keep|go_simp);(first|(with_reducible exact cell_lit (by simp) rfl)|(with_reducible exact cell_litD (by simp) rfl)|go_keep|go_simp);rintro e w1 ⟨rfl, rfl⟩))
  all_goals
    go_wp2
    go_ret
    exact ⟨ret_int HE.out.symm, grow_of (by repeat' (first|(with_reducible exact Below.refl _ _)|(with_reducible assumption)|(with_reducible refine Below.alloc ?_ ?_ _)|(with_reducible refine Below.drew ?_)|(with_reducible refine below_drewN ?_ _)|(with_reducible refine Below.setCell ?_ ?_ _)|(refine bstep (by with_reducible assumption) ?_)|(refine bstep2 (by with_reducible assumption) (by first|omega|(simp;done)|(simp;omega)) ?_)|go_size)) (by simp only [World.alloc, World.drew, World.drewN, World.setCell];omega)⟩
end Go.Proofs.YtlobefglhppbdaaGreatDoor
set_option linter.unusedSimpArgs false
set_option linter.unusedVariables false
namespace Go.Proofs.YtlobefglhppbdaaGreatDoor
open Go.RowKit
theorem el_msg : El Tryz.prog 54 105 3 24 (.agg #[.int .i64 0, .int .i64 0, .int .i64 0]) := ⟨Tryz.underlying54, info_parts (by kernel_rfl), rfl, by omega⟩
theorem sz_msg (w : World) : (sizeOf 105).run Tryz.prog w = .ok 3 w := by kernel_rfl
def bkM (t : Int) (ms : List E3) : List E3 := ms.filter fun m => decide (m.1 = t)
theorem bkM_snoc (t : Int) (ms : List E3) (x : E3) : bkM t (ms ++ [x]) = if x.1 = t then bkM t ms ++ [x] else bkM t ms := by
  unfold bkM
  rw [List.filter_append]
  by_cases h : x.1 = t <;> simp [h]
abbrev OwnJ (w : World) (base : Nat) (ao : Option Addr) (c : Nat) (T : List Int) : Prop := Own w base 3 1 ao T.length c (iv T)
abbrev OwnM (w : World) (base : Nat) (ao : Option Addr) (c : Nat) (xs : List E3) : Prop := Own w base 105 3 ao xs.length c (ev xs)
structure Bk (w : World) (Bs : Nat) (R : Int → Prop) (tao : Option Addr) (tc : Nat) (T : List Int) (oao : Option Addr) (oc : Nat) (out : List E3) (M : Int → Value) (xs : List E3) : Prop where
  own : OwnJ w (Bs + 1) tao tc T
  out : OwnM w (Bs + 1) oao oc out
  sepO : ∀ g, blk oao = some g → blk tao = some g → False
  row : ∀ t, R t → ∃ ao c, M t = .slice ao (bkM t xs).length c ∧ OwnM w (Bs + 1) ao c (bkM t xs) ∧ (bkM t xs = [] → ao = none)
  sep : ∀ t u a n c a' n' c', R t → R u → t ≠ u → M t = .slice a n c → M u = .slice a' n' c' → ∀ g, blk a = some g → blk a' = some g → False
  sepT : ∀ t a n c, R t → M t = .slice a n c → ∀ g, blk a = some g → blk tao = some g → False
  sepB : ∀ t a n c, R t → M t = .slice a n c → ∀ g, blk a = some g → blk oao = some g → False
section
variable {w w2 w3 : World} {Bs : Nat} {R : Int → Prop} {tao oao : Option Addr} {tc oc : Nat} {T : List Int} {out : List E3} {M : Int → Value} {xs : List E3}
theorem Bk.init (w : World) (Bs : Nat) : Bk w Bs (fun _ => True) none 0 [] none 0 [] (fun _ => .slice none 0 0) [] :=
  ⟨Own.nil_ _ _ _ _, Own.nil_ _ _ _ _, fun g h => (by cases h), fun t _ => ⟨none, 0, rfl, Own.nil_ _ _ _ _, fun _ => rfl⟩, fun t u a n c a' n' c' _ _ _ h _ g hg => (by injection h with h; subst h; cases hg), fun t a n c _ h g hg => (by injection h with h; subst h; cases hg), fun t a n c _ h g hg => (by injection h with h; subst h; cases hg)⟩
theorem Bk.lt (h : Bk w Bs R tao tc T oao oc out M xs) {t : Int} (ht : R t) {a : Option Addr} {n c : Nat} (hM : M t = .slice a n c) : n = (bkM t xs).length ∧ OwnM w (Bs + 1) a c (bkM t xs) ∧ (bkM t xs = [] → a = none) := by
  obtain ⟨ao, c0, h1, h2, h3⟩ := h.row t ht
  rw [hM] at h1
  injection h1 with e1 e2 e3
  subst e1 e2 e3
  exact ⟨rfl, h2, h3⟩
theorem Bk.kept {row : Option Nat} (h : Bk w Bs R tao tc T oao oc out M xs) (hg : w.grownBy w2 row) (h1 : ∀ g, blk tao = some g → row ≠ some g) (h2 : ∀ g, blk oao = some g → row ≠ some g) (h3 : ∀ t a n c, R t → M t = .slice a n c → ∀ g, blk a = some g → row ≠ some g) : Bk w2 Bs R tao tc T oao oc out M xs :=
  ⟨h.own.kept_ hg h1, h.out.kept_ hg h2, h.sepO, fun t ht => let ⟨ao, c, q1, q2, q3⟩ := h.row t ht; ⟨ao, c, q1, q2.kept_ hg (h3 t ao _ c ht q1), q3⟩, h.sep, h.sepT, h.sepB⟩
theorem Bk.below (h : Bk w Bs R tao tc T oao oc out M xs) (hb : Below w.heap.size w w2) : Bk w2 Bs R tao tc T oao oc out M xs :=
  h.kept (row := none) (gb_of_below hb _) (fun _ _ => by simp) (fun _ _ => by simp) (fun _ _ _ _ _ _ _ _ => by simp)
theorem Bk.map (h : Bk w Bs R tao tc T oao oc out M xs) (hg : w.grownBy w2 (some Bs)) : Bk w2 Bs R tao tc T oao oc out M xs := by
  refine h.kept hg (fun g hb e => ?_) (fun g hb e => ?_) (fun t a n c ht hM g hb e => ?_)
  · have := (h.own.lt_ g hb).1; injection e with e; omega
  · have := (h.out.lt_ g hb).1; injection e with e; omega
  · have := ((h.lt ht hM).2.1.lt_ g hb).1; injection e with e; omega
theorem Bk.weak {R' : Int → Prop} (h : Bk w Bs R tao tc T oao oc out M xs) (hR : ∀ t, R' t → R t) : Bk w Bs R' tao tc T oao oc out M xs :=
  ⟨h.own, h.out, h.sepO, fun t ht => h.row t (hR t ht), fun t u a n c a' n' c' ht hu => h.sep t u a n c a' n' c' (hR t ht) (hR u hu), fun t a n c ht => h.sepT t a n c (hR t ht), fun t a n c ht => h.sepB t a n c (hR t ht)⟩
theorem Bk.tgt {tao' : Option Addr} {tc' : Nat} {T' : List Int} (h : Bk w Bs R tao tc T oao oc out M xs) (hg : w.grownBy w3 (blk tao)) (hO : OwnJ w3 (Bs + 1) tao' tc' T') (hN : blk tao' = blk tao ∨ blk tao' = some w.heap.size) : Bk w3 Bs R tao' tc' T' oao oc out M xs := by
  have hO3 := h.out.kept_ hg (fun g h1 h2 => h.sepO g h1 h2)
  refine ⟨hO, hO3, fun g h1 h2 => ?_, fun t ht => ?_, h.sep, fun t a n c ht hM g h1 h2 => ?_, h.sepB⟩
  · rcases hN with hN | hN
    · exact h.sepO g h1 (hN ▸ h2)
    · have := (h.out.lt_ g h1).2; rw [hN] at h2; injection h2 with h2; omega
  · obtain ⟨ao, c, q1, q2, q3⟩ := h.row t ht
    exact ⟨ao, c, q1, q2.kept_ hg (fun g h1 h2 => h.sepT t ao _ c ht q1 g h1 h2), q3⟩
  · rcases hN with hN | hN
    · exact h.sepT t a n c ht hM g h1 (hN ▸ h2)
    · have := ((h.lt ht hM).2.1.lt_ g h1).2; rw [hN] at h2; injection h2 with h2; omega
theorem Bk.grow {oao' : Option Addr} {oc' : Nat} {out' : List E3} (h : Bk w Bs R tao tc T oao oc out M xs) (hg : w.grownBy w3 (blk oao)) (hO : OwnM w3 (Bs + 1) oao' oc' out') (hN : blk oao' = blk oao ∨ blk oao' = some w.heap.size) : Bk w3 Bs R tao tc T oao' oc' out' M xs := by
  have hT3 := h.own.kept_ hg (fun g h1 h2 => h.sepO g h2 h1)
  refine ⟨hT3, hO, fun g h1 h2 => ?_, fun t ht => ?_, h.sep, h.sepT, fun t a n c ht hM g h1 h2 => ?_⟩
  · rcases hN with hN | hN
    · exact h.sepO g (hN ▸ h1) h2
    · have := (h.own.lt_ g h2).2; rw [hN] at h1; injection h1 with h1; omega
  · obtain ⟨ao, c, q1, q2, q3⟩ := h.row t ht
    exact ⟨ao, c, q1, q2.kept_ hg (fun g h1 h2 => h.sepB t ao _ c ht q1 g h1 h2), q3⟩
  · rcases hN with hN | hN
    · exact h.sepB t a n c ht hM g h1 (hN ▸ h2)
    · have := ((h.lt ht hM).2.1.lt_ g h1).2; rw [hN] at h2; injection h2 with h2; omega
theorem Bk.drop {R' : Int → Prop} {t : Int} {a : Option Addr} {n c : Nat} (h : Bk w Bs R tao tc T oao oc out M xs) (ht : R t) (hM : M t = .slice a n c) (hg : w.grownBy w3 (blk a)) (hR : ∀ u, R' u → R u ∧ u ≠ t) : Bk w3 Bs R' tao tc T oao oc out M xs := by
  refine (h.weak fun u hu => (hR u hu).1).kept hg (fun g h1 h2 => h.sepT t a n c ht hM g h2 h1) (fun g h1 h2 => h.sepB t a n c ht hM g h2 h1) (fun u a' n' c' hu hM' g h1 h2 => ?_)
  exact h.sep u t a' n' c' a n c (hR u hu).1 ht (hR u hu).2 hM' hM g h1 h2
theorem Bk.put {t : Int} {a ao' : Option Addr} {n c c' : Nat} {x : E3} (h : Bk w Bs (fun _ => True) tao tc T oao oc out M xs) (hx : x.1 = t) (hM : M t = .slice a n c) (hg : w.grownBy w3 (blk a)) (hO : OwnM w3 (Bs + 1) ao' c' (bkM t xs ++ [x])) (hN : blk ao' = blk a ∨ blk ao' = some w.heap.size) :
    Bk w3 Bs (fun _ => True) tao tc T oao oc out (fun j => if j = t then .slice ao' (bkM t xs ++ [x]).length c' else M j) (xs ++ [x]) := by
  have hT3 := h.own.kept_ hg (fun g h1 h2 => h.sepT t a n c trivial hM g h2 h1)
  have hO3 := h.out.kept_ hg (fun g h1 h2 => h.sepB t a n c trivial hM g h2 h1)
  have key : ∀ u a' n' c', u ≠ t → M u = .slice a' n' c' → ∀ g, blk a' = some g → blk ao' = some g → False := fun u a' n' c' hu hMu g h1 h2 => by
    rcases hN with hN | hN
    · exact h.sep u t a' n' c' a n c trivial trivial hu hMu hM g h1 (hN ▸ h2)
    · have := ((h.lt trivial hMu).2.1.lt_ g h1).2; rw [hN] at h2; injection h2 with h2; omega
  refine ⟨hT3, hO3, h.sepO, fun u _ => ?_, fun u v a1 n1 c1 a2 n2 c2 _ _ huv h1 h2 g hg1 hg2 => ?_, fun u a1 n1 c1 _ h1 g hg1 hg2 => ?_, fun u a1 n1 c1 _ h1 g hg1 hg2 => ?_⟩
  · rw [bkM_snoc, hx]
    by_cases hu : t = u
    · subst hu
      rw [if_pos rfl, if_pos rfl]
      exact ⟨ao', c', rfl, hO, fun e => by simp at e⟩
    · rw [if_neg hu, if_neg (fun e => hu e.symm)]
      obtain ⟨au, cu, q1, q2, q3⟩ := h.row u trivial
      exact ⟨au, cu, q1, q2.kept_ hg (fun g h1 h2 => h.sep u t au _ cu a n c trivial trivial (fun e => hu e.symm) q1 hM g h1 h2), q3⟩
  · by_cases hu : u = t
    · rw [if_pos hu] at h1
      injection h1 with h1
      subst h1
      rw [if_neg (fun e => huv (hu.trans e.symm))] at h2
      exact key v a2 n2 c2 (fun e => huv (hu.trans e.symm)) h2 g hg2 hg1
    · rw [if_neg hu] at h1
      by_cases hv : v = t
      · rw [if_pos hv] at h2
        injection h2 with h2
        subst h2
        exact key u a1 n1 c1 hu h1 g hg1 hg2
      · rw [if_neg hv] at h2
        exact h.sep u v a1 n1 c1 a2 n2 c2 trivial trivial huv h1 h2 g hg1 hg2
  · by_cases hu : u = t
    · rw [if_pos hu] at h1
      injection h1 with h1
      subst h1
      rcases hN with hN | hN
      · exact h.sepT t a n c trivial hM g (hN ▸ hg1) hg2
      · have := (h.own.lt_ g hg2).2; rw [hN] at hg1; injection hg1 with hg1; omega
    · rw [if_neg hu] at h1
      exact h.sepT u a1 n1 c1 trivial h1 g hg1 hg2
  · by_cases hu : u = t
    · rw [if_pos hu] at h1
      injection h1 with h1
      subst h1
      rcases hN with hN | hN
      · exact h.sepB t a n c trivial hM g (hN ▸ hg1) hg2
      · have := (h.out.lt_ g hg2).2; rw [hN] at hg1; injection hg1 with hg1; omega
    · rw [if_neg hu] at h1
      exact h.sepB u a1 n1 c1 trivial h1 g hg1 hg2
end
end Go.Proofs.YtlobefglhppbdaaGreatDoor
set_option linter.unusedSimpArgs false
set_option linter.unusedVariables false
namespace Go.Proofs.YtlobefglhppbdaaGreatDoor
open Go.RowKit
open Go.Sort (putRow putCells mapBlock onCells grow Holds flatK HoldsK size_flatK get_flatK)
section
variable {α : Type} [Inhabited α] (enc : α → Value) (w : World) (g q : Nat) (d : Array α) (os : Array Obj)
theorem put_heap (k : Nat) (hk : k < w.heap.size) : (grow (putRow enc (Go.Sort.ahead w q) g 0 d) os).heap[k]? = (w.heap.modify g (onCells (putCells enc 0 d)))[k]? := by
  show ((w.heap.modify g (onCells (putCells enc 0 d))) ++ os)[k]? = _
  rw [Array.getElem?_append_left (by simpa using hk)]
theorem put_gb : w.grownBy (grow (putRow enc (Go.Sort.ahead w q) g 0 d) os) (some g) := by
  refine ⟨rfl, rfl, rfl, ?_, fun k hk hne => ?_⟩
  · show w.heap.size ≤ ((w.heap.modify g (onCells (putCells enc 0 d))) ++ os).size
    simp
  · rw [put_heap enc w g q d os k hk, Array.getElem?_modify, if_neg (fun e => hne (by rw [e]))]
end
theorem put_own {α : Type} [Inhabited α] {enc : α → Value} {w : World} {base E sz g n c : Nat} {cs : List Value} (h : Own w base E sz (some ⟨g, 0, none⟩) n c cs) (q : Nat) (d : Array α) (os : Array Obj) (hd : d.size = n * sz) :
    Own (grow (putRow enc (Go.Sort.ahead w q) g 0 d) os) base E sz (some ⟨g, 0, none⟩) n c (d.toList.map enc) := by
  refine ⟨by simp [hd], ?_⟩
  rcases h.2 with ⟨hv, _⟩ | ⟨g', cap, cur, hv, hb, hh, hnc, hcm, hcs, ht⟩
  · cases hv
  · injection hv with e1 _ e3
    injection e1 with e1
    injection e1 with e1
    subst e1 e3
    have hlt := (Array.getElem?_eq_some_iff.1 hh).1
    have hnn : n * sz ≤ c * sz := Nat.mul_le_mul_right _ hnc
    refine .inr ⟨g, c, putCells enc 0 d cur, rfl, hb, ?_, hnc, hcm, ?_, ?_⟩
    · rw [put_heap enc w g q d os g hlt, Array.getElem?_modify, if_pos rfl, hh]
      rfl
    · unfold putCells; rw [Array.size_mapIdx]; exact hcs
    · refine List.ext_getElem? fun i => ?_
      rw [List.getElem?_take]
      by_cases hi : i < n * sz
      · rw [if_pos hi, Array.getElem?_toList]
        unfold putCells
        have hic : i < cur.size := by omega
        have hid : i < d.size := by omega
        rw [Array.getElem?_mapIdx, Array.getElem?_eq_getElem hic, Option.map_some, if_pos ⟨Nat.zero_le _, by omega⟩, List.getElem?_map, Array.getElem?_toList, Array.getElem?_eq_getElem hid, Option.map_some, Nat.sub_zero, getElem!_pos d i hid]
      · rw [if_neg hi, List.getElem?_eq_none (by simp; omega)]
theorem own_holds {α : Type} [Inhabited α] {enc : α → Value} {w : World} {base E sz g n c : Nat} (d : Array α) (h : Own w base E sz (some ⟨g, 0, none⟩) n c (d.toList.map enc)) : Holds enc w g 0 d := fun j hj => by
  have hl := h.length_
  rw [List.length_map, Array.length_toList] at hl
  rw [Nat.zero_add, h.cell_at j (by omega), List.getElem?_map, Array.getElem?_toList, Array.getElem?_eq_getElem hj, Option.map_some, getElem!_pos d j hj]
  exact ⟨rfl, h.frozen_at j⟩
def encM (x : E3) : List Value := [.int .i64 x.1, .int .i64 x.2.1, .int .i64 x.2.2]
theorem flat_ev (l : List E3) : ((flatK encM 3 l.toArray).toList.map id) = ev l := by
  refine List.ext_getElem? fun i => ?_
  rw [List.map_id]
  by_cases hi : i < l.length * 3
  · have hk : i / 3 < l.length := by omega
    have hs : i < (flatK encM 3 l.toArray).size := by rw [size_flatK]; simpa using hi
    have h1 := get_flatK encM 3 l.toArray i (by simpa using hi)
    rw [getElem!_pos _ i hs] at h1
    rw [Array.getElem?_toList, Array.getElem?_eq_getElem hs, h1]
    obtain ⟨h2, h3, h4⟩ := ev_get l (i / 3) hk
    have hx : l.toArray[i / 3]! = l[i / 3] := by
      rw [getElem!_pos _ _ (by simpa using hk)]; simp
    rw [hx]
    have hm : i % 3 = 0 ∨ i % 3 = 1 ∨ i % 3 = 2 := by omega
    rcases hm with hm | hm | hm
    · rw [hm]
      have : (ev l)[i]? = (ev l)[i / 3 * 3]? := by congr 1; omega
      rw [this, h2]; rfl
    · rw [hm]
      have : (ev l)[i]? = (ev l)[i / 3 * 3 + 1]? := by congr 1; omega
      rw [this, h3]; rfl
    · rw [hm]
      have : (ev l)[i]? = (ev l)[i / 3 * 3 + 2]? := by congr 1; omega
      rw [this, h4]; rfl
  · rw [Array.getElem?_toList, Array.getElem?_eq_none (by rw [size_flatK]; simp; omega), List.getElem?_eq_none (by rw [ev_len]; omega)]
theorem ownM_holdsK {w : World} {base g c : Nat} {l : List E3} (h : OwnM w base (some ⟨g, 0, none⟩) c l) : HoldsK encM 3 w g 0 l.toArray := by
  unfold HoldsK
  refine own_holds (base := base) (E := 105) (sz := 3) (n := l.length) (c := c) _ ?_
  rw [flat_ev]; exact h
end Go.Proofs.YtlobefglhppbdaaGreatDoor
set_option linter.unusedSimpArgs false
set_option linter.unusedVariables false
namespace Go.Proofs.YtlobefglhppbdaaGreatDoor
open Go.RowKit
open Go.Sort (putRow putCells mapBlock onCells grow Holds flatK HoldsK size_flatK get_flatK SWO)
theorem lt3 (a b : E3) : ltOf cmp3 a b = true ↔ (a.1 < b.1 ∨ (a.1 = b.1 ∧ (a.2.1 < b.2.1 ∨ (a.2.1 = b.2.1 ∧ a.2.2 < b.2.2)))) := by
  unfold ltOf cmp3 or3 cmpI
  obtain ⟨a1, a2, a3⟩ := a
  obtain ⟨b1, b2, b3⟩ := b
  dsimp only
  rcases Int.lt_trichotomy a1 b1 with h1 | h1 | h1 <;> rcases Int.lt_trichotomy a2 b2 with h2 | h2 | h2 <;> rcases Int.lt_trichotomy a3 b3 with h3 | h3 | h3 <;> simp [*] <;> split <;> (try split) <;> (try split) <;> simp_all <;> omega
theorem swo3 : SWO (ltOf cmp3) where
  irrefl x := by rw [← Bool.not_eq_true, lt3]; omega
  trans x y z h1 h2 := by rw [lt3] at *; omega
  ntrans x y z h1 h2 := by rw [← Bool.not_eq_true, lt3] at *; omega
theorem tot3 (x y : E3) (h1 : ltOf cmp3 x y = false) (h2 : ltOf cmp3 y x = false) : x = y := by
  rw [← Bool.not_eq_true, lt3] at *
  obtain ⟨a1, a2, a3⟩ := x
  obtain ⟨b1, b2, b3⟩ := y
  dsimp only at *
  have e1 : a1 = b1 := by omega
  have e2 : a2 = b2 := by omega
  have e3 : a3 = b3 := by omega
  rw [e1, e2, e3]
def leM (x y : E3) : Bool := !(ltOf cmp3) y x
theorem ent_cmp : ∀ args w, (callFunc 64 args).run Tryz.prog w = .ok (.enter 64 args) w := enters_of Tryz.func64 (by kernel_rfl) rfl
theorem agg_msg (w : World) : (isAgg (Tryz.sortMsg_ren.t 24)).run Tryz.prog w = .ok true w := by kernel_rfl
theorem szr_msg (w : World) : (Go.sizeOf (Tryz.sortMsg_ren.t 24)).run Tryz.prog w = .ok 3 w := by kernel_rfl
theorem implSortM (w : World) (base g c : Nat) (l : List E3) (h : OwnM w base (some ⟨g, 0, none⟩) c l) (hl : l.length ≤ 1048576) :
    Calls Tryz.prog 63 #[.slice (some ⟨g, 0, none⟩) l.length c, .func (.func 64) #[] #[]] w fun e w' => e = .returned (.tuple #[]) ∧ w.grownBy w' (some g) ∧ OwnM w' base (some ⟨g, 0, none⟩) c (l.mergeSort leM) := by
  have hcl : CmpLays Tryz.prog 64 #[] encM 3 cmp3 g 0 l.toArray.size w := fun _ _ _ _ x y => implCompareMessages x y _
  have hcon := AnyQ.slices_SortFunc_total Tryz.sortMsg 3 agg_msg szr_msg encM (fun _ => rfl) (fun x v hv => by simp [encM] at hv; rcases hv with rfl | rfl | rfl <;> rfl) cmp3 swo3 64 #[] g 0 c l.toArray w ent_cmp hcl (ownM_holdsK h) (h.lt_ g rfl).2 (by simp; omega) tot3
  refine Calls.mono hcon ?_
  rintro e w' ⟨rfl, q, os, rfl⟩
  refine ⟨rfl, put_gb id w g q _ os, ?_⟩
  have hlen : (l.mergeSort leM).length = l.length := List.length_mergeSort _
  have h2 := put_own (enc := id) h q (flatK encM 3 (l.mergeSort leM).toArray) os (by rw [size_flatK]; simp [hlen])
  rw [flat_ev] at h2
  exact own_len h2 hlen.symm rfl
theorem implSortI (w : World) (base : Nat) (ao : Option Addr) (c : Nat) (T : List Int) (h : OwnJ w base ao c T) (hl : T.length ≤ 1048576) :
    Calls Tryz.prog 62 #[.slice ao T.length c] w fun e w' => e = .returned (.tuple #[]) ∧ w.grownBy w' (blk ao) ∧ OwnJ w' base ao c (T.mergeSort fun x y => decide (x ≤ y)) := by
  have hlen : (T.mergeSort fun x y => decide (x ≤ y)).length = T.length := List.length_mergeSort _
  rcases h.form_ with ⟨rfl, h0, rfl⟩ | ⟨g, rfl, hg1, hg2⟩
  · have hT : T = [] := List.eq_nil_of_length_eq_zero h0
    subst hT
    have hcon := Any.slices_Sort_int_none Tryz.sortInt none 0 w
    refine Calls.mono hcon ?_
    rintro e w' ⟨rfl, rfl⟩
    exact ⟨rfl, World.grownBy.refl _ _, by rw [List.mergeSort_nil]; exact h⟩
  · have hh : Holds (Value.int .i64) w g 0 T.toArray := own_holds (base := base) (E := 3) (sz := 1) (n := T.length) (c := c) _ (by simpa using h)
    have hcon := Any.slices_Sort_int Tryz.sortInt g 0 c T w hh hg2 (by omega)
    refine Calls.mono hcon ?_
    rintro e w' ⟨rfl, q, os, rfl⟩
    refine ⟨rfl, put_gb _ w g q _ os, ?_⟩
    have h2 := put_own (enc := Value.int .i64) h q (T.mergeSort fun x y => decide (x ≤ y)).toArray os (by simp [hlen])
    exact own_len h2 hlen.symm (by simp)
end Go.Proofs.YtlobefglhppbdaaGreatDoor
set_option linter.unusedSimpArgs false
set_option linter.unusedVariables false
namespace Go.Proofs.YtlobefglhppbdaaGreatDoor
open Go.RowKit
def keysF (xs : List E3) : List Int := xs.foldl (fun T x => if x.1 ∈ T then T else T ++ [x.1]) []
theorem keysF_snoc (xs : List E3) (x : E3) : keysF (xs ++ [x]) = if x.1 ∈ keysF xs then keysF xs else keysF xs ++ [x.1] := by
  unfold keysF; rw [List.foldl_append]; rfl
theorem keysF_take {ms : List E3} {k : Nat} (h : k < ms.length) : keysF (ms.take (k + 1)) = if ms[k].1 ∈ keysF (ms.take k) then keysF (ms.take k) else keysF (ms.take k) ++ [ms[k].1] := by
  rw [List.take_succ_eq_append_getElem h, keysF_snoc]
theorem rev_ind {α : Type} {p : List α → Prop} (h0 : p []) (h1 : ∀ xs x, p xs → p (xs ++ [x])) : ∀ xs, p xs := by
  have : ∀ n (xs : List α), xs.length = n → p xs := by
    intro n
    induction n with
    | zero => intro xs hx; rw [List.eq_nil_of_length_eq_zero hx]; exact h0
    | succ n ih =>
      intro xs hx
      have hne : xs ≠ [] := fun e => by rw [e] at hx; simp at hx
      rw [← List.dropLast_concat_getLast hne]
      exact h1 _ _ (ih _ (by simp [hx]))
  exact fun xs => this _ xs rfl
theorem mem_keys (t : Int) : ∀ xs : List E3, t ∈ keysF xs ↔ bkM t xs ≠ [] := by
  refine rev_ind ?_ fun xs x ih => ?_
  · simp [keysF, bkM]
  · rw [keysF_snoc, bkM_snoc]
    by_cases hx : x.1 = t
    · subst hx
      rw [if_pos rfl]
      split
      · rename_i h; simp [h]
      · simp
    · rw [if_neg hx]
      split
      · exact ih
      · rw [List.mem_append, List.mem_singleton]
        constructor
        · rintro (h | h)
          · exact ih.1 h
          · exact absurd h.symm hx
        · intro h; exact .inl (ih.2 h)
theorem keys_nodup : ∀ xs : List E3, (keysF xs).Nodup := by
  refine rev_ind List.nodup_nil fun xs x ih => ?_
  rw [keysF_snoc]
  split
  · exact ih
  · rename_i h
    rw [List.nodup_append]
    exact ⟨ih, by simp, fun a ha b hb => by rw [List.mem_singleton] at hb; subst hb; exact fun e => h (e ▸ ha)⟩
theorem keys_len : ∀ xs : List E3, (keysF xs).length ≤ xs.length := by
  refine rev_ind (by simp [keysF]) fun xs x ih => ?_
  rw [keysF_snoc]
  split <;> simp <;> omega
def outF (ms : List E3) (S : List Int) : List E3 := S.flatMap fun t => (bkM t ms).mergeSort leM
def outM (ms : List E3) : List E3 := outF ms ((keysF ms).mergeSort fun x y => decide (x ≤ y))
theorem outF_len (ms : List E3) (hl : ms.length ≤ 2000) : ∀ S : List Int, (outF ms S).length ≤ S.length * 2000
  | [] => by simp [outF]
  | t :: S => by
    have h1 := outF_len ms hl S
    have h2 : ((bkM t ms).mergeSort leM).length ≤ 2000 := by
      rw [List.length_mergeSort]
      exact Nat.le_trans (List.length_filter_le _ _) hl
    unfold outF at *
    rw [List.flatMap_cons, List.length_append, List.length_cons, Nat.add_mul]; omega
theorem outF_take {ms : List E3} {S : List Int} {j : Nat} (h : j < S.length) : outF ms (S.take (j + 1)) = outF ms (S.take j) ++ (bkM S[j] ms).mergeSort leM := by
  unfold outF
  rw [List.take_succ_eq_append_getElem h, List.flatMap_append]
  simp
def InP (w : World) (ms : List E3) (e : Ending) (w' : World) : Prop := ∃ oao oc, e = .returned (.slice oao (outM ms).length oc) ∧ OwnM w' w.heap.size oao oc (outM ms) ∧ oao ≠ none ∧ Below w.heap.size w w'
theorem z_msgs (w : World) : (zeroValue 54).run Tryz.prog w = .ok (.slice none 0 0) w := by kernel_rfl
theorem implInOrder (ao : Option Addr) (c : Nat) (ms : List E3) (w : World) (hl : ms.length ≤ 2000) (hI : ∀ e ∈ ms, 0 ≤ e.1 ∧ e.1 ≤ 100) (hs : Se w ao ms) :
    Calls Tryz.prog 54 #[.slice ao ms.length c] w (InP w ms) := by
  obtain ⟨b, o, ha, hE⟩ := Src.edges hs
  have hix := ha.ixN (c := c) 3 Tryz.underlying54 sz_msg
  have HS := Lib.hid hE
  have HI := Lib.hid hI
  have hmm := @run_makeMap Tryz.prog
  clear hs hE ha hI
  go_enter Tryz.func54, Tryz.ntmps54
  go_wp2
  go_loopw [14, 4] (fun i tv wr => ∃ (k : Nat) (M : Int → Value) (tao : Option Addr) (tc : Nat), k ≤ ms.length ∧ i = .int .i64 k ∧ tv = .slice tao (keysF (ms.take k)).length tc ∧ Below w.heap.size w wr ∧ w.heap.size < wr.heap.size ∧ Hid (IMap Tryz.prog 3 wr w.heap.size k (.slice none 0 0) M) ∧ Hid (Bk wr w.heap.size (fun _ => True) tao tc (keysF (ms.take k)) none 0 [] M (ms.take k))) (fun i _ _ => ms.length - (intOf i).toNat)
  case atStart => exact ⟨0, _, none, 0, Nat.zero_le _, rfl, rfl, (by repeat' (first|(with_reducible exact Below.refl _ _)|(with_reducible assumption)|(with_reducible refine Below.alloc ?_ ?_ _)|(with_reducible refine Below.drew ?_)|(with_reducible refine below_drewN ?_ _)|(with_reducible refine Below.setCell ?_ ?_ _)|(refine bstep (by with_reducible assumption) ?_)|(refine bstep2 (by with_reducible assumption) (by first|omega|(simp;done)|(simp;omega)) ?_)|go_size)), by simp, IMap.made _ _ _ _, Bk.init _ _⟩
  case round =>
    obtain ⟨k, M, tao, tc, hk, rfl, rfl, hb, hsz, HM, HB⟩ := hrel
    by_cases hlt : k < ms.length
    · have hlti : (k : Int) < ms.length := by omega
      have hEr : Edg wr b o ms := HS.out.below hb (Nat.le_refl _)
      obtain ⟨hc0, hc1, hc2⟩ := hEr k hlt
      have hbr : b < wr.heap.size := hEr.lt (by omega)
      obtain ⟨hv0, hv1⟩ := HI.out ms[k] (List.getElem_mem hlt)
      have HT := Lib.hid (keysF_take hlt)
      have HX := Lib.hid (List.take_succ_eq_append_getElem hlt)
      generalize ms[k] = e at *
      obtain ⟨ea, eb, ec⟩ := e
      dsimp only at hc0 hc1 hc2 hv0 hv1
      obtain ⟨a0, c0, hMe, hO0, hn0⟩ := HB.out.row ea trivial
      have HMe := Lib.hid hMe
      have HO0 := Lib.hid hO0
      have HN0 := Lib.hid hn0
      have hmk := Lib.hid (mem_keys ea (ms.take k))
      clear hEr hMe hO0 hn0
      have hkl : (bkM ea (ms.take k)).length ≤ 2000 := by
        have h1 := List.length_filter_le (fun m : E3 => decide (m.1 = ea)) (ms.take k)
        rw [List.length_take] at h1
        unfold bkM; omega
      generalize hY : bkM ea (ms.take k) = Y at *
      have HY := Lib.hid hY
      clear hY
      have hkn : (keysF (ms.take k)).length ≤ 2000 := by have h1 := keys_len (ms.take k); rw [List.length_take] at h1; omega
      have hbo : ∀ g, blk a0 = some g → w.heap.size + 1 ≤ g ∧ g < wr.heap.size := fun g hg => HO0.out.lt_ g hg
      have HBLK := Lib.hid hbo
      clear hbo
      have hst : ∃ bz : Bool, ((Y.length : Int) == 0) = bz := ⟨_, rfl⟩
      obtain ⟨bz, hbz⟩ := hst
      cases bz
      · have HT2 : Hid (keysF (ms.take (k + 1)) = keysF (ms.take k)) := by
          unfold Hid
          rw [HT.out, if_pos (hmk.out.2 (fun e => by rw [e] at hbz; simp at hbz))]
        go_wp2_with (first|(at_lookup;refine wp_mlook _ rfl _ _ _ rfl Tryz.underlying3 Tryz.underlying103 (z_msgs _) w.heap.size k M ea rfl (HM.out.alloc _) rfl (okK_of (by omega)) ?_;rw [HMe.out]))
        obtain ⟨wx, hwx⟩ : ∃ wx, wx = wr.alloc (.cells #[.int .i64 ea, .int .i64 eb, .int .i64 ec] 105) := ⟨_, rfl⟩
        obtain ⟨Tx, hTx⟩ : ∃ Tx, Tx = keysF (ms.take k) := ⟨_, rfl⟩
        obtain ⟨tx, htx⟩ : ∃ tx, tx = tao := ⟨_, rfl⟩
        obtain ⟨tcx, htcx⟩ : ∃ tcx, tcx = tc := ⟨_, rfl⟩
        have hx0 : wx.cell? ⟨wr.heap.size, 0, none⟩ = some (.int .i64 ea) := by rw [hwx]; exact cell_lit rfl rfl
        have hx1 : wx.cell? ⟨wr.heap.size, 1, none⟩ = some (.int .i64 eb) := by rw [hwx]; exact cell_lit rfl rfl
        have hx2 : wx.cell? ⟨wr.heap.size, 2, none⟩ = some (.int .i64 ec) := by rw [hwx]; exact cell_lit rfl rfl
        have hxs : wr.heap.size < wx.heap.size := by rw [hwx]; simp
        have HMx : Hid (IMap Tryz.prog 3 wx w.heap.size k (.slice none 0 0) M) := by rw [hwx]; exact HM.out.alloc _
        have HBx : Hid (Bk wx w.heap.size (fun _ => True) tx tcx Tx none 0 [] M (ms.take k)) := by rw [hwx, hTx, htx, htcx];exact HB.out.below (by repeat' (first|(with_reducible exact Below.refl _ _)|(with_reducible assumption)|(with_reducible refine Below.alloc ?_ ?_ _)|(with_reducible refine Below.drew ?_)|(with_reducible refine below_drewN ?_ _)|(with_reducible refine Below.setCell ?_ ?_ _)|(refine bstep (by with_reducible assumption) ?_)|(refine bstep2 (by with_reducible assumption) (by first|omega|(simp;done)|(simp;omega)) ?_)|go_size))
        have HOx : Hid (OwnM wx (w.heap.size + 1) a0 c0 Y) := by rw [hwx]; exact HO0.out.alloc_ _
        have HTx : Hid (keysF (ms.take (k + 1)) = Tx) := by rw [hTx]; exact HT2
        have hbx : Below w.heap.size w wx := by rw [hwx];exact (by repeat' (first|(with_reducible exact Below.refl _ _)|(with_reducible assumption)|(with_reducible refine Below.alloc ?_ ?_ _)|(with_reducible refine Below.drew ?_)|(with_reducible refine below_drewN ?_ _)|(with_reducible refine Below.setCell ?_ ?_ _)|(refine bstep (by with_reducible assumption) ?_)|(refine bstep2 (by with_reducible assumption) (by first|omega|(simp;done)|(simp;omega)) ?_)|go_size))
        rw [← hwx, ← hTx, ← htx, ← htcx]
        clear hwx hTx htx htcx HM HB HO0 HT HT2 hmk hb hc0 hc1 hc2 hbz
        have HM1 : Hid (IMap Tryz.prog 3 wx.drew w.heap.size k (.slice none 0 0) M) := HMx.out.drew
        have HM2 : Hid (IMap Tryz.prog 3 (wx.alloc (.cells #[.int .i64 ea, .int .i64 eb, .int .i64 ec] 105)).drew w.heap.size k (.slice none 0 0) M) := (HMx.out.alloc _).drew
        have HB2 : Hid (Bk (wx.alloc (.cells #[.int .i64 ea, .int .i64 eb, .int .i64 ec] 105)).drew w.heap.size (fun _ => True) tx tcx Tx none 0 [] M (ms.take k)) := HBx.out.below (by repeat' (first|(with_reducible exact Below.refl _ _)|(with_reducible assumption)|(with_reducible refine Below.alloc ?_ ?_ _)|(with_reducible refine Below.drew ?_)|(with_reducible refine below_drewN ?_ _)|(with_reducible refine Below.setCell ?_ ?_ _)|(refine bstep (by with_reducible assumption) ?_)|(refine bstep2 (by with_reducible assumption) (by first|omega|(simp;done)|(simp;omega)) ?_)|go_size))
        have HO2 : Hid (OwnM (wx.alloc (.cells #[.int .i64 ea, .int .i64 eb, .int .i64 ec] 105)).drew (w.heap.size + 1) a0 c0 Y) := ((HOx.out.alloc_ _).drew_)
        have hL1 : (Instr.lookup 103 (.map (some w.heap.size)) (.int .i64 ea) false).run Tryz.prog wx.drew = .ok (.slice a0 Y.length c0) wx.drew := by
          rw [HM1.out.look Tryz.underlying3 Tryz.underlying103 (z_msgs _) (okK_of (by omega)), HMe.out]
        have hL2 : (Instr.lookup 103 (.map (some w.heap.size)) (.int .i64 ea) false).run Tryz.prog (wx.alloc (.cells #[.int .i64 ea, .int .i64 eb, .int .i64 ec] 105)).drew = .ok (.slice a0 Y.length c0) (wx.alloc (.cells #[.int .i64 ea, .int .i64 eb, .int .i64 ec] 105)).drew := by
          rw [HM2.out.look Tryz.underlying3 Tryz.underlying103 (z_msgs _) (okK_of (by omega)), HMe.out]
        have hx3 : wr.heap.size < wx.heap.size + 1 := by omega
        have hx4 : ¬ wr.heap.size = wx.heap.size := by omega
        go_region_law (first|(refine step_app (cs := ev Y) _ el_msg rfl (.tmp 35) (.tmp 37) (by rfl) (w.heap.size + 1) (by rfl) HO2.out (by rfl) (Src.newN (m := 1) (by simp) rfl) (by simp [Value.oneCell']) (by simp only [maxLen];omega) (by omega) (by simp;omega) ?_;intro ao3 c3 w3 hown3 hg3 hat3 hz3;have he3 : w3.cell? ⟨wr.heap.size, 0, none⟩ = some (.int .i64 ea) := (World.cell?_of_block (a := ⟨wr.heap.size, 0, none⟩) (hg3.block wr.heap.size (by simp;omega) (fun e => by have := (HBLK.out _ e.symm).2;omega))).trans ((Below.cell (B := wx.heap.size) (p := ⟨wr.heap.size, 0, none⟩) (show Below wx.heap.size wx _ from (by repeat' (first|(with_reducible exact Below.refl _ _)|(with_reducible assumption)|(with_reducible refine Below.alloc ?_ ?_ _)|(with_reducible refine Below.drew ?_)|(with_reducible refine below_drewN ?_ _)|(with_reducible refine Below.setCell ?_ ?_ _)|(refine bstep (by with_reducible assumption) ?_)|(refine bstep2 (by with_reducible assumption) (by first|omega|(simp;done)|(simp;omega)) ?_)|go_size))) hxs).trans hx0);obtain ⟨w4, hr4, hI4, hG4⟩ := (HM2.out.kept hg3 (fun e => by have := (HBLK.out _ e.symm).1;omega)).put (k := ea) (v := .slice ao3 (Y.length + 1) c3) Tryz.underlying3 Tryz.underlying103 (by unfold maxLen;omega) (okK_of (by omega)) ;have HI4 := Lib.hid hI4;clear hI4;have HO3 := Lib.hid (own_len hown3 (show _ = (Y ++ [(ea, eb, ec)]).length by simp) (show _ = ev (Y ++ [(ea, eb, ec)]) by rw [ev_append] <;> rfl));clear hown3;have HG4 := Lib.hid hG4;have HG3 := Lib.hid hg3;have HAT3 := Lib.hid hat3;clear hG4 hg3 hat3 hz3))
        all_goals
          clear hL1 hL2 hr4 he3
          have hs3 := HG3.out.size
          have hs4 := HG4.out.size
          simp only [World.size_alloc, World.size_drew] at hs3
          have hb4 : Below w.heap.size w w4 := by
            refine below_grown (w := w3) ?_ HG4.out (by omega) (fun g hg => by injection hg with hg; omega)
            exact below_grown (w := (wx.alloc (.cells #[.int .i64 ea, .int .i64 eb, .int .i64 ec] 105)).drew) (by repeat' (first|(with_reducible exact Below.refl _ _)|(with_reducible assumption)|(with_reducible refine Below.alloc ?_ ?_ _)|(with_reducible refine Below.drew ?_)|(with_reducible refine below_drewN ?_ _)|(with_reducible refine Below.setCell ?_ ?_ _)|(refine bstep (by with_reducible assumption) ?_)|(refine bstep2 (by with_reducible assumption) (by first|omega|(simp;done)|(simp;omega)) ?_)|go_size)) HG3.out (by simp;omega) (fun g hg => by have := (HBLK.out g hg).1;omega)
          go_wp2
          go_roundw
          case rel =>
            refine ⟨k + 1, (fun j => if j = ea then .slice ao3 (Y.length + 1) c3 else M j), tx, tcx, by omega, by go_num, by rw [HTx.out], hb4, by omega, HI4.out, ?_⟩
            have hO3 := HO3.out
            rw [← HY.out] at hO3
            have h5 := (Bk.put (t := ea) (x := (ea, eb, ec)) HB2.out rfl HMe.out HG3.out hO3 HAT3.out).map HG4.out
            rw [HY.out, List.length_append, List.length_singleton] at h5
            unfold Hid
            rw [HTx.out, HX.out]
            exact h5
          case measure => simp [intOf]; omega
      · have hYn : Y = [] := List.eq_nil_of_length_eq_zero (by simpa using hbz)
        have HT2 : Hid (keysF (ms.take (k + 1)) = keysF (ms.take k) ++ [ea]) := by
          unfold Hid
          rw [HT.out, if_neg (fun e => hmk.out.1 e hYn)]
        have HB1 : Hid (Bk ((wr.alloc (.cells #[.int .i64 ea, .int .i64 eb, .int .i64 ec] 105)).alloc (.cells #[.int .i64 ea] 3)) w.heap.size (fun _ => True) tao tc (keysF (ms.take k)) none 0 [] M (ms.take k)) := HB.out.below (by repeat' (first|(with_reducible exact Below.refl _ _)|(with_reducible assumption)|(with_reducible refine Below.alloc ?_ ?_ _)|(with_reducible refine Below.drew ?_)|(with_reducible refine below_drewN ?_ _)|(with_reducible refine Below.setCell ?_ ?_ _)|(refine bstep (by with_reducible assumption) ?_)|(refine bstep2 (by with_reducible assumption) (by first|omega|(simp;done)|(simp;omega)) ?_)|go_size))
        go_wp2_with (first|(at_lookup;refine wp_mlook _ rfl _ _ _ rfl Tryz.underlying3 Tryz.underlying103 (z_msgs _) w.heap.size k M ea rfl (HM.out.alloc _) rfl (okK_of (by omega)) ?_;rw [HMe.out])|(at_builtin;refine wp_app (cs := iv (keysF (ms.take k))) _ el_int rfl (.tmp 24) (.tmp 27) rfl (w.heap.size + 1) rfl HB1.out.own rfl (Src.newN (m := 1) (by simp) rfl) (by simp [Value.oneCell']) (by simp only [maxLen];omega) (by omega) (by simp;omega) ?_;intro tx tcx wx hown hg hat hzz))
        have hsx := hg.size
        simp only [World.size_alloc] at hsx
        have hlt0 : ∀ g, blk tao = some g → w.heap.size + 1 ≤ g ∧ g < wr.heap.size := fun g hg => HB.out.own.lt_ g hg
        have hfar : ∀ j v, ((wr.alloc (.cells #[.int .i64 ea, .int .i64 eb, .int .i64 ec] 105)).alloc (.cells #[.int .i64 ea] 3)).cell? ⟨wr.heap.size, j, none⟩ = some v → wx.cell? ⟨wr.heap.size, j, none⟩ = some v := fun j v h => (World.cell?_of_block (a := ⟨wr.heap.size, j, none⟩) (hg.block wr.heap.size (by simp) (fun e => by have := (hlt0 _ e.symm).2; omega))).trans h
        have hnew : ∀ j v, (wr.alloc (.cells #[.int .i64 ea, .int .i64 eb, .int .i64 ec] 105)).cell? ⟨wr.heap.size, j, none⟩ = some v → ((wr.alloc (.cells #[.int .i64 ea, .int .i64 eb, .int .i64 ec] 105)).alloc (.cells #[.int .i64 ea] 3)).cell? ⟨wr.heap.size, j, none⟩ = some v := fun j v h => (World.cell?_alloc_lt _ _ _ (by simp)).trans h
        have hx0 : wx.cell? ⟨wr.heap.size, 0, none⟩ = some (.int .i64 ea) := hfar 0 _ (hnew 0 _ (cell_lit rfl rfl))
        have hx1 : wx.cell? ⟨wr.heap.size, 1, none⟩ = some (.int .i64 eb) := hfar 1 _ (hnew 1 _ (cell_lit rfl rfl))
        have hx2 : wx.cell? ⟨wr.heap.size, 2, none⟩ = some (.int .i64 ec) := hfar 2 _ (hnew 2 _ (cell_lit rfl rfl))
        have hxs : wr.heap.size < wx.heap.size := by omega
        have HMx : Hid (IMap Tryz.prog 3 wx w.heap.size k (.slice none 0 0) M) := ((HM.out.alloc _).alloc _).kept hg (fun e => by have := (hlt0 _ e.symm).1; omega)
        have hO1 : OwnJ wx (w.heap.size + 1) tx tcx (keysF (ms.take k) ++ [ea]) := own_len hown (by simp) (by simp [iv])
        have hB2 := HB1.out.tgt hg hO1 hat
        have hO2 := (hB2.lt trivial HMe.out).2.1
        rw [HY.out] at hO2
        obtain ⟨Tx, hTx⟩ : ∃ Tx, Tx = keysF (ms.take k) ++ [ea] := ⟨_, rfl⟩
        have HBx : Hid (Bk wx w.heap.size (fun _ => True) tx tcx Tx none 0 [] M (ms.take k)) := by rw [hTx]; exact hB2
        have HOx : Hid (OwnM wx (w.heap.size + 1) a0 c0 Y) := hO2
        have HTx : Hid (keysF (ms.take (k + 1)) = Tx) := by rw [hTx]; exact HT2
        have hbx : Below w.heap.size w wx := (by refine below_grown (w := (wr.alloc (.cells #[.int .i64 ea, .int .i64 eb, .int .i64 ec] 105)).alloc (.cells #[.int .i64 ea] 3)) ?_ hg ?_ ?_ <;> first|(intro g hg;have := (hlt0 g hg).1;omega)|(simp;omega)|exact (by repeat' (first|(with_reducible exact Below.refl _ _)|(with_reducible assumption)|(with_reducible refine Below.alloc ?_ ?_ _)|(with_reducible refine Below.drew ?_)|(with_reducible refine below_drewN ?_ _)|(with_reducible refine Below.setCell ?_ ?_ _)|(refine bstep (by with_reducible assumption) ?_)|(refine bstep2 (by with_reducible assumption) (by first|omega|(simp;done)|(simp;omega)) ?_)|go_size)))
        rw [show (keysF (ms.take k)).length + 1 = Tx.length by rw [hTx]; simp]
        clear hfar hnew hlt0 hsx hO1 hB2 hO2 hTx HM HB HB1 HO0 HT HT2 hmk hb hc0 hc1 hc2 hbz hYn hown hg hat hzz
        have HM1 : Hid (IMap Tryz.prog 3 wx.drew w.heap.size k (.slice none 0 0) M) := HMx.out.drew
        have HM2 : Hid (IMap Tryz.prog 3 (wx.alloc (.cells #[.int .i64 ea, .int .i64 eb, .int .i64 ec] 105)).drew w.heap.size k (.slice none 0 0) M) := (HMx.out.alloc _).drew
        have HB2 : Hid (Bk (wx.alloc (.cells #[.int .i64 ea, .int .i64 eb, .int .i64 ec] 105)).drew w.heap.size (fun _ => True) tx tcx Tx none 0 [] M (ms.take k)) := HBx.out.below (by repeat' (first|(with_reducible exact Below.refl _ _)|(with_reducible assumption)|(with_reducible refine Below.alloc ?_ ?_ _)|(with_reducible refine Below.drew ?_)|(with_reducible refine below_drewN ?_ _)|(with_reducible refine Below.setCell ?_ ?_ _)|(refine bstep (by with_reducible assumption) ?_)|(refine bstep2 (by with_reducible assumption) (by first|omega|(simp;done)|(simp;omega)) ?_)|go_size))
        have HO2 : Hid (OwnM (wx.alloc (.cells #[.int .i64 ea, .int .i64 eb, .int .i64 ec] 105)).drew (w.heap.size + 1) a0 c0 Y) := ((HOx.out.alloc_ _).drew_)
        have hL1 : (Instr.lookup 103 (.map (some w.heap.size)) (.int .i64 ea) false).run Tryz.prog wx.drew = .ok (.slice a0 Y.length c0) wx.drew := by
          rw [HM1.out.look Tryz.underlying3 Tryz.underlying103 (z_msgs _) (okK_of (by omega)), HMe.out]
        have hL2 : (Instr.lookup 103 (.map (some w.heap.size)) (.int .i64 ea) false).run Tryz.prog (wx.alloc (.cells #[.int .i64 ea, .int .i64 eb, .int .i64 ec] 105)).drew = .ok (.slice a0 Y.length c0) (wx.alloc (.cells #[.int .i64 ea, .int .i64 eb, .int .i64 ec] 105)).drew := by
          rw [HM2.out.look Tryz.underlying3 Tryz.underlying103 (z_msgs _) (okK_of (by omega)), HMe.out]
        have hx3 : wr.heap.size < wx.heap.size + 1 := by omega
        have hx4 : ¬ wr.heap.size = wx.heap.size := by omega
        go_region_law (first|(refine step_app (cs := ev Y) _ el_msg rfl (.tmp 35) (.tmp 37) (by rfl) (w.heap.size + 1) (by rfl) HO2.out (by rfl) (Src.newN (m := 1) (by simp) rfl) (by simp [Value.oneCell']) (by simp only [maxLen];omega) (by omega) (by simp;omega) ?_;intro ao3 c3 w3 hown3 hg3 hat3 hz3;have he3 : w3.cell? ⟨wr.heap.size, 0, none⟩ = some (.int .i64 ea) := (World.cell?_of_block (a := ⟨wr.heap.size, 0, none⟩) (hg3.block wr.heap.size (by simp;omega) (fun e => by have := (HBLK.out _ e.symm).2;omega))).trans ((Below.cell (B := wx.heap.size) (p := ⟨wr.heap.size, 0, none⟩) (show Below wx.heap.size wx _ from (by repeat' (first|(with_reducible exact Below.refl _ _)|(with_reducible assumption)|(with_reducible refine Below.alloc ?_ ?_ _)|(with_reducible refine Below.drew ?_)|(with_reducible refine below_drewN ?_ _)|(with_reducible refine Below.setCell ?_ ?_ _)|(refine bstep (by with_reducible assumption) ?_)|(refine bstep2 (by with_reducible assumption) (by first|omega|(simp;done)|(simp;omega)) ?_)|go_size))) hxs).trans hx0);obtain ⟨w4, hr4, hI4, hG4⟩ := (HM2.out.kept hg3 (fun e => by have := (HBLK.out _ e.symm).1;omega)).put (k := ea) (v := .slice ao3 (Y.length + 1) c3) Tryz.underlying3 Tryz.underlying103 (by unfold maxLen;omega) (okK_of (by omega)) ;have HI4 := Lib.hid hI4;clear hI4;have HO3 := Lib.hid (own_len hown3 (show _ = (Y ++ [(ea, eb, ec)]).length by simp) (show _ = ev (Y ++ [(ea, eb, ec)]) by rw [ev_append] <;> rfl));clear hown3;have HG4 := Lib.hid hG4;have HG3 := Lib.hid hg3;have HAT3 := Lib.hid hat3;clear hG4 hg3 hat3 hz3))
        all_goals
          clear hL1 hL2 hr4 he3
          have hs3 := HG3.out.size
          have hs4 := HG4.out.size
          simp only [World.size_alloc, World.size_drew] at hs3
          have hb4 : Below w.heap.size w w4 := by
            refine below_grown (w := w3) ?_ HG4.out (by omega) (fun g hg => by injection hg with hg; omega)
            exact below_grown (w := (wx.alloc (.cells #[.int .i64 ea, .int .i64 eb, .int .i64 ec] 105)).drew) (by repeat' (first|(with_reducible exact Below.refl _ _)|(with_reducible assumption)|(with_reducible refine Below.alloc ?_ ?_ _)|(with_reducible refine Below.drew ?_)|(with_reducible refine below_drewN ?_ _)|(with_reducible refine Below.setCell ?_ ?_ _)|(refine bstep (by with_reducible assumption) ?_)|(refine bstep2 (by with_reducible assumption) (by first|omega|(simp;done)|(simp;omega)) ?_)|go_size)) HG3.out (by simp;omega) (fun g hg => by have := (HBLK.out g hg).1;omega)
          go_wp2
          go_roundw
          case rel =>
            refine ⟨k + 1, (fun j => if j = ea then .slice ao3 (Y.length + 1) c3 else M j), tx, tcx, by omega, by go_num, by rw [HTx.out], hb4, by omega, HI4.out, ?_⟩
            have hO3 := HO3.out
            rw [← HY.out] at hO3
            have h5 := (Bk.put (t := ea) (x := (ea, eb, ec)) HB2.out rfl HMe.out HG3.out hO3 HAT3.out).map HG4.out
            rw [HY.out, List.length_append, List.length_singleton] at h5
            unfold Hid
            rw [HTx.out, HX.out]
            exact h5
          case measure => simp [intOf]; omega
    · obtain rfl : k = ms.length := by omega
      have HM' : Hid (IMap Tryz.prog 3 wr w.heap.size ms.length (.slice none 0 0) M) := HM
      have HB' : Hid (Bk wr w.heap.size (fun _ => True) tao tc (keysF ms) none 0 [] M ms) := by
        have h := HB.out
        rw [List.take_length] at h
        exact h
      rw [List.take_length]
      have hT2 : (keysF ms).length ≤ 2000 := Nat.le_trans (keys_len ms) hl
      clear HM HB
      have KS := Lib.hid (implSortI wr (w.heap.size + 1) tao tc (keysF ms) HB'.out.own (by omega))
      have hlt0 : ∀ g, blk tao = some g → w.heap.size + 1 ≤ g ∧ g < wr.heap.size := fun g hg => HB'.out.own.lt_ g hg
      have HLT0 := Lib.hid hlt0
      clear hlt0
      go_wp2_with (first|(go_at_call 62;refine KS.out.mono ?_;rintro e w2 ⟨rfl, hg2, hO2⟩;have HG2 := Lib.hid hg2;have HO2 := Lib.hid hO2;clear hg2 hO2)|(at_make;refine wp_make0 _ el_msg rfl _ _ rfl (w.heap.size + 1) ms.length rfl rfl (by omega) (by simp only [maxLen];omega) (by have := HG2.out.size;omega) ?_;intro w3 hO3 hg3;have HO3 := Lib.hid hO3;have HG3 := Lib.hid hg3;clear hO3 hg3))
      have hs2 := HG2.out.size
      have hs3 := HG3.out.size
      have HM3 : Hid (IMap Tryz.prog 3 w3 w.heap.size ms.length (.slice none 0 0) M) := (HM'.out.kept HG2.out (fun e => by have := (HLT0.out _ e.symm).1; omega)).kept HG3.out (by simp)
      have hB2 := (HB'.out.tgt HG2.out HO2.out (.inl rfl)).grow (out' := []) (oao' := some ⟨w2.heap.size, 0, none⟩) HG3.out HO3.out (.inr rfl)
      have hperm := List.mergeSort_perm (keysF ms) (fun x y => decide (x ≤ y))
      have hSlen : ((keysF ms).mergeSort fun x y => decide (x ≤ y)).length = (keysF ms).length := List.length_mergeSort _
      have hSin : ∀ t ∈ (keysF ms).mergeSort fun x y => decide (x ≤ y), bkM t ms ≠ [] ∧ 0 ≤ t ∧ t ≤ 100 := fun t ht => by
        have h1 := (mem_keys t ms).1 (hperm.mem_iff.1 ht)
        refine ⟨h1, ?_⟩
        obtain ⟨x, hx⟩ := List.exists_mem_of_ne_nil _ h1
        unfold bkM at hx
        rw [List.mem_filter, decide_eq_true_eq] at hx
        have := HI.out x hx.1
        rw [← hx.2]; exact this
      have HOUT : Hid (outM ms = outF ms ((keysF ms).mergeSort fun x y => decide (x ≤ y))) := rfl
      have hnd : ((keysF ms).mergeSort fun x y => decide (x ≤ y)).Nodup := hperm.nodup_iff.2 (keys_nodup ms)
      rw [← hSlen]
      rw [← hSlen] at hT2
      generalize (keysF ms).mergeSort (fun x y => decide (x ≤ y)) = S at *
      have HSIN := Lib.hid hSin
      have HND := Lib.hid hnd
      have HB3 : Hid (Bk w3 w.heap.size (fun t => t ∈ S.drop 0) tao tc S (some ⟨w2.heap.size, 0, none⟩) ms.length (outF ms (S.take 0)) M ms) := hB2.weak (fun _ _ => trivial)
      have hb3 : Below w.heap.size w w3 := by
        refine below_grown (w := w2) ?_ HG3.out (by omega) (fun g hg => by cases hg)
        exact below_grown (w := wr) hb HG2.out (by omega) (fun g hg => by have := (HLT0.out g hg).1; omega)
      clear hB2 hperm hSin hnd HO3 HO2 KS HB' HM' hSlen
      go_loopw [47, 7] (fun i ov wr => ∃ (j : Nat) (oao : Option Addr) (oc : Nat), j ≤ S.length ∧ i = .int .i64 j ∧ ov = .slice oao (outF ms (S.take j)).length oc ∧ oao ≠ none ∧ Below w.heap.size w wr ∧ w.heap.size < wr.heap.size ∧ Hid (IMap Tryz.prog 3 wr w.heap.size ms.length (.slice none 0 0) M) ∧ Hid (Bk wr w.heap.size (fun t => t ∈ S.drop j) tao tc S oao oc (outF ms (S.take j)) M ms)) (fun i _ _ => S.length - (intOf i).toNat)
      case atStart => exact ⟨0, _, _, Nat.zero_le _, rfl, rfl, by simp, hb3, by omega, HM3, HB3⟩
      case round =>
        clear hb3 HM3 HB3 hs2 hs3 HG2 HG3
        obtain ⟨j, oao, oc, hj, rfl, rfl, hon, hb4, hsz4, HM, HB⟩ := hrel
        by_cases hlt2 : j < S.length
        · have hji : (j : Int) < S.length := by omega
          obtain ⟨g, rfl⟩ : ∃ g, tao = some ⟨g, 0, none⟩ := by
            rcases HB.out.own.form_ with ⟨_, h0, _⟩ | ⟨g, hg, _⟩
            · omega
            · exact ⟨g, hg⟩
          have hix2 := (At.mk g 0 S.length).ix (c := tc) Tryz.underlying27 (fun w => el_int.size_ w)
          have hcj : wr.cell? ⟨g, j, none⟩ = some (.int .i64 S[j]) := by
            rw [HB.out.own.cell_at j (by omega), List.getElem?_map, List.getElem?_eq_getElem hlt2]; rfl
          obtain ⟨htn, ht0, ht1⟩ := HSIN.out S[j] (List.getElem_mem hlt2)
          have hdj := List.drop_eq_getElem_cons hlt2
          have HMEM : Hid (S[j] ∈ S.drop j) := by unfold Hid; rw [hdj]; exact List.mem_cons_self
          have HR : Hid (∀ u, u ∈ S.drop (j + 1) → u ∈ S.drop j ∧ u ≠ S[j]) := fun u hu => by
            refine ⟨by rw [hdj]; exact List.mem_cons_of_mem _ hu, fun e => ?_⟩
            have h1 := HND.out
            have h2 : (S.drop j).Nodup := h1.sublist (List.drop_sublist _ _)
            rw [hdj, List.nodup_cons] at h2
            exact h2.1 (e ▸ hu)
          have HOT := Lib.hid (outF_take (ms := ms) hlt2)
          generalize S[j] = t at *
          obtain ⟨a0, c0, hMe, hO0, hn0⟩ := HB.out.row t HMEM.out
          have hYl : (bkM t ms).length ≤ 2000 := Nat.le_trans (List.length_filter_le _ _) hl
          have hYp : ¬ (bkM t ms).length = 0 := fun h => htn (List.eq_nil_of_length_eq_zero h)
          obtain ⟨g0, rfl⟩ : ∃ g0, a0 = some ⟨g0, 0, none⟩ := by
            rcases hO0.form_ with ⟨_, h0, _⟩ | ⟨g, hg, _⟩
            · omega
            · exact ⟨g, hg⟩
          have hol := outF_len ms hl (S.take j)
          rw [List.length_take] at hol
          have hol2 : min j S.length * 2000 ≤ 4000000 := by
            have : min j S.length ≤ 2000 := by omega
            omega
          have hbo := hO0.lt_ g0 rfl
          have KSM := Lib.hid (implSortM wr (w.heap.size + 1) g0 c0 (bkM t ms) hO0 (by omega))
          have hzl : ((bkM t ms).mergeSort leM).length = (bkM t ms).length := List.length_mergeSort _
          have HMe := Lib.hid hMe
          clear hMe hn0 hdj htn hO0
          generalize hO : outF ms (S.take j) = OUT at *
          generalize hY : (bkM t ms).length = yl at *
          generalize hZ : (bkM t ms).mergeSort leM = Z at *
          have HO := Lib.hid hO
          have HY := Lib.hid hY
          clear hO hY hZ
          go_wp2_with (first|(at_lookup;refine wp_mlook _ rfl _ _ _ rfl Tryz.underlying3 Tryz.underlying103 (z_msgs _) w.heap.size ms.length M t rfl HM.out rfl (okK_of (by omega)) ?_;rw [HMe.out])|(go_at_call 63;refine KSM.out.mono ?_;rintro e w5 ⟨rfl, hg5, hO5⟩;have HG5 := Lib.hid hg5;have HSRC : Hid (Src w5 (some ⟨g0, 0, none⟩) yl 3 (ev Z)) := (by have h := hO5.src;rw [hzl] at h;exact h);have HB5 := Lib.hid (HB.out.drop HMEM.out HMe.out hg5 HR.out);clear hg5 hO5)|(at_builtin;refine wp_app (cs := ev OUT) _ el_msg rfl (.tmp 56) (.tmp 57) rfl (w.heap.size + 1) rfl HB5.out.out rfl HSRC.out (oneCell_ev Z) (by simp only [maxLen];omega) (by omega) (by have := HG5.out.size;omega) ?_;intro oao6 oc6 w6 hown6 hg6 hat6 hz6;have HG6 := Lib.hid hg6;have HAT6 := Lib.hid hat6;have HZ6 := Lib.hid hz6;have HO6 := Lib.hid (own_len hown6 (show _ = (OUT ++ Z).length by rw [List.length_append, hzl]) (show _ = ev (OUT ++ Z) by rw [ev_append]));clear hown6 hg6 hat6 hz6))
          have hs5 := HG5.out.size
          have hs6 := HG6.out.size
          have hb6 : Below w.heap.size w w6 := by
            refine below_grown (w := w5) ?_ HG6.out (by omega) (fun g hg => by have := (HB5.out.out.lt_ g hg).1; omega)
            exact below_grown (w := wr) hb4 HG5.out (by omega) (fun g hg => by injection hg with hg; omega)
          go_wp2
          go_roundw
          case rel =>
            refine ⟨j + 1, oao6, oc6, by omega, by go_num, by rw [HOT.out, List.length_append, hzl], fun e => hon (HZ6.out.1 e).1, hb6, by omega, ?_, ?_⟩
            · refine Lib.hid ((HM.out.kept HG5.out (fun e => by injection e with e; omega)).kept HG6.out (fun e => by have := (HB5.out.out.lt_ _ e.symm).1; omega))
            · unfold Hid
              rw [HOT.out]
              exact HB5.out.grow HG6.out HO6.out HAT6.out
          case measure => simp [intOf]; omega
        · obtain rfl : j = S.length := by omega
          have hB := HB.out
          rw [List.take_length, ← HOUT.out] at hB
          rw [List.take_length, ← HOUT.out]
          have HBx := Lib.hid hB
          clear hB HB
          go_wp2
          go_ret
          exact ⟨_, _, rfl, HBx.out.out.mono_ (by omega), hon, hb4⟩
end Go.Proofs.YtlobefglhppbdaaGreatDoor
