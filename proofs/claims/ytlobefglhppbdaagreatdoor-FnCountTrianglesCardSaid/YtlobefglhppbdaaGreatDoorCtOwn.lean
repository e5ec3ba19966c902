/- Rows that the call owns: what they read as, how they stay, append and make on them. No statement of the seat is proved here. -/
import Derived.WalkKit
import Derived.WalkSpells
import Derived.Lib.Hide
import Derived.Handy
import Derived.Deep.Draws
import Derived.Maps.AppendAt
import Derived.Deep.AppendLies
import Derived.OneCell
import Derived.Test.YtlobefglhppbdaaGreatDoorCtLib
set_option linter.unusedSimpArgs false
set_option linter.unusedVariables false
namespace Go.Proofs.YtlobefglhppbdaaGreatDoor
open Go.RowKit
def blk (ao : Option Addr) : Option Nat := ao.map (·.block)
theorem ownBlock_slice (ao : Option Addr) (n c : Nat) : (Value.slice ao n c).ownBlock = blk ao := by cases ao <;> rfl
def Own (w : World) (base E size : Nat) (ao : Option Addr) (n c : Nat) (cs : List Value) : Prop := w.ownsRow base E size (.slice ao n c) n cs
structure El (P : Program) (T E size bytes : Nat) (z : Value) : Prop where
  sl : P.underlying T = some (.slice E)
  info : ∃ i, P.info? E = some i ∧ i.zero = some z ∧ i.size = size ∧ i.bytes = bytes
  cells : z.cells.size = size
  pos : 0 < size
theorem El.size_ {P : Program} {T E size bytes : Nat} {z : Value} (h : El P T E size bytes z) (w : World) : (sizeOf E).run P w = .ok size w := by
  obtain ⟨i, hi, _, hs, _⟩ := h.info
  simp [sizeOf, typeInfo, hi, hs]
def Src (w : World) (bo : Option Addr) (m size : Nat) (ys : List Value) : Prop :=
  ys.length = m * size ∧ (0 < m → ∃ b o, bo = some ⟨b, o, none⟩ ∧ ∀ j u, ys[j]? = some u → w.cell? ⟨b, o + j, none⟩ = some u)
section
variable {w w' : World} {base E size n c : Nat} {ao : Option Addr} {cs : List Value}
theorem Own.length_ (h : Own w base E size ao n c cs) : cs.length = n * size := h.1
theorem Own.nil_ (w : World) (base E size : Nat) : Own w base E size none 0 0 [] := ⟨by simp, .inl ⟨rfl, rfl⟩⟩
theorem frozen_new (w : World) (cs : Array Value) (E i : Nat) : (w.alloc (.cells cs E)).frozen? ⟨w.heap.size, i, none⟩ = false := by
  have h := heap_alloc_new w (.cells cs E)
  unfold World.frozen?
  rw [h]
  simp
theorem Own.cap_ (h : Own w base E size ao n c cs) : n ≤ c ∧ c ≤ maxLen := by
  rcases h.2 with ⟨hv, hn⟩ | ⟨g, cap, cur, hv, _, _, hnc, hcm, _⟩
  · simp at hv; obtain ⟨_, _, rfl⟩ := hv; subst hn; simp [maxLen]
  · simp at hv; obtain ⟨_, rfl⟩ := hv; exact ⟨hnc, hcm⟩
theorem Own.form_ (h : Own w base E size ao n c cs) : (ao = none ∧ n = 0 ∧ c = 0) ∨ ∃ g, ao = some ⟨g, 0, none⟩ ∧ base ≤ g ∧ g < w.heap.size := by
  rcases h.2 with ⟨hv, hn⟩ | ⟨g, cap, cur, hv, hb, hh, _⟩
  · simp at hv; exact .inl ⟨hv.1, hn, hv.2.2⟩
  · simp at hv
    exact .inr ⟨g, hv.1, hb, (Array.getElem?_eq_some_iff.1 hh).1⟩
theorem Own.lt_ (h : Own w base E size ao n c cs) : ∀ g, blk ao = some g → base ≤ g ∧ g < w.heap.size := by
  intro g hg
  rcases h.form_ with ⟨rfl, _⟩ | ⟨g', rfl, h1, h2⟩
  · simp [blk] at hg
  · simp [blk] at hg; subst hg; exact ⟨h1, h2⟩
theorem Own.src (h : Own w base E size ao n c cs) : Src w ao n size cs := by
  refine ⟨h.1, fun hn => ?_⟩
  rcases h.form_ with ⟨_, h0, _⟩ | ⟨g, rfl, _, _⟩
  · omega
  · refine ⟨g, 0, rfl, fun j u hu => ?_⟩
    have := World.ownsRow.cells (g := g) h rfl j u hu
    rw [Addr.add_lit] at this
    exact this
theorem Own.kept_ {row : Option Nat} (h : Own w base E size ao n c cs) (hg : w.grownBy w' row) (hne : ∀ g, blk ao = some g → row ≠ some g) : Own w' base E size ao n c cs := by
  refine World.ownsRow.kept h hg ?_
  rw [ownBlock_slice]
  cases hb : blk ao with
  | none => exact .inl rfl
  | some g => exact .inr (fun e => hne g hb e.symm)
theorem Own.below_ {B : Nat} (h : Own w base E size ao n c cs) (hb : Below B w w') (hB : w.heap.size ≤ B) : Own w' base E size ao n c cs :=
  h.kept_ (row := none) ⟨hb.os, hb.tape, hb.output, hb.size, fun k hk _ => hb.block k (by omega)⟩ (fun _ _ => by simp)
theorem Own.alloc_ (h : Own w base E size ao n c cs) (o : Obj) : Own (w.alloc o) base E size ao n c cs := World.ownsRow.alloc h o
theorem Own.drew_ (h : Own w base E size ao n c cs) : Own w.drew base E size ao n c cs := h
theorem Own.set_other (h : Own w base E size ao n c cs) {a : Addr} (ha : blk ao ≠ some a.block) (u : Value) : Own (w.setCell a u) base E size ao n c cs :=
  ownsRow_setCell_other h (by rw [ownBlock_slice]; exact ha) u
theorem Own.set_at {g : Nat} (h : Own w base E size (some ⟨g, 0, none⟩) n c cs) (j : Nat) (u : Value) : Own (w.setCell ⟨g, j, none⟩ u) base E size (some ⟨g, 0, none⟩) n c (cs.set j u) := (World.ownsRow.stored h j u).1
theorem Own.cell_at {g : Nat} (h : Own w base E size (some ⟨g, 0, none⟩) n c cs) (j : Nat) (hj : j < n * size) : w.cell? ⟨g, j, none⟩ = cs[j]? := World.ownsRow.cellAt h j hj
theorem Own.frozen_at {g : Nat} (h : Own w base E size (some ⟨g, 0, none⟩) n c cs) (j : Nat) : w.frozen? ⟨g, j, none⟩ = false := World.ownsRow.frozenAt h j
theorem Own.mono_ {base' : Nat} (h : Own w base E size ao n c cs) (hb : base' ≤ base) : Own w base' E size ao n c cs := by
  refine ⟨h.1, ?_⟩
  rcases h.2 with h0 | ⟨g, cap, cur, hv, hg, r⟩
  · exact .inl h0
  · exact .inr ⟨g, cap, cur, hv, by omega, r⟩
theorem Src.at_ {bo : Option Addr} {m : Nat} {ys : List Value} (h : Src w bo m size ys) : ∃ b o, At bo b o m ∧ (∀ j u, ys[j]? = some u → w.cell? ⟨b, o + j, none⟩ = some u) := by
  rcases Nat.eq_zero_or_pos m with h0 | h0
  · subst h0
    have : ys = [] := List.eq_nil_of_length_eq_zero (by simpa using h.1)
    subst this
    exact ⟨0, 0, .zero _ _ _, fun j u hu => by simp at hu⟩
  · obtain ⟨b, o, hb, hc⟩ := h.2 h0
    exact ⟨b, o, .inr hb, hc⟩
theorem Src.of_at {bo : Option Addr} {m b o : Nat} {ys : List Value} (hl : ys.length = m * size) (ha : At bo b o m) (hc : ∀ j u, ys[j]? = some u → w.cell? ⟨b, o + j, none⟩ = some u) : Src w bo m size ys :=
  ⟨hl, fun h0 => ha.elim (fun h => by omega) fun h => ⟨b, o, h, hc⟩⟩
theorem Src.new (w : World) (ys : Array Value) (T m : Nat) (hl : ys.size = m * size) : Src (w.alloc (.cells ys T)) (some ⟨w.heap.size, 0, none⟩) m size ys.toList :=
  ⟨by simpa using hl, fun _ => ⟨w.heap.size, 0, rfl, fun j u hu => by
    rw [Nat.zero_add, World.cell?_alloc_at _ _ _ _ rfl]
    simpa using hu⟩⟩
end
abbrev iv (xs : List Int) : List Value := xs.map (Value.int .i64)
theorem ints_of {w : World} {b o : Nat} {xs : List Int} (hc : ∀ j u, (iv xs)[j]? = some u → w.cell? ⟨b, o + j, none⟩ = some u) : Ints w b o xs := fun i hi => by
  rw [hc i (.int .i64 (xs.getD i 0)) (by simp [List.getD, hi])]
theorem cells_of_ints {w : World} {b o : Nat} {xs : List Int} (h : Ints w b o xs) : ∀ j u, (iv xs)[j]? = some u → w.cell? ⟨b, o + j, none⟩ = some u := fun j u hu => by
  have hj : j < xs.length := by
    have := (List.getElem?_eq_some_iff.1 hu).1
    simpa using this
  rw [h j hj, ← hu]
  simp [List.getD, hj]
theorem Ints.src {w : World} {bo : Option Addr} {b o : Nat} {xs : List Int} (ha : At bo b o xs.length) (h : Ints w b o xs) : Src w bo xs.length 1 (iv xs) := .of_at (by simp) ha (cells_of_ints h)
theorem Src.ints {w : World} {bo : Option Addr} {xs : List Int} (h : Src w bo xs.length 1 (iv xs)) : ∃ b o, At bo b o xs.length ∧ Ints w b o xs :=
  let ⟨b, o, ha, hc⟩ := h.at_; ⟨b, o, ha, ints_of hc⟩
section
variable {P : Program} (w : World)
theorem run_append_of_nil (base : Nat) (t ty e : TypeId) (i : TypeInfo) (size : Nat) (ht : P.underlying t = some (.slice e)) (hi : P.info? e = some i)
    (v : Value) (n : Nat) (xs : List Value) (hown : w.ownsRow base e size v n xs) (c : Nat) : (Builtin.append_ #[t, t] ty #[v, .slice none 0 c]).run P w = .ok v w := by
  rcases hown.2 with ⟨rfl, rfl⟩ | ⟨g, cap, cur, rfl, _, _, hnc, _⟩
  · simp [Builtin.append_, run_underlying ht, sizeOf, typeInfo, hi, Builtin.lenOf, Builtin.firstCells]
  · simp [Builtin.append_, run_underlying ht, sizeOf, typeInfo, hi, Builtin.lenOf, Builtin.firstCells, hnc, storeCells]
theorem run_append_any {T ty E size bytes : Nat} {z : Value} (hE : El P T E size bytes z) (base : Nat) {ao : Option Addr} {n c : Nat} {cs : List Value} (hown : Own w base E size ao n c cs)
    {bo : Option Addr} {m d : Nat} {ys : List Value} (hs : Src w bo m size ys) (h1 : ∀ u ∈ ys, u.oneCell' = true)
    (h63 : n + m ≤ maxLen) (hbytes : (n + m) * bytes ≤ 140737488355328) (hbase : base ≤ w.heap.size) :
    ∃ ao' c' w', (Builtin.append_ #[T, T] ty #[.slice ao n c, .slice bo m d]).run P w = .ok (.slice ao' (n + m) c') w' ∧ Own w' base E size ao' (n + m) c' (cs ++ ys) ∧ w.grownBy w' (blk ao) ∧
      (blk ao' = blk ao ∨ blk ao' = some w.heap.size) ∧ (ao' = none ↔ ao = none ∧ m = 0) := by
  obtain ⟨i, hi, hz, hsz, hby⟩ := hE.info
  rcases bo with _ | ad
  · have hm : m = 0 := by
      rcases Nat.eq_zero_or_pos m with h0 | h0
      · exact h0
      · obtain ⟨b, o, h, _⟩ := hs.2 h0
        cases h
    subst hm
    have hn : ys = [] := List.eq_nil_of_length_eq_zero (by simpa using hs.1)
    subst hn
    exact ⟨ao, c, w, run_append_of_nil w base T ty E i size hE.sl hi _ n cs hown d, by simpa using hown, World.grownBy.refl w _, .inl rfl, by simp⟩
  · have hcells : ∀ j u, ys[j]? = some u → w.cell? (ad.add j) = some u := by
      intro j u hu
      rcases Nat.eq_zero_or_pos m with h0 | h0
      · subst h0
        have hn : ys = [] := List.eq_nil_of_length_eq_zero (by simpa using hs.1)
        subst hn
        simp at hu
      · obtain ⟨b, o, h, hc⟩ := hs.2 h0
        injection h with h
        subst h
        rw [Addr.add_lit]
        exact hc j u hu
    obtain ⟨v', w', hrun, h2, h3, h4, h5⟩ := run_append_own_at (P := P) w base T ty E i z size bytes hE.sl hi hz hsz hby hE.cells hE.pos _ n cs hown ad m d ys hs.1 hcells h1 h63 hbytes hbase
    obtain ⟨ao', c', rfl⟩ : ∃ ao' c', v' = .slice ao' (n + m) c' := by
      rcases h2.2 with ⟨rfl, h0⟩ | ⟨g, cap, cur, rfl, _⟩
      · exact ⟨none, 0, by rw [h0]⟩
      · exact ⟨_, _, rfl⟩
    rw [ownBlock_slice, ownBlock_slice] at h5
    rw [ownBlock_slice] at h3
    refine ⟨ao', c', w', hrun, h2, h3, h5, ?_⟩
    constructor
    · rintro rfl
      have hc : (Value.slice none (n + m) c') = .slice none 0 0 := by
        rcases h2.2 with ⟨h, _⟩ | ⟨g, cap, cur, h, _⟩
        · exact h
        · simp at h
      obtain ⟨h6, h7⟩ := h4.1 hc
      simp at h6
      exact ⟨h6.1, h7⟩
    · rintro ⟨rfl, rfl⟩
      have h6 : (Value.slice none n c) = .slice none 0 0 := by
        rcases hown.2 with ⟨h, _⟩ | ⟨g, cap, cur, h, _⟩
        · exact h
        · simp at h
      have := h4.2 ⟨h6, rfl⟩
      simp at this
      exact this.1
theorem wp_app {ops : Array Oper} {rest : List Oper} {o : Oper} {a : Act} {Q : Exit → Act → World → Prop} {T E size bytes : Nat} {z : Value} (hE : El P T E size bytes z) (hgd : o.guard = none) (s x : Operand)
    (ho : o.op = .call { callee := .builtin .append, args := #[s, x], argTypes := #[T, T] })
    (base : Nat) {ao : Option Addr} {n c : Nat} {cs : List Value} (hs : a.eval s = .slice ao n c) (hown : Own w base E size ao n c cs)
    {bo : Option Addr} {m d : Nat} {ys : List Value} (hx : a.eval x = .slice bo m d) (hy : Src w bo m size ys) (h1 : ∀ u ∈ ys, u.oneCell' = true)
    (h63 : n + m ≤ maxLen) (hbytes : (n + m) * bytes ≤ 140737488355328) (hbase : base ≤ w.heap.size)
    (h : ∀ ao' c' w', Own w' base E size ao' (n + m) c' (cs ++ ys) → w.grownBy w' (blk ao) → (blk ao' = blk ao ∨ blk ao' = some w.heap.size) → (ao' = none ↔ ao = none ∧ m = 0) →
      wpList P ops Q rest (a.put o.dst (.slice ao' (n + m) c')) w') : wpList P ops Q (o :: rest) a w :=
  wpList_plain hgd fun K hK => by
    obtain ⟨ao', c', w', hrun, h2, h3, h4, h5⟩ := run_append_any (P := P) w (ty := o.type) hE base hown (d := d) hy h1 h63 hbytes hbase
    unfold Oper.wp execOp
    simp only [ho, resolve, invoke, builtin, Sem.run_bind, Sem.run_pure, Result.andThen_ok, List.map_toArray, List.map_cons, List.map_nil, hs, hx, hrun]
    exact hK _ _ (h ao' c' w' h2 h3 h4 h5)
end
theorem below_grown {B : Nat} {w0 w w' : World} {row : Option Nat} (h : Below B w0 w) (hg : w.grownBy w' row) (hB : B ≤ w.heap.size) (hr : ∀ k, row = some k → B ≤ k) : Below B w0 w' := h.grown hg hB hr
theorem gb_refl (w : World) (row : Option Nat) : w.grownBy w row := World.grownBy.refl w row
theorem gb_trans {a b c : World} {row : Option Nat} (h : a.grownBy b row) (k : b.grownBy c row) : a.grownBy c row :=
  ⟨k.os.trans h.os, k.tape.trans h.tape, k.output.trans h.output, Nat.le_trans h.size k.size, fun i hi hne => (k.block i (Nat.lt_of_lt_of_le hi h.size) hne).trans (h.block i hi hne)⟩
theorem gb_set {a w : World} {g : Nat} (h : a.grownBy w (some g)) {p : Addr} (hp : p.block = g ∨ a.heap.size ≤ p.block) (u : Value) : a.grownBy (w.setCell p u) (some g) :=
  ⟨h.os, h.tape, h.output, by simpa [World.setCell] using h.size, fun i hi hne => (Below.heap_setCell w p u i (by
    rintro rfl
    rcases hp with hp | hp
    · exact hne (by rw [hp])
    · omega)).trans (h.block i hi hne)⟩
theorem gb_of_below {a w : World} (h : Below a.heap.size a w) (row : Option Nat) : a.grownBy w row := ⟨h.os, h.tape, h.output, h.size, fun i hi _ => h.block i hi⟩
theorem wp_make {P : Program} (w : World) {ops : Array Oper} {rest : List Oper} {o : Oper} {a : Act} {Q : Exit → Act → World → Prop} {T E size bytes : Nat} {z : Value} (hE : El P T E size bytes z) (hgd : o.guard = none)
    (l c : Operand) (ho : o.op = Op.makeSlice T l c) (base : Nat) {kl kc : IntKind} (n : Nat) (hl : a.eval l = .int kl (n : Int)) (hc : a.eval c = .int kc (n : Int))
    (hb2 : bytes * n ≤ 281474976710656) (h63 : n ≤ maxLen) (hbase : base ≤ w.heap.size)
    (h : ∀ w', Own w' base E size (some ⟨w.heap.size, 0, none⟩) n n (madeCells z.cells (n * size)).toList → w.grownBy w' none → wpList P ops Q rest (a.put o.dst (.slice (some ⟨w.heap.size, 0, none⟩) n n)) w') :
    wpList P ops Q (o :: rest) a w := by
  obtain ⟨i, hi, hz, hsz, hby⟩ := hE.info
  exact wpList_make_full w hgd l c T ho base E i z size hE.sl hi hz hsz kl kc _ _ n hl hc rfl rfl (by rw [hby]; exact hb2) h63 hbase h
theorem wp_make0 {P : Program} (w : World) {ops : Array Oper} {rest : List Oper} {o : Oper} {a : Act} {Q : Exit → Act → World → Prop} {T E size bytes : Nat} {z : Value} (hE : El P T E size bytes z) (hgd : o.guard = none)
    (l c : Operand) (ho : o.op = Op.makeSlice T l c) (base : Nat) {kl kc : IntKind} (n : Nat) (hl : a.eval l = .int kl 0) (hc : a.eval c = .int kc (n : Int))
    (hb2 : bytes * n ≤ 281474976710656) (h63 : n ≤ maxLen) (hbase : base ≤ w.heap.size)
    (h : ∀ w', Own w' base E size (some ⟨w.heap.size, 0, none⟩) 0 n [] → w.grownBy w' none → wpList P ops Q rest (a.put o.dst (.slice (some ⟨w.heap.size, 0, none⟩) 0 n)) w') :
    wpList P ops Q (o :: rest) a w := by
  obtain ⟨i, hi, hz, hsz, hby⟩ := hE.info
  exact wpList_make_own w hgd l c T ho base E i z size hE.sl hi hz hsz kl kc _ n hl hc rfl (by rw [hby]; exact hb2) h63 hbase h
theorem fill_step {α : Type} (f : List α) (z : α) (k : Nat) (h : k < f.length) : (f.take k ++ List.replicate (f.length - k) z).set k f[k] = f.take (k + 1) ++ List.replicate (f.length - (k + 1)) z := by
  have h1 : (f.take k).length = k := by rw [List.length_take]; omega
  rw [List.set_append_right _ _ (by omega), h1, Nat.sub_self, show f.length - k = (f.length - (k + 1)) + 1 by omega, List.replicate_succ, List.set_cons_zero,
    List.take_succ_eq_append_getElem h, List.append_assoc]
  rfl
theorem fill_get {α : Type} (f : List α) (z : α) (k : Nat) (h : k < f.length) : (f.take k ++ List.replicate (f.length - k) z)[k]? = some z := by
  have h1 : (f.take k).length = k := by rw [List.length_take]; omega
  rw [List.getElem?_append_right (by omega), h1, Nat.sub_self, List.getElem?_replicate, if_pos (by omega)]
theorem step_app {P : Program} (w : World) {ops : Array Oper} {o : Oper} {a : Act} {K : Act → World → Prop} {Q : Exit → Act → World → Prop} {F : Prop} {T E size bytes : Nat} {z : Value} (hE : El P T E size bytes z) (hgd : o.guard = none) (s x : Operand)
    (ho : o.op = .call { callee := .builtin .append, args := #[s, x], argTypes := #[T, T] })
    (base : Nat) {ao : Option Addr} {n c : Nat} {cs : List Value} (hs : a.eval s = .slice ao n c) (hown : Own w base E size ao n c cs)
    {bo : Option Addr} {m d : Nat} {ys : List Value} (hx : a.eval x = .slice bo m d) (hy : Src w bo m size ys) (h1 : ∀ u ∈ ys, u.oneCell' = true)
    (h63 : n + m ≤ maxLen) (hbytes : (n + m) * bytes ≤ 140737488355328) (hbase : base ≤ w.heap.size)
    (h : ∀ ao' c' w', Own w' base E size ao' (n + m) c' (cs ++ ys) → w.grownBy w' (blk ao) → (blk ao' = blk ao ∨ blk ao' = some w.heap.size) → (ao' = none ↔ ao = none ∧ m = 0) →
      K (a.put o.dst (.slice ao' (n + m) c')) w') : if Region.wanted o (yielded ops a.tmps) = true then Oper.wp P o a w K Q else F := by
  rw [if_pos (by simp [Region.wanted, hgd])]
  obtain ⟨ao', c', w', hrun, h2, h3, h4, h5⟩ := run_append_any (P := P) w (ty := o.type) hE base hown (d := d) hy h1 h63 hbytes hbase
  unfold Oper.wp execOp
  simp only [ho, resolve, invoke, builtin, Sem.run_bind, Sem.run_pure, Result.andThen_ok, List.map_toArray, List.map_cons, List.map_nil, hs, hx, hrun]
  exact h ao' c' w' h2 h3 h4 h5
theorem own_len {w : World} {base E size n m c : Nat} {ao : Option Addr} {cs ds : List Value} (h : Own w base E size ao n c cs) (hn : n = m) (hc : cs = ds) : Own w base E size ao m c ds := by
  subst hn hc; exact h
theorem cell_lit {W : World} {cs : Array Value} {T N i : Nat} {v : Value} (hN : W.heap.size = N) (hv : cs[i]? = some v) : (W.alloc (.cells cs T)).cell? ⟨N, i, none⟩ = some v := by
  subst hN
  rw [World.cell?_alloc_at _ _ _ _ rfl]
  exact hv
theorem cell_litD {W : World} {cs : Array Value} {T N i : Nat} {v : Value} (hN : W.heap.size = N) (hv : cs[i]? = some v) : (W.alloc (.cells cs T)).drew.cell? ⟨N, i, none⟩ = some v := cell_lit hN hv
theorem Src.newN {w : World} {N size T m : Nat} {ys : Array Value} (hN : w.heap.size = N) (hl : ys.size = m * size) : Src (w.alloc (.cells ys T)) (some ⟨N, 0, none⟩) m size ys.toList := by
  subst hN; exact Src.new w ys T m hl
end Go.Proofs.YtlobefglhppbdaaGreatDoor
