/- Costs, as plain data: Dijkstra's walk, heaps. No statement of the seat is proved here. -/
import Derived.LoopN
import Derived.Deep.RegionHeld3
import Derived.Deep.RegionLaw
import Derived.Test.YtlobefglhppbdaaGreatDoorRows
import Derived.WalkKit
import Derived.WalkSpells
import Derived.WalkLawsBesides
import Derived.Lib.Hide
import Derived.Handy
import Derived.BigQuiet
import Derived.Deep.QuietTactic
import Derived.Lib.AppendZerosOnto
import Derived.Lib.SliceRun
import Derived.Test.YtlobefglhppbdaaGreatDoorCtLib
import Derived.Test.YtlobefglhppbdaaGreatDoorCtOwn
import Derived.Test.YtlobefglhppbdaaGreatDoorCtJobs
import Derived.Test.YtlobefglhppbdaaGreatDoorCtGValid
import Derived.Test.YtlobefglhppbdaaGreatDoorCtGBfs
set_option linter.unusedSimpArgs false
set_option linter.unusedVariables false
set_option maxRecDepth 100000
set_option maxHeartbeats 8000000
namespace Go.Proofs.YtlobefglhppbdaaGreatDoor
def leR (a b : Int × Int) : Prop := a.1 < b.1 ∨ a.1 = b.1 ∧ a.2 ≤ b.2
structure Dj (m : Nat) (es : List E3) (s : Int) (xs : List Int) (q : List (Int × Int)) (d : Int) (rk : Int → Nat) (X : E3 → Prop) : Prop where
  len : xs.length = m
  pos : 0 ≤ d
  src : val xs s = 0 ∨ (val xs s = -1 ∧ (0, s) ∈ q)
  rng : ∀ v : Int, 0 ≤ v → v < (m : Int) → val xs v = -1 ∨ (0 ≤ val xs v ∧ val xs v ≤ d ∧ rk v + unset xs < m)
  par : ∀ v : Int, 0 ≤ v → v < (m : Int) → 0 ≤ val xs v → v = s ∨ ∃ e ∈ es, e.2.1 = v ∧ 0 ≤ val xs e.1 ∧ val xs v = val xs e.1 + e.2.2 ∧ rk e.1 < rk v
  que : ∀ r ∈ q, d ≤ r.1 ∧ (0 ≤ r.2 ∧ r.2 < (m : Int)) ∧ ((r.2 = s ∧ r.1 = 0) ∨ ∃ e ∈ es, e.2.1 = r.2 ∧ 0 ≤ val xs e.1 ∧ r.1 = val xs e.1 + e.2.2)
  ed : ∀ e ∈ es, 0 ≤ val xs e.1 → X e ∨ (0 ≤ val xs e.2.1 ∧ val xs e.2.1 ≤ val xs e.1 + e.2.2) ∨ (val xs e.2.1 = -1 ∧ (val xs e.1 + e.2.2, e.2.1) ∈ q)
theorem unset_le (xs : List Int) : unset xs ≤ xs.length := List.count_le_length
theorem Dj.take {m : Nat} {es : List E3} {s : Int} {xs : List Int} {q : List (Int × Int)} {r : Int × Int} {d : Int} {rk : Int → Nat} (hI : Inside m es) (hs : 0 ≤ s ∧ s < (m : Int)) (h : Dj m es s xs (r :: q) d rk (fun _ => False)) (hmin : ∀ x ∈ q, leR r x) (hv : val xs r.2 = -1) :
    Dj m es s (setv xs r.2 r.1) q r.1 (fun u => if u = r.2 then m - unset xs else rk u) (fun e => e.1 = r.2) := by
  obtain ⟨c, v⟩ := r
  dsimp only at *
  have hr := h.que (c, v) List.mem_cons_self
  dsimp only at hr
  obtain ⟨hdc, hv0, hwit⟩ := hr
  have hlen := h.len
  have hpos := h.pos
  have hval : ∀ w : Int, 0 ≤ w → val (setv xs v c) w = if w = v then c else val xs w := fun w hw => val_setv hv0.1 (by rw [hlen]; exact hv0.2) hw
  have hcnt := unset_setv hv0.1 (by rw [hlen]; exact hv0.2) hv (x := c) (by omega)
  have hle := unset_le xs
  rw [hlen] at hle
  have hmin' : ∀ x ∈ (c, v) :: q, c ≤ x.1 := fun x hx => by
    rcases List.mem_cons.1 hx with rfl | hx
    · exact Int.le_refl _
    · have := hmin x hx
      unfold leR at this
      dsimp only at this
      omega
  refine ⟨by rw [setv_len]; exact hlen, by omega, ?_, fun u h0 h1 => ?_, fun u h0 h1 h2 => ?_, fun x hx => ?_, fun e he h0 => ?_⟩
  · rw [hval s hs.1]
    by_cases hvs : s = v
    · rw [if_pos hvs]
      left
      subst hvs
      rcases h.src with a | ⟨a, b⟩
      · omega
      · have := hmin' _ b
        dsimp only at this
        omega
    · rw [if_neg hvs]
      rcases h.src with a | ⟨a, b⟩
      · exact .inl a
      · rcases List.mem_cons.1 b with b | b
        · injection b with _ b
          exact absurd b hvs
        · exact .inr ⟨a, b⟩
  · rw [hval u h0]
    by_cases hu : u = v
    · simp only [if_pos hu]
      right; omega
    · simp only [if_neg hu]
      rcases h.rng u h0 h1 with a | ⟨a, b, b'⟩
      · exact .inl a
      · right; omega
  · rw [hval u h0] at h2 ⊢
    have hkeep : ∀ e ∈ es, 0 ≤ val xs e.1 → val (setv xs v c) e.1 = val xs e.1 ∧ e.1 ≠ v := fun e he h3 => by
      have hne : e.1 ≠ v := fun hc => by rw [hc] at h3; omega
      rw [hval e.1 (hI e he).1.1, if_neg hne]
      exact ⟨rfl, hne⟩
    by_cases hu : u = v
    · subst hu
      rw [if_pos rfl]
      rcases hwit with a | ⟨e, he, e1, e2, e3⟩
      · exact .inl a.1
      · obtain ⟨k1, k2⟩ := hkeep e he e2
        refine .inr ⟨e, he, e1, by rw [k1]; exact e2, by rw [k1]; exact e3, ?_⟩
        simp only [if_neg k2, if_pos rfl]
        rcases h.rng e.1 (hI e he).1.1 (hI e he).1.2 with a | ⟨_, _, a⟩
        · omega
        · simp; omega
    · rw [if_neg hu] at h2 ⊢
      rcases h.par u h0 h1 h2 with a | ⟨e, he, e1, e2, e3, e4⟩
      · exact .inl a
      · obtain ⟨k1, k2⟩ := hkeep e he e2
        refine .inr ⟨e, he, e1, by rw [k1]; exact e2, by rw [k1]; exact e3, ?_⟩
        simp only [if_neg k2, if_neg hu]
        exact e4
  · have hx' := h.que x (List.mem_cons_of_mem _ hx)
    refine ⟨hmin' x (List.mem_cons_of_mem _ hx), hx'.2.1, ?_⟩
    rcases hx'.2.2 with a | ⟨e, he, e1, e2, e3⟩
    · exact .inl a
    · have hne : e.1 ≠ v := fun hc => by rw [hc] at e2; omega
      refine .inr ⟨e, he, e1, ?_, ?_⟩
      · rw [hval e.1 (hI e he).1.1, if_neg hne]; exact e2
      · rw [hval e.1 (hI e he).1.1, if_neg hne]; exact e3
  · by_cases hev : e.1 = v
    · exact .inl hev
    · rw [hval e.1 (hI e he).1.1, if_neg hev] at h0 ⊢
      rw [hval e.2.1 (hI e he).2.1]
      rcases h.ed e he h0 with a | a | ⟨a, b⟩
      · exact a.elim
      · have hne : e.2.1 ≠ v := fun hc => by rw [hc] at a; omega
        rw [if_neg hne]
        exact .inr (.inl a)
      · by_cases hne : e.2.1 = v
        · rw [if_pos hne]
          have := hmin' _ b
          dsimp only at this
          right; left; omega
        · rw [if_neg hne]
          rcases List.mem_cons.1 b with b | b
          · injection b with _ b
            exact absurd b hne
          · exact .inr (.inr ⟨a, b⟩)
theorem Dj.bd {m : Nat} {es : List E3} {s d : Int} {xs : List Int} {q : List (Int × Int)} {rk : Int → Nat} {X : E3 → Prop} (hI : Inside m es) (hw : ∀ e ∈ es, e.2.2 ≤ 20) (h : Dj m es s xs q d rk X) : ∀ (n : Nat) (v : Int), rk v ≤ n → 0 ≤ v → v < (m : Int) → 0 ≤ val xs v → val xs v ≤ 20 * rk v := by
  intro n
  induction n with
  | zero =>
    intro v hr h0 h1 h2
    rcases h.par v h0 h1 h2 with rfl | ⟨e, he, _, _, _, h6⟩
    · rcases h.src with a | ⟨a, _⟩ <;> omega
    · omega
  | succ n ih =>
    intro v hr h0 h1 h2
    rcases h.par v h0 h1 h2 with rfl | ⟨e, he, e1, e2, e3, h6⟩
    · rcases h.src with a | ⟨a, _⟩ <;> omega
    · have := ih e.1 (by omega) (hI e he).1.1 (hI e he).1.2 e2
      have := hw e he
      omega
def outE (es : List E3) (v : Int) : List E3 := es.filter fun e => decide (e.1 = v)
theorem leR_refl (a : Int × Int) : leR a a := by unfold leR; omega
theorem leR_trans {a b c : Int × Int} (h : leR a b) (g : leR b c) : leR a c := by unfold leR at *; omega
def atQ (q : List (Int × Int)) (i : Nat) : Int × Int := q.getD i (0, 0)
def Hp (n : Nat) (q : List (Int × Int)) : Prop := ∀ k, 0 < k → k < n → leR (atQ q ((k - 1) / 2)) (atQ q k)
theorem Hp.min {n : Nat} {q : List (Int × Int)} (h : Hp n q) : ∀ k, k < n → leR (atQ q 0) (atQ q k) := by
  intro k
  induction k using Nat.strongRecOn with
  | _ k ih =>
    intro hk
    rcases Nat.eq_zero_or_pos k with h0 | h0
    · subst h0; exact leR_refl _
    · exact leR_trans (ih ((k - 1) / 2) (by omega) (by omega)) (h k h0 hk)
end Go.Proofs.YtlobefglhppbdaaGreatDoor
set_option linter.unusedSimpArgs false
set_option linter.unusedVariables false
namespace Go.Proofs.YtlobefglhppbdaaGreatDoor
open Go.RowKit
theorem el_rowE : El Tryz.prog 86 23 1 24 (.slice none 0 0) := ⟨Tryz.underlying86, info_parts (by kernel_rfl), rfl, by omega⟩
structure Ls (w : World) (base B m : Nat) (L : Nat → List E3) (vals : List Value) : Prop where
  out : Own w base 23 1 (some ⟨B, 0, none⟩) m m vals
  row : ∀ v, v < m → ∃ ao c, vals[v]? = some (.slice ao (L v).length c) ∧ Own w (B + 1) 50 3 ao (L v).length c (ev (L v)) ∧ (L v = [] → ao = none)
  sep : ∀ u v au av nu nv cu cv, u < m → v < m → u ≠ v → vals[u]? = some (.slice au nu cu) → vals[v]? = some (.slice av nv cv) → ∀ g, blk au = some g → blk av = some g → False
theorem Ls.len {w : World} {base B m : Nat} {L : Nat → List E3} {vals : List Value} (h : Ls w base B m L vals) : vals.length = m := by have := h.out.length_; omega
theorem Ls.zero {w : World} {base B m : Nat} (h : Own w base 23 1 (some ⟨B, 0, none⟩) m m (List.replicate m (.slice none 0 0))) : Ls w base B m (fun _ => []) (List.replicate m (.slice none 0 0)) := by
  refine ⟨h, fun v hv => ⟨none, 0, by rw [List.getElem?_replicate, if_pos hv]; rfl, Own.nil_ _ _ _ _, fun _ => rfl⟩, fun u v au av nu nv cu cv hu hv _ h1 _ g hg _ => ?_⟩
  rw [List.getElem?_replicate, if_pos hu] at h1
  injection h1 with h1
  injection h1 with h1
  subst h1
  cases hg
def updL (L : Nat → List E3) (v : Nat) (x : List E3) : Nat → List E3 := fun u => if u = v then x else L u
theorem Ls.step {w w2 w3 w4 : World} {base B m v : Nat} {L : Nat → List E3} {vals : List Value} {ao ao' : Option Addr} {c c' : Nat} {x : List E3} (hx : x ≠ []) (h : Ls w base B m L vals) (hv : v < m) (hat : vals[v]? = some (.slice ao (L v).length c)) (hb : Below w.heap.size w w2) (hg : w2.grownBy w3 (blk ao))
    (hO : Own w3 (B + 1) 50 3 ao' x.length c' (ev x)) (hN : blk ao' = blk ao ∨ blk ao' = some w2.heap.size) (hb4 : Below w3.heap.size w3 w4) : Ls (w4.setCell ⟨B, v, none⟩ (.slice ao' x.length c')) base B m (updL L v x) (vals.set v (.slice ao' x.length c')) := by
  have hlen := h.len
  obtain ⟨a0, c0, q1, q2, _⟩ := h.row v hv
  rw [hat] at q1
  injection q1 with q1
  injection q1 with q1 _ q3
  subst q1 q3
  have hBne : ∀ g, blk (some ⟨B, 0, none⟩ : Option Addr) = some g → blk ao ≠ some g := fun g hg2 hc => by
    have hgB : B = g := by simpa [blk] using hg2
    have := (q2.lt_ g hc).1
    omega
  have hout2 := (h.out.below_ hb (Nat.le_refl _)).kept_ hg hBne
  have hrow : ∀ u, u < m → u ≠ v → ∀ au cu, vals[u]? = some (.slice au (L u).length cu) → Own w (B + 1) 50 3 au (L u).length cu (ev (L u)) → Own (w4.setCell ⟨B, v, none⟩ (.slice ao' x.length c')) (B + 1) 50 3 au (L u).length cu (ev (L u)) := fun u hu huv au cu h1 h2 => by
    have h3 := ((h2.below_ hb (Nat.le_refl _)).kept_ hg (fun g hg1 hg2 => h.sep u v _ _ _ _ _ _ hu hv huv h1 hat g hg1 hg2)).below_ hb4 (Nat.le_refl _)
    refine h3.set_other (fun hc => ?_) _
    have := (h2.lt_ B hc).1
    omega
  refine ⟨?_, fun u hu => ?_, fun u t au av nu nv cu cv hu ht hut h1 h2 g hg1 hg2 => ?_⟩
  · have := (hout2.below_ hb4 (Nat.le_refl _)).set_at v (.slice ao' x.length c')
    simpa using this
  · unfold updL
    by_cases huv : u = v
    · subst huv
      rw [if_pos rfl]
      refine ⟨ao', c', by rw [List.getElem?_set_self (by omega)], ?_, fun e => absurd e hx⟩
      refine (hO.below_ hb4 (Nat.le_refl _)).set_other (fun hc => ?_) _
      have := (hO.lt_ B hc).1
      omega
    · rw [if_neg huv]
      obtain ⟨au, cu, h1, h2, h3⟩ := h.row u hu
      exact ⟨au, cu, by rw [List.getElem?_set_ne (fun e => huv e.symm)]; exact h1, hrow u hu huv au cu h1 h2, h3⟩
  · have key : ∀ u au nu cu, u < m → u ≠ v → vals[u]? = some (.slice au nu cu) → ∀ g, blk au = some g → blk ao' = some g → False := fun u au nu cu hu huv h1 g hg1 hg2 => by
      rcases hN with hN | hN
      · rw [hN] at hg2
        exact h.sep u v _ _ _ _ _ _ hu hv huv h1 hat g hg1 hg2
      · obtain ⟨au2, cu2, r1, r2, _⟩ := h.row u hu
        rw [h1] at r1
        injection r1 with r1
        injection r1 with r1 _ _
        subst r1
        have := (r2.lt_ g hg1).2
        rw [hN] at hg2
        injection hg2 with hg2
        have := hb.size
        omega
    by_cases huv : u = v
    · subst huv
      rw [List.getElem?_set_self (by omega)] at h1
      injection h1 with h1
      injection h1 with h1 _ _
      subst h1
      rw [List.getElem?_set_ne hut] at h2
      exact key t _ _ _ ht (fun e => hut e.symm) h2 g hg2 hg1
    · rw [List.getElem?_set_ne (fun e => huv e.symm)] at h1
      by_cases htv : t = v
      · subst htv
        rw [List.getElem?_set_self (by omega)] at h2
        injection h2 with h2
        injection h2 with h2 _ _
        subst h2
        exact key u _ _ _ hu huv h1 g hg1 hg2
      · rw [List.getElem?_set_ne (fun e => htv e.symm)] at h2
        exact h.sep u t _ _ _ _ _ _ hu ht hut h1 h2 g hg1 hg2
theorem made_nil (n : Nat) : (madeCells (Value.slice none 0 0).cells (n * 1)).toList = List.replicate n (.slice none 0 0) := by
  apply List.ext_getElem?
  intro i
  show (madeCells #[Value.slice none 0 0] (n * 1)).toList[i]? = _
  simp only [madeCells, Array.toList_map, Array.toList_range, List.getElem?_map, List.getElem?_range]
  rw [List.getElem?_replicate]
  by_cases h : i < n * 1
  · rw [if_pos (by omega)]
    simp [h, Nat.mod_one]
    exact ⟨i, by rw [List.getElem?_range (by omega)]⟩
  · rw [if_neg (by omega)]
    simp
    omega
theorem outE_take {es : List E3} {k : Nat} (h : k < es.length) (v : Nat) : outE (es.take (k + 1)) v = if es[k].1 = (v : Int) then outE (es.take k) v ++ [es[k]] else outE (es.take k) v := by
  rw [List.take_succ_eq_append_getElem h]
  unfold outE
  rw [List.filter_append]
  by_cases hc : es[k].1 = (v : Int)
  · rw [if_pos hc]; simp [hc]
  · rw [if_neg hc]; simp [hc]
def LsP (w : World) (m : Nat) (es : List E3) (e : Ending) (w' : World) : Prop := ∃ B vals, e = .returned (.slice (some ⟨B, 0, none⟩) m m) ∧ Ls w' w.heap.size B m (fun v => outE es v) vals ∧ Below w.heap.size w w'
theorem implLists (m : Nat) (ao : Option Addr) (c : Nat) (es : List E3) (w : World) (hl : es.length ≤ 1048576) (hm : m ≤ 16) (hI : ∀ e ∈ es, 0 ≤ e.1 ∧ e.1 < (m : Int)) (hs : Se w ao es) :
    Calls Tryz.prog 60 #[gr m ao es.length c] w (LsP w m es) := by
  obtain ⟨b, o, ha, hE⟩ := Src.edges hs
  have hix := ha.ixN (c := c) 3 Tryz.underlying23 sz_edge
  have HS := Lib.hid hE
  have HI := Lib.hid hI
  clear hs hE ha hI
  go_enter Tryz.func60, Tryz.ntmps60
  go_wp2_with (first|(at_make;refine wp_make _ el_rowE rfl _ _ rfl w.heap.size m rfl rfl (by omega) (by simp only [maxLen];omega) (by simp) ?_;intro w1 hown hg;have hb1 := (Below.refl _ (w.alloc (.cells #[.int .i64 m, .slice ao es.length c] 25))).grown hg (Nat.le_refl _) (by simp);(obtain ⟨hc1, hf1⟩ := bcell hb1);(try simp only [World.size_drew, World.size_drewN] at hc1 hf1);have hz1 := hb1.size;(try simp only [World.size_alloc, World.size_setCell, World.size_drew, World.size_drewN] at hz1);have hl1_0 : w.heap.size < w1.heap.size := (by omega)))
  have hB1 : Hid (Below w.heap.size w w1) := (by repeat' (first|(with_reducible exact Below.refl _ _)|(with_reducible assumption)|(with_reducible refine Below.alloc ?_ ?_ _)|(with_reducible refine Below.drew ?_)|(with_reducible refine below_drewN ?_ _)|(with_reducible refine Below.setCell ?_ ?_ _)|(refine bstep (by with_reducible assumption) ?_)|(refine bstep2 (by with_reducible assumption) (by first|omega|(simp;done)|(simp;omega)) ?_)|go_size))
  have hL : Ls w1 w.heap.size (w.heap.size + 1) m (fun v => outE (es.take 0) v) (List.replicate m (.slice none 0 0)) := by
    have h := own_len hown rfl (made_nil m)
    simp only [World.size_alloc] at h
    exact Ls.zero h
  have hs1 : w.heap.size + 2 ≤ w1.heap.size := by have := (hown.lt_ _ rfl).2; simp at this; omega
  clear hown hg hc1 hf1 hb1
  have hHL := Lib.hid hL
  clear hL
  go_loopw [12] (fun i wr => ∃ (k : Nat) (vals : List Value), k ≤ es.length ∧ i = .int .i64 k ∧ Below w.heap.size w wr ∧ wr.heap.size ≥ w.heap.size + 2 ∧ Hid (Ls wr w.heap.size (w.heap.size + 1) m (fun v => outE (es.take k) v) vals)) (fun i _ => es.length - (intOf i).toNat)
  case atStart => exact ⟨0, _, Nat.zero_le _, rfl, hB1.out, by omega, hHL⟩
  case round =>
    obtain ⟨k, vals, hk, rfl, hb, hsz, HL⟩ := hrel
    by_cases hlt : k < es.length
    · have hlti : (k : Int) < es.length := by omega
      have hEr : Edg wr b o es := HS.out.below hb (Nat.le_refl _)
      obtain ⟨hc0, hc1, hc2⟩ := hEr k hlt
      have hbr : b < wr.heap.size := hEr.lt (by omega)
      obtain ⟨hv0, hv1⟩ := HI.out es[k] (List.getElem_mem hlt)
      have HT := Lib.hid (fun v => outE_take hlt v)
      generalize es[k] = e at *
      obtain ⟨ea, eb, ec⟩ := e
      dsimp only at hc0 hc1 hc2 hv0 hv1
      obtain ⟨v, rfl⟩ := Int.eq_ofNat_of_zero_le hv0
      have hvm : v < m := by omega
      obtain ⟨a0, c0, hat, hO0, _⟩ := HL.out.row v hvm
      have hoc := HL.out.out.cell_at v (by omega)
      rw [hat] at hoc
      have hof := HL.out.out.frozen_at v
      have hix2 := (At.mk (w.heap.size + 1) 0 m).ix (c := m) Tryz.underlying86 (fun w => el_rowE.size_ w)
      have hl0 : (outE (es.take k) v).length ≤ 1048576 := by
        have := List.length_filter_le (fun e : E3 => decide (e.1 = (v : Int))) (es.take k)
        rw [List.length_take] at this
        unfold outE
        omega
      have HO0 := Lib.hid hO0
      have HAT := Lib.hid hat
      clear hEr hO0 hat
      generalize hX : outE (es.take k) v = X at *
      have hlo : ∀ g, blk a0 = some g → ¬ g = w.heap.size + 1 := fun g hg => by have := (HO0.out.lt_ g hg).1; omega
      have HLO := Lib.hid hlo
      have hlo2 : ∀ g, blk a0 = some g → ¬ g = wr.heap.size := fun g hg => by have := (HO0.out.lt_ g hg).2; omega
      have HLO2 := Lib.hid hlo2
      clear hlo2
      have hB0 : w.heap.size + 1 < wr.heap.size := by omega
      have hB1 : w.heap.size + 1 < wr.heap.size + 1 := by omega
      have hB2 : ¬ w.heap.size + 1 = wr.heap.size := by omega
      have hB3 : w.heap.size < wr.heap.size := by omega
      have hvt : ((v : Nat) : Int).toNat = v := Int.toNat_natCast v
      clear hlo
      go_wp2
      go_region_law (first|(refine step_app (cs := ev X) _ el_edge rfl (.tmp 23) (.tmp 25) (by rfl) (w.heap.size + 1 + 1) (by rfl) (by have h := HO0.out;repeat' (first|(with_reducible assumption)|(with_reducible apply Own.drew_)|(with_reducible apply Own.drewN_)|(with_reducible apply Own.alloc_)|(with_reducible refine Own.set_other ?_ ?_ _)|(refine Own.kept_ ?_ (by with_reducible assumption) ?_)|(refine Own.below_ ?_ (by with_reducible assumption) ?_)|(exact Nat.le_refl _)|omega)) (by rfl) (Src.newN (m := 1) (by simp) rfl) (by simp [Value.oneCell']) (by simp only [maxLen];omega) (by omega) (by simp;omega) ?_;intro ao3 c3 w3 hown3 hg3 hat3 hz3;have hcl3 : w3.cell? ⟨w.heap.size + 1, v, none⟩ = some (.slice a0 X.length c0) := (World.cell?_of_block (a := ⟨w.heap.size + 1, v, none⟩) (hg3.block (w.heap.size + 1) (by simp;omega) (fun e => HLO.out _ e.symm rfl))).trans ((Below.cell (B := wr.heap.size) (p := ⟨w.heap.size + 1, v, none⟩) (show Below wr.heap.size wr _ from (by repeat' (first|(with_reducible exact Below.refl _ _)|(with_reducible assumption)|(with_reducible refine Below.alloc ?_ ?_ _)|(with_reducible refine Below.drew ?_)|(with_reducible refine below_drewN ?_ _)|(with_reducible refine Below.setCell ?_ ?_ _)|(refine bstep (by with_reducible assumption) ?_)|(refine bstep2 (by with_reducible assumption) (by first|omega|(simp;done)|(simp;omega)) ?_)|go_size))) hB0).trans hoc);have hfl3 : w3.frozen? ⟨w.heap.size + 1, v, none⟩ = false := (World.frozen?_of_block (a := ⟨w.heap.size + 1, v, none⟩) (hg3.block (w.heap.size + 1) (by simp;omega) (fun e => HLO.out _ e.symm rfl))).trans ((Below.frozen (B := wr.heap.size) (p := ⟨w.heap.size + 1, v, none⟩) (show Below wr.heap.size wr _ from (by repeat' (first|(with_reducible exact Below.refl _ _)|(with_reducible assumption)|(with_reducible refine Below.alloc ?_ ?_ _)|(with_reducible refine Below.drew ?_)|(with_reducible refine below_drewN ?_ _)|(with_reducible refine Below.setCell ?_ ?_ _)|(refine bstep (by with_reducible assumption) ?_)|(refine bstep2 (by with_reducible assumption) (by first|omega|(simp;done)|(simp;omega)) ?_)|go_size))) hB0).trans hof);have he3 : w3.cell? ⟨wr.heap.size, 0, none⟩ = some (.int .i64 v) := (World.cell?_of_block (a := ⟨wr.heap.size, 0, none⟩) (hg3.block wr.heap.size (by first|(simp;done)|(simp;omega)) (fun e => HLO2.out _ e.symm rfl))).trans ((Below.cell (B := wr.heap.size + 1) (w := wr.alloc (.cells #[.int .i64 v, .int .i64 eb, .int .i64 ec] 50)) (p := ⟨wr.heap.size, 0, none⟩) (by repeat' (first|(with_reducible exact Below.refl _ _)|(with_reducible assumption)|(with_reducible refine Below.alloc ?_ ?_ _)|(with_reducible refine Below.drew ?_)|(with_reducible refine below_drewN ?_ _)|(with_reducible refine Below.setCell ?_ ?_ _)|(refine bstep (by with_reducible assumption) ?_)|(refine bstep2 (by with_reducible assumption) (by first|omega|(simp;done)|(simp;omega)) ?_)|go_size)) (Nat.lt_succ_self _)).trans (cell_lit rfl rfl));have hO3 := Lib.hid (own_len hown3 rfl (show _ = ev (X ++ [((v : Int), eb, ec)]) by rw [ev_append] <;> rfl));clear hown3))
      all_goals
        go_wp2
        go_roundw
        case rel =>
          have hb3 : Below w.heap.size w w3 := (by refine below_grown ?_ hg3 ?_ ?_ <;> first|(intro g hg;have := (HO0.out.lt_ g hg).1;omega)|omega|(simp;done)|(simp;omega)|exact (by repeat' (first|(with_reducible exact Below.refl _ _)|(with_reducible assumption)|(with_reducible refine Below.alloc ?_ ?_ _)|(with_reducible refine Below.drew ?_)|(with_reducible refine below_drewN ?_ _)|(with_reducible refine Below.setCell ?_ ?_ _)|(refine bstep (by with_reducible assumption) ?_)|(refine bstep2 (by with_reducible assumption) (by first|omega|(simp;done)|(simp;omega)) ?_)|go_size)))
          refine ⟨k + 1, vals.set v (.slice ao3 (X.length + 1) c3), by omega, by go_num, (by repeat' (first|(with_reducible exact Below.refl _ _)|(with_reducible assumption)|(with_reducible refine Below.alloc ?_ ?_ _)|(with_reducible refine Below.drew ?_)|(with_reducible refine below_drewN ?_ _)|(with_reducible refine Below.setCell ?_ ?_ _)|(refine bstep (by with_reducible assumption) ?_)|(refine bstep2 (by with_reducible assumption) (by first|omega|(simp;done)|(simp;omega)) ?_)|go_size)), by have := hg3.size;simp at this;simp;omega, ?_⟩
          have h := Ls.step (by simp) HL.out hvm (show vals[v]? = some (.slice a0 (outE (es.take k) (v : Int)).length c0) by rw [hX];exact HAT.out) (show Below wr.heap.size wr _ from (by repeat' (first|(with_reducible exact Below.refl _ _)|(with_reducible assumption)|(with_reducible refine Below.alloc ?_ ?_ _)|(with_reducible refine Below.drew ?_)|(with_reducible refine below_drewN ?_ _)|(with_reducible refine Below.setCell ?_ ?_ _)|(refine bstep (by with_reducible assumption) ?_)|(refine bstep2 (by with_reducible assumption) (by first|omega|(simp;done)|(simp;omega)) ?_)|go_size))) hg3 (own_len hO3.out (show _ = (X ++ [((v : Int), eb, ec)]).length by simp) rfl) hat3 (Below.refl _ w3)
          rw [List.length_append, List.length_singleton] at h
          have hu : updL (fun v => outE (es.take k) (v : Int)) v (X ++ [((v : Int), eb, ec)]) = fun u : Nat => outE (es.take (k + 1)) (u : Int) := by
            funext u
            unfold updL
            rw [HT.out u]
            by_cases huv : u = v
            · subst huv
              rw [if_pos rfl, if_pos rfl, hX]
            · rw [if_neg huv, if_neg (fun e => huv (by have e : ((v : Nat) : Int) = (u : Int) := e; omega))]
          rw [hu] at h
          exact Lib.hid h
        case measure => simp [intOf]; omega
    · obtain rfl : k = es.length := by omega
      have hL := HL.out
      rw [List.take_length] at hL
      have HL2 := Lib.hid hL
      clear hL
      go_wp2
      go_ret
      exact ⟨_, _, rfl, HL2.out, hb⟩
end Go.Proofs.YtlobefglhppbdaaGreatDoor
