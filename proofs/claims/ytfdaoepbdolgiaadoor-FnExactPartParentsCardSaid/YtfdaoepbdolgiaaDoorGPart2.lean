/- Parts of graphs, as plain data: the least vertex of a part, parents towards it. No statement of the seat is proved here. -/
import Derived.Test.YtfdaoepbdolgiaaDoorGHopS
import Derived.Test.YtfdaoepbdolgiaaDoorGBit
import Derived.Test.YtfdaoepbdolgiaaDoorTy
import Derived.Lib.Hide
import Derived.Test.YtfdaoepbdolgiaaDoorGNear
import Derived.Test.YtfdaoepbdolgiaaDoorADat
set_option linter.unusedSimpArgs false
set_option linter.unusedVariables false
namespace Go.Proofs.YtfdaoepbdolgiaaDoor.Abs
open Go.RowKit
open R (val row ref)

/-! ## GPart -/
/-- The edges in both directions. -/
def symE (es : List E3) : List E3 := es ++ es.map (fun e => (e.2.1, e.1, e.2.2))
theorem mem_symE {es : List E3} {a b : Int} : (∃ e ∈ symE es, e.1 = a ∧ e.2.1 = b) ↔ adj es a b = true := by
  unfold symE adj adjE
  rw [List.any_eq_true]
  constructor
  · rintro ⟨e, he, h1, h2⟩
    rcases List.mem_append.1 he with h | h
    · exact ⟨e, h, by simp [h1, h2]⟩
    · obtain ⟨f, hf, rfl⟩ := List.mem_map.1 h
      exact ⟨f, hf, by simp at h1 h2; simp [h1, h2]⟩
  · rintro ⟨e, he, h⟩
    simp at h
    rcases h with ⟨h1, h2⟩ | ⟨h1, h2⟩
    · exact ⟨e, List.mem_append.2 (.inl he), h1, h2⟩
    · exact ⟨(e.2.1, e.1, e.2.2), List.mem_append.2 (.inr (List.mem_map.2 ⟨e, he, rfl⟩)), h2, h1⟩
theorem adj_comm (es : List E3) (a b : Int) : adj es a b = adj es b a := by
  unfold adj
  congr 1
  funext e
  unfold adjE
  rw [Bool.or_comm]
theorem symE_in {m : Nat} {es : List E3} (h : Inside m es) : Inside m (symE es) := fun e he => by
  rcases List.mem_append.1 he with h1 | h1
  · exact h e h1
  · obtain ⟨f, hf, rfl⟩ := List.mem_map.1 h1
    exact ⟨(h f hf).2, (h f hf).1⟩
theorem adj_in {m : Nat} {es : List E3} (h : Inside m es) {a b : Int} (g : adj es a b = true) : (0 ≤ a ∧ a < (m : Int)) ∧ (0 ≤ b ∧ b < (m : Int)) := by
  obtain ⟨e, he, rfl, rfl⟩ := mem_symE.2 g
  exact symE_in h e he
theorem nearM_mem {m : Nat} {es : List E3} (hm : m ≤ 16) (hI : Inside m es) (v : Int) (h0 : 0 ≤ v) (h1 : v < (m : Int)) (u : Int) : u ∈ bitsR ((nearM m es).getD v.toNat 0) ↔ ∃ e ∈ symE es, e.1 = v ∧ e.2.1 = u := by
  rw [mem_bitsR, nearM_bit hm hI, mem_symE]
  constructor
  · rintro ⟨h2, h3⟩
    rwa [Int.toNat_of_nonneg h0, Int.toNat_of_nonneg h2] at h3
  · intro h
    have := (adj_in hI h).2.1
    refine ⟨this, ?_⟩
    rwa [Int.toNat_of_nonneg h0, Int.toNat_of_nonneg this]
theorem way_step {E : List E3} {s : Int} {k : Nat} {a b : Int} (h : way E s k a) (g : ∃ e ∈ E, e.1 = a ∧ e.2.1 = b) : way E s (k + 1) b := by
  obtain ⟨e, he, rfl, h2⟩ := g
  exact ⟨e, he, h2, h⟩
theorem way_trans {E : List E3} {a b : Int} {j : Nat} (h : way E a j b) : ∀ {k : Nat} {c : Int}, way E b k c → way E a (j + k) c
  | 0, c, g => by have : c = b := g; subst this; exact h
  | k + 1, c, ⟨e, he, h1, h2⟩ => ⟨e, he, h1, way_trans h h2⟩
theorem way_symm {es : List E3} {a : Int} : ∀ {k : Nat} {b : Int}, way (symE es) a k b → way (symE es) b k a
  | 0, b, h => by have : b = a := h; subst this; rfl
  | k + 1, b, ⟨e, he, h1, h2⟩ => by
    have h3 := way_symm h2
    have h4 : way (symE es) b 1 e.1 := way_step (k := 0) (a := b) rfl (mem_symE.2 (by rw [adj_comm]; exact mem_symE.1 ⟨e, he, rfl, h1⟩))
    have := way_trans h4 h3
    rwa [Nat.add_comm] at this
/-- There is a way by neighbours. -/
def cn (es : List E3) (a b : Int) : Prop := ∃ k, way (symE es) a k b
theorem cn_refl (es : List E3) (a : Int) : cn es a a := ⟨0, rfl⟩
theorem cn_symm {es : List E3} {a b : Int} (h : cn es a b) : cn es b a := let ⟨k, h⟩ := h; ⟨k, way_symm h⟩
theorem cn_trans {es : List E3} {a b c : Int} (h : cn es a b) (g : cn es b c) : cn es a c := let ⟨j, h⟩ := h; let ⟨k, g⟩ := g; ⟨j + k, way_trans h g⟩
theorem cn_adj {es : List E3} {a b : Int} (h : adj es a b = true) : cn es a b := ⟨1, way_step (k := 0) (a := a) rfl (mem_symE.2 h)⟩
theorem cn_in {m : Nat} {es : List E3} (hI : Inside m es) {a b : Int} (ha : 0 ≤ a ∧ a < (m : Int)) (h : cn es a b) : 0 ≤ b ∧ b < (m : Int) := let ⟨_, h⟩ := h; way_inside (symE_in hI) ha h
/-- What is the same at the ends of all edges is the same in a part. -/
theorem cn_same {es : List E3} {a : Int} {f : Int → Int} (h : ∀ e ∈ es, f e.1 = f e.2.1) : ∀ {b : Int}, cn es a b → f b = f a := by
  rintro b ⟨k, hk⟩
  induction k generalizing b with
  | zero => have : b = a := hk; rw [this]
  | succ k ih =>
    obtain ⟨e, he, h1, h2⟩ := hk
    have h3 := ih h2
    have h4 : adj es e.1 b = true := mem_symE.1 ⟨e, he, rfl, h1⟩
    unfold adj at h4
    obtain ⟨g, hg, hE⟩ := List.any_eq_true.1 h4
    have := h g hg
    unfold adjE at hE
    simp at hE
    rcases hE with ⟨g1, g2⟩ | ⟨g1, g2⟩
    · rw [← g2, ← h3, ← g1, this]
    · rw [← g1, ← h3, ← g2, this]
/-- These numbers are the least vertices of the parts. -/
structure IsL (m : Nat) (es : List E3) (L : List Int) : Prop where
  len : L.length = m
  con : ∀ v : Int, 0 ≤ v → v < (m : Int) → (0 ≤ Go.Proofs.YtfdaoepbdolgiaaDoor.val L v ∧ Go.Proofs.YtfdaoepbdolgiaaDoor.val L v < (m : Int)) ∧ cn es (Go.Proofs.YtfdaoepbdolgiaaDoor.val L v) v
  min : ∀ v : Int, 0 ≤ v → v < (m : Int) → ∀ u : Int, cn es u v → 0 ≤ u → Go.Proofs.YtfdaoepbdolgiaaDoor.val L v ≤ u
theorem IsL.uniq {m : Nat} {es : List E3} {L L' : List Int} (h : IsL m es L) (g : IsL m es L') : L = L' := by
  refine ext_val (by rw [h.len, g.len]) (fun v h0 h1 => ?_)
  rw [h.len] at h1
  have a := h.con v h0 h1
  have b := g.con v h0 h1
  have := h.min v h0 h1 _ b.2 b.1.1
  have := g.min v h0 h1 _ a.2 a.1.1
  omega
theorem IsL.const {m : Nat} {es : List E3} {L : List Int} (h : IsL m es L) (hI : Inside m es) {u v : Int} (h0 : 0 ≤ v) (h1 : v < (m : Int)) (hc : cn es u v) : Go.Proofs.YtfdaoepbdolgiaaDoor.val L u = Go.Proofs.YtfdaoepbdolgiaaDoor.val L v := by
  have hu := cn_in hI ⟨h0, h1⟩ (cn_symm hc)
  have a := h.con v h0 h1
  have b := h.con u hu.1 hu.2
  have := h.min v h0 h1 _ (cn_trans b.2 hc) b.1.1
  have := h.min u hu.1 hu.2 _ (cn_trans a.2 (cn_symm hc)) a.1.1
  omega
theorem IsL.le {m : Nat} {es : List E3} {L : List Int} (h : IsL m es L) {v : Int} (h0 : 0 ≤ v) (h1 : v < (m : Int)) : Go.Proofs.YtfdaoepbdolgiaaDoor.val L v ≤ v := h.min v h0 h1 v (cn_refl es v) h0
theorem IsL.idem {m : Nat} {es : List E3} {L : List Int} (h : IsL m es L) (hI : Inside m es) {v : Int} (h0 : 0 ≤ v) (h1 : v < (m : Int)) : Go.Proofs.YtfdaoepbdolgiaaDoor.val L (Go.Proofs.YtfdaoepbdolgiaaDoor.val L v) = Go.Proofs.YtfdaoepbdolgiaaDoor.val L v := h.const hI h0 h1 (h.con v h0 h1).2
theorem least_short {m : Nat} {es : List E3} {s : Int} (hI : Inside m es) (hs : 0 ≤ s ∧ s < (m : Int)) {k : Nat} {v : Int} (hL : least es s k v) : k < m := by
  have hH := hopsN_isH hI hs
  have down : ∀ (i : Nat), i ≤ k → ∃ u, least es s (k - i) u := by
    intro i
    induction i with
    | zero => intro _; exact ⟨v, hL⟩
    | succ i ih =>
      intro hi
      obtain ⟨u, hu⟩ := ih (by omega)
      rw [show k - i = (k - (i + 1)) + 1 by omega] at hu
      obtain ⟨e, _, _, he⟩ := least_pred hu
      exact ⟨e.1, he⟩
  have := count_up k (hopsN m es s m) (fun j hj => by
    obtain ⟨u, hu⟩ := down (k - j) (by omega)
    rw [show k - (k - j) = j by omega] at hu
    have hin := way_inside hI hs hu.1
    have hval := hH.some u hin.1 hin.2 j hu
    rw [← hval]
    unfold Go.Proofs.YtfdaoepbdolgiaaDoor.val
    rw [List.getD_eq_getElem?_getD, List.getElem?_eq_getElem (show u.toNat < (hopsN m es s m).length by rw [hH.len]; omega)]
    exact List.getElem_mem _)
  rw [hH.len] at this
  exact this
/-! ### how far a vertex is from the least one of its part -/
noncomputable def dst (m : Nat) (es : List E3) (L : List Int) (v : Int) : Int := Go.Proofs.YtfdaoepbdolgiaaDoor.val (hopsN m (symE es) (Go.Proofs.YtfdaoepbdolgiaaDoor.val L v) m) v
theorem dst_least {m : Nat} {es : List E3} {L : List Int} (h : IsL m es L) (hI : Inside m es) {v : Int} (h0 : 0 ≤ v) (h1 : v < (m : Int)) : ∃ k : Nat, least (symE es) (Go.Proofs.YtfdaoepbdolgiaaDoor.val L v) k v ∧ dst m es L v = k := by
  have a := h.con v h0 h1
  have hH := hopsN_isH (symE_in hI) a.1
  obtain ⟨k, hk⟩ := a.2
  obtain ⟨j, _, hj⟩ := least_of_way k hk
  exact ⟨j, hj, hH.some v h0 h1 j hj⟩
theorem dst_adj {m : Nat} {es : List E3} {L : List Int} (h : IsL m es L) (hI : Inside m es) {v w : Int} (h0 : 0 ≤ v) (h1 : v < (m : Int)) (ha : adj es v w = true) : dst m es L v ≤ dst m es L w + 1 := by
  have hw := (adj_in hI ha).2
  obtain ⟨k, hk, e1⟩ := dst_least h hI h0 h1
  obtain ⟨j, hj, e2⟩ := dst_least h hI hw.1 hw.2
  have hc := h.const hI hw.1 hw.2 (cn_adj ha)
  rw [← hc] at hj
  have : way (symE es) (Go.Proofs.YtfdaoepbdolgiaaDoor.val L v) (j + 1) v := way_step hj.1 (mem_symE.2 (by rw [adj_comm]; exact ha))
  have hle : k ≤ j + 1 := by
    apply Decidable.byContradiction
    intro hn
    exact hk.2 (j + 1) (by omega) this
  omega
theorem dst_zero {m : Nat} {es : List E3} {L : List Int} (h : IsL m es L) (hI : Inside m es) {v : Int} (h0 : 0 ≤ v) (h1 : v < (m : Int)) : dst m es L v = 0 ↔ Go.Proofs.YtfdaoepbdolgiaaDoor.val L v = v := by
  obtain ⟨k, hk, e1⟩ := dst_least h hI h0 h1
  constructor
  · intro h2
    obtain rfl : k = 0 := by omega
    exact hk.1.symm
  · intro h2
    have : ¬ 0 < k := fun hp => hk.2 0 hp h2.symm
    omega
theorem dst_pred {m : Nat} {es : List E3} {L : List Int} (h : IsL m es L) (hI : Inside m es) {v : Int} (h0 : 0 ≤ v) (h1 : v < (m : Int)) (hn : Go.Proofs.YtfdaoepbdolgiaaDoor.val L v ≠ v) : ∃ w, adj es v w = true ∧ dst m es L w + 1 = dst m es L v := by
  obtain ⟨k, hk, e1⟩ := dst_least h hI h0 h1
  cases k with
  | zero => exact absurd hk.1.symm hn
  | succ k =>
    obtain ⟨e, he, e2, e3⟩ := least_pred hk
    have ha : adj es e.1 v = true := mem_symE.1 ⟨e, he, rfl, e2⟩
    have hw := (adj_in hI ha).1
    have hc := h.const hI h0 h1 (cn_adj ha)
    obtain ⟨j, hj, e4⟩ := dst_least h hI hw.1 hw.2
    rw [hc] at hj
    have := least_uniq hj e3
    exact ⟨e.1, by rw [adj_comm]; exact ha, by omega⟩
theorem dst_lt {m : Nat} {es : List E3} {L : List Int} (h : IsL m es L) (hI : Inside m es) {v : Int} (h0 : 0 ≤ v) (h1 : v < (m : Int)) : 0 ≤ dst m es L v ∧ dst m es L v < (m : Int) := by
  obtain ⟨k, hk, e1⟩ := dst_least h hI h0 h1
  have a := h.con v h0 h1
  have := least_short (symE_in hI) a.1 hk
  omega
/-- These numbers are the parents. -/
structure IsPP (m : Nat) (es : List E3) (L P : List Int) : Prop where
  len : P.length = m
  root : ∀ v : Int, 0 ≤ v → v < (m : Int) → Go.Proofs.YtfdaoepbdolgiaaDoor.val L v = v → Go.Proofs.YtfdaoepbdolgiaaDoor.val P v = -1
  par : ∀ v : Int, 0 ≤ v → v < (m : Int) → Go.Proofs.YtfdaoepbdolgiaaDoor.val L v ≠ v → adj es v (Go.Proofs.YtfdaoepbdolgiaaDoor.val P v) = true ∧ dst m es L (Go.Proofs.YtfdaoepbdolgiaaDoor.val P v) + 1 = dst m es L v ∧ ∀ w, adj es v w = true → dst m es L w + 1 = dst m es L v → Go.Proofs.YtfdaoepbdolgiaaDoor.val P v ≤ w
theorem IsPP.uniq {m : Nat} {es : List E3} {L P P' : List Int} (h : IsPP m es L P) (g : IsPP m es L P') : P = P' := by
  refine ext_val (by rw [h.len, g.len]) (fun v h0 h1 => ?_)
  rw [h.len] at h1
  by_cases hv : Go.Proofs.YtfdaoepbdolgiaaDoor.val L v = v
  · rw [h.root v h0 h1 hv, g.root v h0 h1 hv]
  · have a := h.par v h0 h1 hv
    have b := g.par v h0 h1 hv
    have := a.2.2 _ b.1 b.2.1
    have := b.2.2 _ a.1 a.2.1
    omega
/-! ## GTab -/
/-- The list of a function's values. -/
def tab (m : Nat) (f : Int → Int) : List Int := (List.range m).map (fun i : Nat => f (i : Int))
theorem tab_len (m : Nat) (f : Int → Int) : (tab m f).length = m := by unfold tab; simp
theorem tab_val {m : Nat} {f : Int → Int} {v : Int} (h0 : 0 ≤ v) (h1 : v < (m : Int)) : Go.Proofs.YtfdaoepbdolgiaaDoor.val (tab m f) v = f v := by
  unfold Go.Proofs.YtfdaoepbdolgiaaDoor.val tab
  rw [List.getD_eq_getElem?_getD, List.getElem?_map, List.getElem?_range (by omega)]
  simp only [Option.map_some, Option.getD_some]
  congr 1
  omega
theorem tab_congr {m : Nat} {f g : Int → Int} (h : ∀ v : Int, 0 ≤ v → v < (m : Int) → f v = g v) : tab m f = tab m g := by
  unfold tab
  refine List.map_congr_left (fun i hi => ?_)
  have := List.mem_range.1 hi
  exact h i (by omega) (by omega)
theorem tab_of {m : Nat} {xs : List Int} (h : xs.length = m) : tab m (Go.Proofs.YtfdaoepbdolgiaaDoor.val xs) = xs := by
  refine ext_val (by rw [tab_len, h]) (fun v h0 h1 => ?_)
  rw [tab_len] at h1
  exact tab_val h0 h1
theorem tab_set {m : Nat} {f : Int → Int} {k : Nat} (x : Int) (h : k < m) : (tab m f).set k x = tab m (fun i => if i = (k : Int) then x else f i) := by
  refine ext_val (by rw [List.length_set, tab_len, tab_len]) (fun v h0 h1 => ?_)
  rw [List.length_set, tab_len] at h1
  have := val_setv (xs := tab m f) (v := (k : Int)) (x := x) (u := v) (by omega) (by rw [tab_len]; omega) h0
  unfold setv at this
  rw [Int.toNat_natCast] at this
  rw [this, tab_val h0 h1, tab_val h0 h1]
theorem tab_rep (m : Nat) (x : Int) : tab m (fun _ => x) = List.replicate m x := by
  unfold tab
  rw [List.map_const', List.length_range]
theorem tab_at {m : Nat} {f : Int → Int} {v : Int} (h0 : 0 ≤ v) (h1 : v < (m : Int)) : (tab m f).getD (0 + v.toNat) 0 = f v := by
  rw [Nat.zero_add]; exact tab_val h0 h1
/-! ## GPart2 -/
theorem bitsR_sorted (x : Nat) : (bitsR x).Pairwise (· < ·) := by
  induction x using Nat.strongRecOn with
  | _ x ih =>
    by_cases h : x = 0
    · rw [h, bitsR_zero]; exact List.Pairwise.nil
    · have h0 : 0 < x := by omega
      rw [bitsR_pos h0, List.pairwise_cons]
      refine ⟨fun u hu => ?_, ih _ (drp_lt h0)⟩
      rw [mem_bitsR, drp_bit h0] at hu
      obtain ⟨h1, h2⟩ := hu
      simp at h2
      obtain ⟨q, hq⟩ := lsb_spec h0
      have h3 := h2.1
      have h4 := h2.2
      generalize lsb x = k at *
      rw [hq, tb_low] at h3
      split at h3
      · have := of_decide_eq_true h3
        omega
      · omega
theorem sorted_len : ∀ (n : Nat) (xs : List Int), xs.Pairwise (· < ·) → (∀ u ∈ xs, 0 ≤ u ∧ u < (n : Int)) → xs.length ≤ n := by
  have key : ∀ (xs : List Int) (a : Int) (k : Nat), xs.Pairwise (· < ·) → (∀ u ∈ xs, a ≤ u ∧ u < a + k) → xs.length ≤ k := by
    intro xs
    induction xs with
    | nil => intro a k _ _; simp
    | cons x xs ih =>
      intro a k hP h
      obtain ⟨h1, h2⟩ := List.pairwise_cons.1 hP
      have hx := h x (by simp)
      cases k with
      | zero => omega
      | succ k =>
        have := ih (a + 1) k h2 (fun u hu => by have := h1 u hu; have := h u (by simp [hu]); omega)
        simp; omega
  intro n xs hP h
  exact key xs 0 n hP (fun u hu => by have := h u hu; omega)
/-- The better one of a parent and a neighbour. -/
def pm (S : List Int) (p w : Int) : Int := if p = -1 ∨ Go.Proofs.YtfdaoepbdolgiaaDoor.val S w < Go.Proofs.YtfdaoepbdolgiaaDoor.val S p then w else p
def pmF (S : List Int) (ws : List Int) : Int := ws.foldl (pm S) (-1)
theorem pm_fold (S : List Int) : ∀ (ws : List Int) (p : Int), 0 ≤ p → (p :: ws).Pairwise (· < ·) →
    ws.foldl (pm S) p ∈ p :: ws ∧ ∀ w ∈ p :: ws, Go.Proofs.YtfdaoepbdolgiaaDoor.val S (ws.foldl (pm S) p) ≤ Go.Proofs.YtfdaoepbdolgiaaDoor.val S w ∧ (Go.Proofs.YtfdaoepbdolgiaaDoor.val S w = Go.Proofs.YtfdaoepbdolgiaaDoor.val S (ws.foldl (pm S) p) → ws.foldl (pm S) p ≤ w)
  | [], p, _, _ => ⟨by simp, fun w hw => by
      obtain rfl : w = p := by simpa using hw
      exact ⟨Int.le_refl _, fun _ => Int.le_refl _⟩⟩
  | w :: ws, p, h0, hP => by
    rw [List.foldl_cons]
    obtain ⟨hp1, hP2⟩ := List.pairwise_cons.1 hP
    obtain ⟨hw1, hP3⟩ := List.pairwise_cons.1 hP2
    have hpw := hp1 w (by simp)
    by_cases hlt : Go.Proofs.YtfdaoepbdolgiaaDoor.val S w < Go.Proofs.YtfdaoepbdolgiaaDoor.val S p
    · have e : pm S p w = w := by unfold pm; rw [if_pos (.inr hlt)]
      rw [e]
      obtain ⟨a, b⟩ := pm_fold S ws w (by omega) hP2
      refine ⟨List.mem_cons_of_mem _ a, fun x hx => ?_⟩
      rcases List.mem_cons.1 hx with rfl | hx
      · have := (b w (by simp)).1
        exact ⟨by omega, fun h => by omega⟩
      · exact b x hx
    · have e : pm S p w = p := by unfold pm; rw [if_neg (by omega)]
      rw [e]
      obtain ⟨a, b⟩ := pm_fold S ws p h0 (List.pairwise_cons.2 ⟨fun x hx => hp1 x (by simp [hx]), hP3⟩)
      refine ⟨?_, fun x hx => ?_⟩
      · rcases List.mem_cons.1 a with h | h
        · rw [h]; simp
        · simp [h]
      · rcases List.mem_cons.1 hx with rfl | hx
        · exact b x (by simp)
        · rcases List.mem_cons.1 hx with rfl | hx
          · have h1 := b p (by simp)
            exact ⟨by omega, fun h => by have := h1.2 (by omega); omega⟩
          · exact b x (by simp [hx])
theorem pmF_spec (S : List Int) {ws : List Int} (h0 : ∀ w ∈ ws, 0 ≤ w) (hP : ws.Pairwise (· < ·)) (hn : ws ≠ []) :
    pmF S ws ∈ ws ∧ ∀ w ∈ ws, Go.Proofs.YtfdaoepbdolgiaaDoor.val S (pmF S ws) ≤ Go.Proofs.YtfdaoepbdolgiaaDoor.val S w ∧ (Go.Proofs.YtfdaoepbdolgiaaDoor.val S w = Go.Proofs.YtfdaoepbdolgiaaDoor.val S (pmF S ws) → pmF S ws ≤ w) := by
  cases ws with
  | nil => exact absurd rfl hn
  | cons w ws =>
    unfold pmF
    rw [List.foldl_cons, show pm S (-1) w = w by unfold pm; rw [if_pos (.inl rfl)]]
    exact pm_fold S ws w (h0 w (by simp)) hP
/-- The parent that the program finds. -/
noncomputable def parI (m : Nat) (es : List E3) (L : List Int) (v : Int) : Int :=
  if Go.Proofs.YtfdaoepbdolgiaaDoor.val L v = v then -1 else pmF (hopsN m (symE es) (Go.Proofs.YtfdaoepbdolgiaaDoor.val L v) m) (bitsR ((nearM m es).getD v.toNat 0))
theorem parI_ok {m : Nat} {es : List E3} {L : List Int} (hm : m ≤ 16) (h : IsL m es L) (hI : Inside m es) : IsPP m es L (tab m (parI m es L)) := by
  refine ⟨tab_len _ _, fun v h0 h1 hv => ?_, fun v h0 h1 hv => ?_⟩
  · rw [tab_val h0 h1]; unfold parI; rw [if_pos hv]
  · rw [tab_val h0 h1]; unfold parI; rw [if_neg hv]
    have hmem : ∀ u : Int, u ∈ bitsR ((nearM m es).getD v.toNat 0) ↔ adj es v u = true := fun u => by rw [nearM_mem hm hI v h0 h1, mem_symE]
    have hS : ∀ u : Int, adj es v u = true → Go.Proofs.YtfdaoepbdolgiaaDoor.val (hopsN m (symE es) (Go.Proofs.YtfdaoepbdolgiaaDoor.val L v) m) u = dst m es L u := fun u hu => by
      have hi := (adj_in hI hu).2
      unfold dst
      rw [h.const hI hi.1 hi.2 (cn_adj hu)]
    obtain ⟨w0, hw0, hd0⟩ := dst_pred h hI h0 h1 hv
    obtain ⟨a, b⟩ := pmF_spec (hopsN m (symE es) (Go.Proofs.YtfdaoepbdolgiaaDoor.val L v) m) (ws := bitsR ((nearM m es).getD v.toNat 0)) (fun w hw => ((adj_in hI ((hmem w).1 hw)).2).1) (bitsR_sorted _) (fun hc => by have := (hmem w0).2 hw0; rw [hc] at this; simp at this)
    generalize pmF (hopsN m (symE es) (Go.Proofs.YtfdaoepbdolgiaaDoor.val L v) m) (bitsR ((nearM m es).getD v.toNat 0)) = r at *
    have ha := (hmem r).1 a
    have h2 := (b w0 ((hmem w0).2 hw0)).1
    rw [hS r ha, hS w0 hw0] at h2
    have h3 := dst_adj h hI h0 h1 ha
    refine ⟨ha, by omega, fun w hw hd => ?_⟩
    have h4 := (b w ((hmem w).2 hw)).2
    rw [hS r ha, hS w hw] at h4
    exact h4 (by omega)
end Go.Proofs.YtfdaoepbdolgiaaDoor.Abs
