/- Hops, as plain data: what the walk over a queue computes. No statement of the seat is proved here. -/
import Derived.Test.YthjnidcmhegoeaaDoorGHopS
set_option linter.unusedSimpArgs false
set_option linter.unusedVariables false
namespace Go.Proofs.YthjnidcmhegoeaaDoor
/-- A neighbour met: it gets a value and stands behind the queue, if it had none. -/
def vis (d : Int) (x : List Int × List Int) (u : Int) : List Int × List Int := if val x.1 u = -1 then (setv x.1 u (d + 1), x.2 ++ [u]) else x
def visS (d : Int) (us : List Int) (x : List Int × List Int) : List Int × List Int := us.foldl (vis d) x
theorem visS_snoc (d : Int) (us : List Int) (u : Int) (x : List Int × List Int) : visS d (us ++ [u]) x = vis d (visS d us x) u := by unfold visS; rw [List.foldl_append]; rfl
def unset (xs : List Int) : Nat := xs.count (-1)
theorem unset_setv {xs : List Int} {u x : Int} (h0 : 0 ≤ u) (h1 : u < xs.length) (hu : val xs u = -1) (hx : x ≠ -1) : unset (setv xs u x) + 1 = unset xs := by
  unfold unset setv
  have hl : u.toNat < xs.length := by omega
  have hg : xs[u.toNat] = -1 := by
    unfold val at hu
    simpa [List.getD_eq_getElem?_getD, hl] using hu
  have hc : 0 < xs.count (-1) := List.count_pos_iff.2 (hg ▸ List.getElem_mem hl)
  rw [List.count_set (by omega)]
  have e1 : (xs[u.toNat] == (-1 : Int)) = true := by rw [hg]; rfl
  have e2 : (x == (-1 : Int)) = false := by simpa using hx
  rw [e1, e2]
  simp only [if_true, Bool.false_eq_true, if_false]
  omega
structure Bf (m : Nat) (es : List E3) (s : Int) (xs q : List Int) (d : Int) (X : E3 → Prop) : Prop where
  len : xs.length = m
  src : val xs s = 0
  wy : ∀ v : Int, 0 ≤ v → v < (m : Int) → val xs v = -1 ∨ ∃ k : Nat, val xs v = k ∧ way es s k v ∧ (k : Int) ≤ d + 1 ∧ k + unset xs ≤ m
  qs : ∀ v ∈ q, (0 ≤ v ∧ v < (m : Int)) ∧ d ≤ val xs v
  srt : q.Pairwise fun a b => val xs a ≤ val xs b
  ed : ∀ e ∈ es, 0 ≤ val xs e.1 → e.1 ∉ q → X e ∨ (0 ≤ val xs e.2.1 ∧ val xs e.2.1 ≤ val xs e.1 + 1)
  pos : 0 ≤ d
theorem Bf.pop {m : Nat} {es : List E3} {s v d : Int} {xs q : List Int} (h : Bf m es s xs (v :: q) d (fun _ => False)) : Bf m es s xs q (val xs v) (fun e => e.1 = v) := by
  have hv := h.qs v (by simp)
  have hp := h.pos
  refine ⟨h.len, h.src, fun u h0 h1 => ?_, fun u hu => ⟨(h.qs u (by simp [hu])).1, ?_⟩, (List.pairwise_cons.1 h.srt).2, fun e he h0 hq => ?_, by omega⟩
  · rcases h.wy u h0 h1 with h2 | ⟨k, h2, h3, h4, h5⟩
    · exact .inl h2
    · exact .inr ⟨k, h2, h3, by omega, h5⟩
  · exact (List.pairwise_cons.1 h.srt).1 u hu
  · by_cases hv' : e.1 = v
    · exact .inl hv'
    · rcases h.ed e he h0 (by simp [hv', hq]) with h1 | h1
      · exact h1.elim
      · exact .inr h1
theorem Bf.vis {m : Nat} {es : List E3} {s v d u : Int} {xs q us : List Int} (hI : Inside m es) (hs : 0 ≤ s ∧ s < (m : Int)) (h : Bf m es s xs q d (fun e => e.1 = v ∧ e.2.1 ∈ u :: us)) (hv : val xs v = d) (hv0 : 0 ≤ v ∧ v < (m : Int)) (he : ∃ e ∈ es, e.1 = v ∧ e.2.1 = u) :
    Bf m es s (vis d (xs, q) u).1 (vis d (xs, q) u).2 d (fun e => e.1 = v ∧ e.2.1 ∈ us) ∧ val (vis d (xs, q) u).1 v = d ∧ unset (vis d (xs, q) u).1 + (vis d (xs, q) u).2.length = unset xs + q.length := by
  obtain ⟨e0, he0, e01, e02⟩ := he
  have hu0 : 0 ≤ u ∧ u < (m : Int) := e02 ▸ (hI e0 he0).2
  have hp := h.pos
  have hlen := h.len
  by_cases hu : val xs u = -1
  · have e : Go.Proofs.YthjnidcmhegoeaaDoor.vis d (xs, q) u = (setv xs u (d + 1), q ++ [u]) := if_pos hu
    rw [e]
    dsimp only
    have huv : u ≠ v := fun hc => by rw [hc, hv] at hu; omega
    have hus : u ≠ s := fun hc => by rw [hc, h.src] at hu; omega
    have huq : u ∉ q := fun hc => by have := (h.qs u hc).2; omega
    have hnq : ∀ w ∈ q, w ≠ u := fun w hw hc => huq (hc ▸ hw)
    have hval : ∀ w : Int, 0 ≤ w → val (setv xs u (d + 1)) w = if w = u then d + 1 else val xs w := fun w hw => val_setv hu0.1 (by rw [hlen]; exact hu0.2) hw
    have hcnt := unset_setv hu0.1 (by rw [hlen]; exact hu0.2) hu (x := d + 1) (by omega)
    have hvv : val (setv xs u (d + 1)) v = d := by rw [hval v hv0.1, if_neg (fun hc => huv hc.symm), hv]
    refine ⟨⟨by rw [setv_len]; exact hlen, by rw [hval s hs.1, if_neg (fun hc => hus hc.symm)]; exact h.src, fun w h0 h1 => ?_, fun w hw => ?_, ?_, fun e he h0 hq => ?_, hp⟩, hvv, ?_⟩
    · rw [hval w h0]
      by_cases hw : w = u
      · rw [if_pos hw]
        rcases h.wy v hv0.1 hv0.2 with h2 | ⟨k, h2, h3, h4, h5⟩
        · omega
        · refine .inr ⟨k + 1, by omega, ?_, by omega, by omega⟩
          rw [hw]
          exact ⟨e0, he0, e02, e01 ▸ h3⟩
      · rw [if_neg hw]
        rcases h.wy w h0 h1 with h2 | ⟨k, h2, h3, h4, h5⟩
        · exact .inl h2
        · exact .inr ⟨k, h2, h3, h4, by omega⟩
    · rcases List.mem_append.1 hw with hw | hw
      · have h2 := h.qs w hw
        refine ⟨h2.1, ?_⟩
        rw [hval w h2.1.1, if_neg (hnq w hw)]
        exact h2.2
      · obtain rfl : w = u := by simpa using hw
        refine ⟨hu0, ?_⟩
        rw [hval w hu0.1, if_pos rfl]
        omega
    · rw [List.pairwise_append]
      refine ⟨?_, List.pairwise_singleton _ _, fun a ha b hb => ?_⟩
      · refine List.Pairwise.imp_of_mem (fun {a b} ha hb hab => ?_) h.srt
        rw [hval a (h.qs a ha).1.1, hval b (h.qs b hb).1.1, if_neg (hnq a ha), if_neg (hnq b hb)]
        exact hab
      · obtain rfl : b = u := by simpa using hb
        have ha2 := h.qs a ha
        rw [hval a ha2.1.1, hval b hu0.1, if_neg (hnq a ha), if_pos rfl]
        rcases h.wy a ha2.1.1 ha2.1.2 with h2 | ⟨k, h2, h3, h4, h5⟩ <;> omega
    · have he1 := (hI e he).1
      have he2 := (hI e he).2
      have hne : e.1 ≠ u := fun hc => hq (by simp [hc])
      rw [hval _ he1.1, if_neg hne] at h0 ⊢
      rw [hval _ he2.1]
      rcases h.ed e he h0 (fun hc => hq (by simp [hc])) with ⟨h1, h2⟩ | h1
      · by_cases hcu : e.2.1 = u
        · rw [if_pos hcu]
          exact .inr ⟨by omega, by rw [h1, hv]; omega⟩
        · rcases List.mem_cons.1 h2 with h2 | h2
          · exact absurd h2 hcu
          · exact .inl ⟨h1, h2⟩
      · have hcu : e.2.1 ≠ u := fun hc => by rw [hc] at h1; omega
        rw [if_neg hcu]
        exact .inr h1
    · rw [List.length_append, List.length_singleton]
      omega
  · have e : Go.Proofs.YthjnidcmhegoeaaDoor.vis d (xs, q) u = (xs, q) := if_neg hu
    rw [e]
    dsimp only
    refine ⟨⟨hlen, h.src, h.wy, h.qs, h.srt, fun e he h0 hq => ?_, hp⟩, hv, rfl⟩
    rcases h.ed e he h0 hq with ⟨h1, h2⟩ | h1
    · rcases List.mem_cons.1 h2 with h2 | h2
      · rcases h.wy u hu0.1 hu0.2 with h3 | ⟨k, h3, h4, h5, h6⟩
        · exact absurd h3 hu
        · rw [h2, h1, hv]
          exact .inr ⟨by omega, by omega⟩
      · exact .inl ⟨h1, h2⟩
    · exact .inr h1
theorem Bf.round {m : Nat} {es : List E3} {s v d : Int} {xs q us : List Int} (hI : Inside m es) (hs : 0 ≤ s ∧ s < (m : Int)) (hv : val xs v = d) (hv0 : 0 ≤ v ∧ v < (m : Int)) (hus : ∀ u : Int, u ∈ us ↔ ∃ e ∈ es, e.1 = v ∧ e.2.1 = u) (h : Bf m es s xs q d (fun e => e.1 = v)) :
    ∀ i, i ≤ us.length → Bf m es s (visS d (us.take i) (xs, q)).1 (visS d (us.take i) (xs, q)).2 d (fun e => e.1 = v ∧ e.2.1 ∈ us.drop i) ∧ val (visS d (us.take i) (xs, q)).1 v = d ∧ unset (visS d (us.take i) (xs, q)).1 + (visS d (us.take i) (xs, q)).2.length = unset xs + q.length
  | 0, _ => by
    refine ⟨⟨h.len, h.src, h.wy, h.qs, h.srt, fun e he h0 hq => ?_, h.pos⟩, hv, rfl⟩
    rcases h.ed e he h0 hq with h1 | h1
    · exact .inl ⟨h1, (hus _).2 ⟨e, he, h1, rfl⟩⟩
    · exact .inr h1
  | i + 1, hi => by
    obtain ⟨h1, h2, h3⟩ := Bf.round hI hs hv hv0 hus h i (by omega)
    have e1 : us.take (i + 1) = us.take i ++ [us[i]] := by rw [List.take_succ_eq_append_getElem (by omega)]
    have e2 : us.drop i = us[i] :: us.drop (i + 1) := List.drop_eq_getElem_cons (by omega)
    rw [e2] at h1
    have hm := (hus us[i]).1 (List.getElem_mem _)
    have := Bf.vis hI hs h1 h2 hv0 hm
    rw [e1, visS_snoc]
    exact ⟨this.1, this.2.1, by rw [this.2.2, h3]⟩
theorem Bf.all {m : Nat} {es : List E3} {s v d : Int} {xs q us : List Int} (hI : Inside m es) (hs : 0 ≤ s ∧ s < (m : Int)) (hus : ∀ u : Int, u ∈ us ↔ ∃ e ∈ es, e.1 = v ∧ e.2.1 = u) (h : Bf m es s xs (v :: q) d (fun _ => False)) :
    Bf m es s (visS (val xs v) us (xs, q)).1 (visS (val xs v) us (xs, q)).2 (val xs v) (fun _ => False) ∧ unset (visS (val xs v) us (xs, q)).1 + (visS (val xs v) us (xs, q)).2.length = unset xs + q.length := by
  obtain ⟨h1, h2, h3⟩ := Bf.round hI hs rfl (h.qs v (by simp)).1 hus h.pop us.length (Nat.le_refl _)
  rw [List.take_length, List.drop_length] at *
  refine ⟨⟨h1.len, h1.src, h1.wy, h1.qs, h1.srt, fun e he h0 hq => ?_, h1.pos⟩, h3⟩
  rcases h1.ed e he h0 hq with ⟨_, h2⟩ | h2
  · simp at h2
  · exact .inr h2
theorem Bf.init {m : Nat} {es : List E3} {s : Int} (hI : Inside m es) (hs : 0 ≤ s ∧ s < (m : Int)) : Bf m es s (hops0 m s) [s] 0 (fun _ => False) ∧ unset (hops0 m s) + 1 = m := by
  have hv : ∀ v : Int, 0 ≤ v → v < (m : Int) → val (hops0 m s) v = if v = s then 0 else -1 := fun v h0 h1 => by
    unfold hops0
    rw [val_setv hs.1 (by simpa using hs.2) h0]
    split
    · rfl
    · unfold val
      rw [List.getD_eq_getElem?_getD, List.getElem?_replicate, if_pos (by omega)]
      rfl
  have hr : val (List.replicate m (-1)) s = -1 := by
    unfold val
    rw [List.getD_eq_getElem?_getD, List.getElem?_replicate, if_pos (by omega)]
    rfl
  have hc : unset (hops0 m s) + 1 = m := by
    have := unset_setv (xs := List.replicate m (-1)) (u := s) (x := 0) hs.1 (by simpa using hs.2) hr (by omega)
    unfold hops0
    rw [this]
    unfold unset
    simp
  refine ⟨⟨by simp [hops0, setv_len], by rw [hv s hs.1 hs.2, if_pos rfl], fun v h0 h1 => ?_, fun v hv' => ?_, List.pairwise_singleton _ _, fun e he h0 hq => ?_, by omega⟩, hc⟩
  · rw [hv v h0 h1]
    by_cases h : v = s
    · exact .inr ⟨0, by rw [if_pos h]; rfl, h, by omega, by omega⟩
    · exact .inl (if_neg h)
  · obtain rfl : v = s := by simpa using hv'
    exact ⟨hs, by rw [hv v hs.1 hs.2, if_pos rfl]; omega⟩
  · have he1 := (hI e he).1
    have hne : e.1 ≠ s := fun hc => hq (by simp [hc])
    rw [hv _ he1.1 he1.2, if_neg hne] at h0
    omega
theorem Bf.done {m : Nat} {es : List E3} {s d : Int} {xs : List Int} (hI : Inside m es) (hs : 0 ≤ s ∧ s < (m : Int)) (h : Bf m es s xs [] d (fun _ => False)) : IsH m es s xs := by
  have hw : ∀ (k : Nat) (v : Int), way es s k v → 0 ≤ val xs v ∧ val xs v ≤ k := by
    intro k
    induction k with
    | zero => intro v hv; have hv : v = s := hv; rw [hv, h.src]; omega
    | succ k ih =>
      rintro v ⟨e, he, rfl, hw⟩
      have h1 := ih _ hw
      rcases h.ed e he h1.1 (by simp) with h2 | h2
      · exact h2.elim
      · omega
  refine ⟨h.len, fun v h0 h1 k hk => ?_, fun v h0 h1 hk => ?_⟩
  · have h2 := hw k v hk.1
    rcases h.wy v h0 h1 with h3 | ⟨j, h3, h4, _, _⟩
    · omega
    · have : ¬ j < k := fun hj => hk.2 j hj h4
      omega
  · rcases h.wy v h0 h1 with h3 | ⟨j, h3, h4, _, _⟩
    · exact h3
    · exact absurd h4 (hk j)
end Go.Proofs.YthjnidcmhegoeaaDoor
