/- Regions that draw their order and end in operations of effect that wait for all others. No statement of the seat is proved here. -/
import Derived.Test.YtknbeakmnkjkhaaAbsC
set_option linter.unusedSimpArgs false
set_option linter.unusedVariables false
namespace Go.Proofs.Ytknbeakmnkjkhaa.Abs
open Go.RowKit
open R (val row ref)

/-- What an operation that is listed waits for is listed. -/
def DC (ops : Array Oper) (listed : Array Bool) : Prop := ∀ j o, ops[j]? = some o → listed.getD j false = true → ∀ x ∈ o.after, Region.binds .any x = true → listed.getD x.on false = true
theorem DC.set {ops : Array Oper} {listed : Array Bool} {j : Nat} (h : DC ops listed) (hj : j ∈ Region.ready .any ops listed) : DC ops (listed.setIfInBounds j true) := by
  intro i o hi hl x hx hb
  by_cases hij : j = i
  · subst hij
    obtain ⟨_, o', ho', hall⟩ := mem_ready.1 hj
    rw [hi] at ho'; injection ho' with ho'; subst ho'
    exact getD_set_true (hall x hx hb)
  · rw [getD_set_ne false hij] at hl
    exact getD_set_true (h i o hi hl x hx hb)
/-- Operation k waits, at last, for all before it. -/
def sinkB (ops : Array Oper) (k : Nat) : Bool := (List.range k).all fun i => (List.range (k + 1)).any fun j => decide (i < j) && (match ops[j]? with | some o => o.after.any (fun x => Region.binds .any x && x.on == i) | none => false)
theorem sink_all {ops : Array Oper} {listed : Array Bool} {k : Nat} (hs : sinkB ops k = true) (hd : DC ops listed) (hk : k ∈ Region.ready .any ops listed) : ∀ n i, k - i ≤ n → i < k → listed.getD i false = true
  | 0, i, h0, h1 => absurd h0 (by omega)
  | n + 1, i, h0, h1 => by
    have hs' := hs
    unfold sinkB at hs'
    rw [List.all_eq_true] at hs'
    have h2 := hs' i (by simpa using h1)
    rw [List.any_eq_true] at h2
    obtain ⟨j, hj, h3⟩ := h2
    simp only [List.mem_range, Bool.and_eq_true, decide_eq_true_eq] at hj h3
    obtain ⟨hij, h4⟩ := h3
    cases ho : ops[j]? with
    | none => simp [ho] at h4
    | some o =>
      simp only [ho] at h4
      obtain ⟨x, hx, h5⟩ := Array.any_eq_true'.1 h4
      simp only [Bool.and_eq_true, beq_iff_eq] at h5
      obtain ⟨hb, rfl⟩ := h5
      by_cases hjk : j = k
      · subst hjk
        obtain ⟨_, o', ho', hall⟩ := mem_ready.1 hk
        rw [ho] at ho'; injection ho' with ho'; subst ho'
        exact hall x hx hb
      · exact hd j o ho (sink_all hs hd hk n j (by omega) (by omega)) x hx hb
def tailB (ops : Array Oper) : Nat → Nat → Array Bool → Bool
  | 0, _, listed => (Region.ready .any ops listed).isEmpty
  | fuel + 1, k, listed => (Region.ready .any ops listed == [k]) && tailB ops fuel (k + 1) (listed.setIfInBounds k true)
def lexT (ops : Array Oper) (m : Nat) : Nat → Nat → Array Bool → Bool
  | 0, k, listed => tailB ops m k listed
  | fuel + 1, k, listed => (Region.ready .any ops listed).contains k && Region.free .any ops listed k && lexT ops m fuel (k + 1) (listed.setIfInBounds k true)
def AnyK (P : Program) (ops : Array Oper) (n : Nat) (H : Nat → Option Ob) (K : Array Bool → (Nat → D) → Prop) : Nat → Array Bool → (Nat → D) → Prop
  | 0, listed, e => K listed e
  | fuel + 1, listed, e => Region.ready .any ops listed ≠ [] ∧ ∀ i ∈ Region.ready .any ops listed, ∃ o e', ops[i]? = some o ∧ QS P ops n H o e e' ∧ AnyK P ops n H K fuel (listed.setIfInBounds i true) e'
section
variable {P : Program} {ops : Array Oper} {n : Nat} {H : Nat → Option Ob}
theorem AnyK.wp {w0 : World} {Q : Exit → St → Prop} {m : Nat} : ∀ (fuel : Nat) (listed : Array Bool) (e : Nat → D) (a : Act) (w : World), Sim w0 ⟨n, e, H⟩ a w → AnyK P ops n H (fun listed e => ∀ a w, Sim w0 ⟨n, e, H⟩ a w → wpAny P .any ops (Post w0 Q) m listed a w) fuel listed e → wpAny P .any ops (Post w0 Q) (m + fuel) listed a w
  | 0, listed, e, a, w, hs, h => h a w hs
  | fuel + 1, listed, e, a, w, hs, h => by
    refine ⟨fun h0 => absurd h0 h.1, fun i hi => ?_⟩
    obtain ⟨o, e', ho, ⟨g, hg, hd, d, l1, l2, rfl⟩, hnext⟩ := h.2 i hi
    have hput : (⟨n, (St.put ⟨n, e, H⟩ o.dst d).env, H⟩ : St) = St.put ⟨n, e, H⟩ o.dst d := by cases o.dst <;> rfl
    unfold wpOp
    simp only [ho]
    rw [hg.wanted hs]
    cases g with
    | true =>
      simp only [if_true]
      refine .inl ?_
      obtain ⟨ι, own, hs'⟩ := hs
      refine l1 rfl w0 _ a w ι own rfl (fun _ _ => rfl) hs' _ _ (fun v w' hb hv => ?_)
      refine AnyK.wp fuel _ _ _ _ ?_ hnext
      rw [hput]
      exact ⟨ι, own, hs'.quiet hb hv (dstOk_spec hd)⟩
    | false =>
      simp only [Bool.false_eq_true, if_false]
      refine AnyK.wp fuel _ _ _ _ ?_ hnext
      rw [hput, l2 rfl]
      exact hs.skip o.dst (dstOk_spec hd)
theorem AnyK.first {K : Array Bool → (Nat → D) → Prop} {i k : Nat} {oi : Oper} (hi : ops[i]? = some oi) (hik : i < k) (hsk : sinkB ops k = true) (hK : ∀ listed e, K listed e → Region.ready .any ops listed = [k]) :
    ∀ (fuel : Nat) (listed : Array Bool) (e e1 : Nat → D), DC ops listed →
      (∀ j oj, ops[j]? = some oj → j ≠ i → listed.getD j true = false → (∀ x ∈ oj.after, Region.binds .any x = true → x.on ≠ i) → oi.apart ops oj = true) →
      i ∈ Region.ready .any ops listed → QS P ops n H oi e e1 → AnyK P ops n H K fuel (listed.setIfInBounds i true) e1 → AnyK P ops n H K (fuel + 1) listed e := by
  intro fuel
  induction fuel with
  | zero =>
    intro listed e e1 hd _ hr hy h
    refine ⟨fun h0 => (by rw [h0] at hr; cases hr), fun j hj => ?_⟩
    by_cases hji : j = i
    · subst hji; exact ⟨oi, e1, hi, hy, h⟩
    · have h1 := ready_mono hj hji
      rw [hK _ _ h, List.mem_singleton] at h1
      subst h1
      have h2 := sink_all hsk hd hj j i (by omega) hik
      have h3 := (mem_ready.1 hr).1
      rcases Nat.lt_or_ge i listed.size with h' | h'
      · simp [h'] at h2 h3; rw [h2] at h3; cases h3
      · simp [Array.getElem?_eq_none h'] at h2
  | succ fuel ih =>
    intro listed e e1 hd hfree hr hy h
    refine ⟨fun h0 => (by rw [h0] at hr; cases hr), fun j hj => ?_⟩
    by_cases hji : j = i
    · subst hji; exact ⟨oi, e1, hi, hy, h⟩
    · obtain ⟨oj, e2, hoj, hq, hn⟩ := h.2 j (ready_mono hj hji)
      obtain ⟨hjun, oj', hoj', hall⟩ := mem_ready.1 hj
      have hnot : ∀ x ∈ oj.after, Region.binds .any x = true → x.on ≠ i := fun x hx hb heq => by
        rw [hoj] at hoj'; injection hoj' with hoj'; subst hoj'
        have h1 := hall x hx hb
        have h0 := (mem_ready.1 hr).1
        rw [heq] at h1
        rcases Nat.lt_or_ge i listed.size with h' | h'
        · simp [h'] at h0 h1; rw [h0] at h1; cases h1
        · simp [Array.getElem?_eq_none h'] at h1
      obtain ⟨e1', q1, q2⟩ := QS.swap (hfree j oj hoj hji hjun hnot) hy hq
      have hfree' : ∀ k ok, ops[k]? = some ok → k ≠ i → (listed.setIfInBounds j true).getD k true = false →
          (∀ x ∈ ok.after, Region.binds .any x = true → x.on ≠ i) → oi.apart ops ok = true := fun k ok hk hki hun hno => by
        refine hfree k ok hk hki ?_ hno
        by_cases hjk : j = k
        · subst hjk; exact hjun
        · rw [getD_set_ne true hjk] at hun; exact hun
      refine ⟨oj, e1', hoj, q1, ih (listed.setIfInBounds j true) e1' e2 (hd.set hj) hfree' (ready_mono hr (Ne.symm hji)) q2 ?_⟩
      rw [Array.setIfInBounds_comm _ _ hji]
      exact hn
theorem AnyK.lex {C : St → Prop} {m k0 : Nat} (hsk : sinkB ops k0 = true) : ∀ (l : List Oper) (k : Nat) (listed : Array Bool) (e : Nat → D), DC ops listed → k + l.length = k0 → (∀ j, j < l.length → l[j]? = ops[k + j]?) →
    lexT ops (m + 1) l.length k listed = true → W P true ops l ⟨n, e, H⟩ (fun s => s.n = n → s.heap = H → C s) → AnyK P ops n H (fun listed e => tailB ops (m + 1) k0 listed = true ∧ C ⟨n, e, H⟩) l.length listed e
  | [], k, _, _, _, hk, _, hB, h => by
    have : k = k0 := by simpa using hk
    subst this
    exact ⟨by simpa [lexT] using hB, h rfl rfl⟩
  | o :: l, k, listed, e, hd, hk, hl, hB, h => by
    have h0 : ops[k]? = some o := by simpa using (hl 0 (by simp)).symm
    simp only [List.length_cons, lexT, Bool.and_eq_true] at hB
    obtain ⟨⟨hr, hf⟩, hB'⟩ := hB
    have hr : k ∈ Region.ready .any ops listed := by simpa using hr
    obtain ⟨g, hg, h1, h2⟩ := h
    have hput : ∀ d, (⟨n, (St.put ⟨n, e, H⟩ o.dst d).env, H⟩ : St) = St.put ⟨n, e, H⟩ o.dst d := fun d => by cases o.dst <;> rfl
    have key : ∃ d, QS P ops n H o e (St.put ⟨n, e, H⟩ o.dst d).env ∧ W P true ops l (St.put ⟨n, e, H⟩ o.dst d) (fun s => s.n = n → s.heap = H → C s) := by
      cases g with
      | true =>
        obtain ⟨s', ⟨d, hd, hL, rfl⟩, hW⟩ := h1 rfl
        exact ⟨d, ⟨true, hg, hd, d, fun _ => hL, (fun h => by cases h), rfl⟩, hW⟩
      | false =>
        obtain ⟨hd, hW⟩ := h2 rfl
        exact ⟨.tup true [], ⟨false, hg, hd, .tup true [], (fun h => by cases h), fun _ => rfl, rfl⟩, hW⟩
    obtain ⟨d, hq, hW⟩ := key
    rw [← hput] at hW
    rw [List.length_cons] at hk
    exact AnyK.first h0 (by omega) hsk (fun listed e h => by
        have := h.1
        simp only [tailB, Bool.and_eq_true, beq_iff_eq] at this
        exact this.1) l.length listed e _ hd (Region.free_spec h0 hf) hr hq
      (AnyK.lex hsk l (k + 1) _ _ (hd.set hr) (by omega) (fun j hj => by have := hl (j + 1) (by simp; omega); simpa [Nat.add_assoc, Nat.add_comm 1 j] using this) hB' hW)
theorem tail_wp {w0 : World} {Q : Exit → St → Prop} : ∀ (l : List Oper) (k : Nat) (listed : Array Bool) (s : St), (∀ j, l[j]? = ops[k + j]?) → tailB ops l.length k listed = true → W P false ops l s (fun s' => Q .normal s') → ∀ a w, Sim w0 s a w → wpAny P .any ops (Post w0 Q) l.length listed a w
  | [], k, listed, s, _, hB, h, a, w, hs => ⟨by simpa [tailB] using hB, s, h, hs⟩
  | o :: l, k, listed, s, hl, hB, h, a, w, hs => by
    have h0 : ops[k]? = some o := by simpa using (hl 0).symm
    simp only [List.length_cons, tailB, Bool.and_eq_true, beq_iff_eq] at hB
    obtain ⟨hr, hB'⟩ := hB
    refine ⟨fun h1 => (by rw [hr] at h1; cases h1), fun i hi => ?_⟩
    rw [hr, List.mem_singleton] at hi
    subst hi
    have hl' : ∀ j, l[j]? = ops[i + 1 + j]? := fun j => by have := hl (j + 1); simpa [Nat.add_assoc, Nat.add_comm 1 j] using this
    obtain ⟨g, hg, h1, h2⟩ := h
    unfold wpOp
    simp only [h0]
    rw [hg.wanted hs]
    cases g with
    | true =>
      obtain ⟨s', hst, hW⟩ := h1 rfl
      simp only [if_true]
      exact .inl (hst w0 a w hs _ _ (fun a' w' hs' => tail_wp l (i + 1) _ s' hl' hB' hW a' w' hs'))
    | false =>
      simp only [Bool.false_eq_true, if_false]
      exact tail_wp l (i + 1) _ _ hl' hB' (h2 rfl).2 _ _ (hs.skip o.dst (dstOk_spec (h2 rfl).1))
end
def tailOk (l : List Oper) (k : Nat) : Bool := decide (k < l.length) && sinkB l.toArray k && lexT l.toArray (l.length - k) k 0 (Array.replicate l.length false)
theorem aw_region_tail {P : Program} {s : St} {Q : Exit → St → Prop} {id : Nat} {l : List Oper} (k : Nat) (hm : P.follows .mixedOrders = true) (hB : tailOk l k = true)
    (h : W P true l.toArray (l.take k) s (fun s' => W P false l.toArray (l.drop k) s' (fun s' => Q .normal s'))) : AW P (.region id l.toArray true) s Q := fun w0 a w hs => by
  unfold tailOk at hB
  simp only [Bool.and_eq_true, decide_eq_true_eq] at hB
  obtain ⟨⟨hk, hsk⟩, hB⟩ := hB
  obtain ⟨m, hm'⟩ : ∃ m, l.length - k = m + 1 := ⟨l.length - k - 1, by omega⟩
  rw [hm'] at hB
  refine wp_region_any hm ?_
  have hlen : (l.take k).length = k := by rw [List.length_take]; omega
  have hd0 : DC l.toArray (Array.replicate l.length false) := fun j o hj hl => by
    rw [Array.getD_eq_getD_getElem?] at hl
    rw [Array.getElem?_replicate] at hl
    split at hl <;> simp at hl
  have key := AnyK.lex (P := P) (n := s.n) (H := s.heap) (m := m) (C := fun s' => W P false l.toArray (l.drop k) s' (fun s' => Q .normal s')) hsk (l.take k) 0 (Array.replicate l.length false) s.env hd0 (by omega)
    (fun j hj => by rw [hlen] at hj; simp [List.getElem?_take, hj]) (by rw [hlen]; exact hB) (W.mono (fun s' h _ _ => h) h)
  have hmono : ∀ (fuel : Nat) (listed : Array Bool) (e : Nat → D), AnyK P l.toArray s.n s.heap (fun listed e => tailB l.toArray (m + 1) k listed = true ∧ W P false l.toArray (l.drop k) ⟨s.n, e, s.heap⟩ (fun s' => Q .normal s')) fuel listed e →
      AnyK P l.toArray s.n s.heap (fun listed e => ∀ a w, Sim w0 ⟨s.n, e, s.heap⟩ a w → wpAny P .any l.toArray (Post w0 Q) (m + 1) listed a w) fuel listed e := by
    intro fuel
    induction fuel with
    | zero =>
      intro listed e h a w hs
      have hdl : (l.drop k).length = m + 1 := by rw [List.length_drop]; omega
      have := tail_wp (P := P) (w0 := w0) (Q := Q) (l.drop k) k listed _ (fun j => by simp [List.getElem?_drop]) (by rw [hdl]; exact h.1) h.2 a w hs
      rw [hdl] at this
      exact this
    | succ fuel ih =>
      intro listed e h
      exact ⟨h.1, fun i hi => by obtain ⟨o, e', h1, h2, h3⟩ := h.2 i hi; exact ⟨o, e', h1, h2, ih _ _ h3⟩⟩
  have := AnyK.wp (P := P) (w0 := w0) (Q := Q) (m := m + 1) k (Array.replicate l.length false) s.env _ _ hs.drew (hmono _ _ _ (by rw [hlen] at key; exact key))
  have hsz : l.toArray.size = m + 1 + k := by simp; omega
  rw [hsz]
  have hsz' : l.length = m + 1 + k := by omega
  rw [hsz'] at this
  simpa using this
end Go.Proofs.Ytknbeakmnkjkhaa.Abs
