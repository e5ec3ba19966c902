/- Regions (of either kind), blocks, loops and whole calls, by states. No statement of the seat is proved here. -/
import Derived.Test.YtknbeakmnkjkhaaAbsE
set_option linter.unusedSimpArgs false
set_option linter.unusedVariables false
namespace Go.Proofs.Ytknbeakmnkjkhaa.Abs
open Go.RowKit
open R (val row ref)

/-- One operation from state to state; q: only such as merely yield a value. -/
def Stp (P : Program) : Bool → Oper → St → St → Prop
  | false, o, s, s' => EOp P o s s'
  | true, o, s, s' => ∃ d, dstOk s.n o = true ∧ Loc P s.heap s.ev o d ∧ s' = s.put o.dst d

/-- Is the operation carried out? -/
def Grd (ops : Array Oper) (o : Oper) (s : St) (g : Bool) : Prop :=
  match o.guard with
  | none => g = true
  | some (j, want) => ∃ t m, (ops[j]?).bind (·.dst) = some t ∧ ((∃ b, s.env t = .one (.r m (bool b)) ∧ g = (b == want)) ∨ s.env t = .tup m [] ∧ g = false)

def W (P : Program) (q : Bool) (ops : Array Oper) : List Oper → St → (St → Prop) → Prop
  | [], s, K => K s
  | o :: rest, s, K => ∃ g, Grd ops o s g ∧ (g = true → ∃ s', Stp P q o s s' ∧ W P q ops rest s' K) ∧ (g = false → dstOk s.n o = true ∧ W P q ops rest (s.put o.dst (.tup true [])) K)

theorem Grd.wanted {ops : Array Oper} {o : Oper} {w0 : World} {s : St} {g : Bool} {a : Act} {w : World} (h : Grd ops o s g) (hs : Sim w0 s a w) : Region.wanted o (yielded ops a.tmps) = g := by
  obtain ⟨ι, own, hs⟩ := hs
  unfold Grd at h
  unfold Region.wanted
  cases hg : o.guard with
  | none => simp [hg] at h ⊢; exact h
  | some p =>
    obtain ⟨j, want⟩ := p
    simp only [hg] at h ⊢
    obtain ⟨t, m, h1, ⟨b, h2, rfl⟩ | ⟨h2, rfl⟩⟩ := h
    case inr =>
      have h3 := hs.env t
      rw [h2] at h3
      obtain ⟨vs, h4, h5, _⟩ := h3
      unfold yielded
      rw [h1]
      simp only [Option.bind_some]
      have h6 : ∀ b, a.tmps[t]? ≠ some (.bool b) := fun b hb => by
        rw [Array.getD_eq_getD_getElem?, hb] at h4
        cases h4
      cases ht : a.tmps[t]? with
      | none => simp
      | some v =>
        cases v with
        | bool b => exact absurd ht (h6 b)
        | _ => simp
    have h3 := hs.env t
    rw [h2] at h3
    have h4 : a.tmps.getD t undef = .bool b := h3.1
    have h5 : a.tmps[t]? = some (.bool b) := by
      rcases Nat.lt_or_ge t a.tmps.size with hlt | hge
      · rw [Array.getD_eq_getD_getElem?, Array.getElem?_eq_getElem hlt] at h4
        rw [Array.getElem?_eq_getElem hlt]
        simpa using h4
      · rw [Array.getD_eq_getD_getElem?, Array.getElem?_eq_none hge] at h4
        cases h4
    unfold yielded
    rw [h1]
    simp only [Option.bind_some, h5]
    cases b <;> cases want <;> rfl

/-- A slot of which nothing is said any more. -/
theorem Sim.skip {w0 : World} {s : St} {a : Act} {w : World} (hs : Sim w0 s a w) (dst : Option Nat) (ht : ∀ t, dst = some t → t < s.n) : Sim w0 (s.put dst (.tup true [])) (a.put dst undef) w := by
  obtain ⟨ι, own, hs⟩ := hs
  exact ⟨ι, own, hs.quiet (Below.refl _ _) ⟨[], rfl, rfl, fun j x hj => by simp at hj⟩ ht⟩

theorem dstOk_spec {n : Nat} {o : Oper} (h : dstOk n o = true) : ∀ t, o.dst = some t → t < n := by
  intro t ht
  simpa [dstOk, ht] using h

/-- What is asked behind the code: in one of these states. -/
def Post (w0 : World) (Q : Exit → St → Prop) : Exit → Act → World → Prop := fun e a w => ∃ s, Q e s ∧ Sim w0 s a w

theorem wpList_of_W {P : Program} {ops : Array Oper} {w0 : World} {Q : Exit → St → Prop} : ∀ (l : List Oper) (s : St), W P false ops l s (fun s' => Q .normal s') → ∀ a w, Sim w0 s a w → wpList P ops (Post w0 Q) l a w
  | [], s, h, a, w, hs => wpList_nil ⟨s, h, hs⟩
  | o :: rest, s, h, a, w, hs => by
    obtain ⟨g, hg, h1, h2⟩ := h
    refine wpList_step fun K hK => ?_
    rw [hg.wanted hs]
    cases g with
    | true =>
      obtain ⟨s', hst, hW⟩ := h1 rfl
      simp only [if_true]
      exact hst w0 a w hs K _ (fun a' w' hs' => hK _ _ (wpList_of_W rest s' hW a' w' hs'))
    | false =>
      simp only [Bool.false_eq_true, if_false]
      exact hK _ _ (wpList_of_W rest _ (h2 rfl).2 _ _ (hs.skip o.dst (dstOk_spec (h2 rfl).1)))

theorem W.mono {P : Program} {q : Bool} {ops : Array Oper} {K K' : St → Prop} (hK : ∀ s, K s → K' s) : ∀ {l : List Oper} {s : St}, W P q ops l s K → W P q ops l s K'
  | [], _, h => hK _ h
  | _ :: _, _, ⟨g, hg, h1, h2⟩ => ⟨g, hg, fun e => let ⟨s', hs, hW⟩ := h1 e; ⟨s', hs, hW.mono hK⟩, fun e => ⟨(h2 e).1, (h2 e).2.mono hK⟩⟩

/-! ### regions that draw their order -/
theorem Loc.congr {P : Program} {H : Nat → Option Ob} {ev ev' : Operand → D} {o : Oper} {d : D} (h : Loc P H ev o d) (he : ∀ x ∈ o.op.operands, ev x = ev' x) : Loc P H ev' o d :=
  fun w0 s a w ι own hH hx => h w0 s a w ι own hH (fun x hx' => (hx x hx').trans (he x hx').symm)

/-- One operation of such a region, by what the slots hold. -/
def QS (P : Program) (ops : Array Oper) (n : Nat) (H : Nat → Option Ob) (o : Oper) (e e' : Nat → D) : Prop :=
  ∃ g, Grd ops o ⟨n, e, H⟩ g ∧ dstOk n o = true ∧ ∃ d, (g = true → Loc P H (St.ev ⟨n, e, H⟩) o d) ∧ (g = false → d = .tup true []) ∧ e' = (St.put ⟨n, e, H⟩ o.dst d).env

theorem put_env_ne {s : St} {dst : Option Nat} {d : D} {t : Nat} (h : dst ≠ some t) : (s.put dst d).env t = s.env t := by
  cases dst with
  | none => rfl
  | some u => exact upd_ne _ _ (fun e => h (by rw [e]))

theorem Grd.put {ops : Array Oper} {o : Oper} {n : Nat} {e : Nat → D} {H : Nat → Option Ob} {g : Bool} {dst : Option Nat} {d : D} (h : ∀ t, dst = some t → t ∉ o.looksAt ops) : Grd ops o (St.put ⟨n, e, H⟩ dst d) g ↔ Grd ops o ⟨n, e, H⟩ g := by
  unfold Grd
  cases hg : o.guard with
  | none => rfl
  | some p =>
    obtain ⟨j, want⟩ := p
    constructor
    all_goals
      rintro ⟨t, m, h1, h2⟩
      refine ⟨t, m, h1, ?_⟩
    · rw [put_env_ne (fun hd => h t hd (by simp [Oper.looksAt, hg, h1]))] at h2
      exact h2
    · rw [put_env_ne (fun hd => h t hd (by simp [Oper.looksAt, hg, h1]))]
      exact h2
theorem ev_put {ops : Array Oper} {o : Oper} {s : St} {dst : Option Nat} {d : D} (h : ∀ t, dst = some t → t ∉ o.looksAt ops) : ∀ x ∈ o.op.operands, (s.put dst d).ev x = s.ev x := by
  intro x hx
  cases x with
  | tmp t =>
    refine put_env_ne (fun hd => h t hd ?_)
    simp only [Oper.looksAt, List.mem_append, List.mem_filterMap]
    exact .inl ⟨.tmp t, by simpa using hx, rfl⟩
  | const v => rfl
  | func f => rfl
  | global g => rfl

theorem QS.swap {P : Program} {ops : Array Oper} {n : Nat} {H : Nat → Option Ob} {oi oj : Oper} {e e1 e2 : Nat → D} (hap : oi.apart ops oj = true) (hi : QS P ops n H oi e e1) (hj : QS P ops n H oj e1 e2) : ∃ e1', QS P ops n H oj e e1' ∧ QS P ops n H oi e1' e2 := by
  obtain ⟨a1, a2, a3⟩ := Oper.apart_spec hap
  obtain ⟨gi, hgi, hdi, di, li1, li2, rfl⟩ := hi
  obtain ⟨gj, hgj, hdj, dj, lj1, lj2, rfl⟩ := hj
  have hput : ∀ (e : Nat → D) (dst : Option Nat) (d : D), (⟨n, (St.put ⟨n, e, H⟩ dst d).env, H⟩ : St) = St.put ⟨n, e, H⟩ dst d := fun e dst d => by cases dst <;> rfl
  rw [hput] at hgj lj1 ⊢
  refine ⟨(St.put ⟨n, e, H⟩ oj.dst dj).env, ⟨gj, (Grd.put a1).1 hgj, hdj, dj, fun h => (lj1 h).congr (fun x hx => ev_put a1 x hx), lj2, rfl⟩, ?_⟩
  refine ⟨gi, ?_, hdi, di, fun h => ?_, li2, ?_⟩
  · rw [hput]; exact (Grd.put a3).2 hgi
  · rw [hput]; exact (li1 h).congr (fun x hx => (ev_put a3 x hx).symm)
  · rw [hput]
    cases hi : oi.dst with
    | none => rfl
    | some t =>
      cases hj : oj.dst with
      | none => rfl
      | some u =>
        have hne : t ≠ u := fun e => a2 t hi (by rw [hj, e])
        funext v
        simp only [St.put, upd]
        by_cases h1 : v = u
        · subst h1; rw [if_pos rfl, if_neg (Ne.symm hne), if_pos rfl]
        · rw [if_neg h1]; by_cases h2 : v = t
          · rw [if_pos h2, if_pos h2]
          · rw [if_neg h2, if_neg h2, if_neg h1]

/-- Whatever order is picked from here on. -/
def AnyQ (P : Program) (ops : Array Oper) (n : Nat) (H : Nat → Option Ob) (K : (Nat → D) → Prop) : Nat → Array Bool → (Nat → D) → Prop
  | 0, listed, e => Region.ready .any ops listed = [] ∧ K e
  | fuel + 1, listed, e => (Region.ready .any ops listed = [] → K e) ∧ ∀ i ∈ Region.ready .any ops listed, ∃ o e', ops[i]? = some o ∧ QS P ops n H o e e' ∧ AnyQ P ops n H K fuel (listed.setIfInBounds i true) e'

theorem AnyQ.wp {P : Program} {ops : Array Oper} {n : Nat} {H : Nat → Option Ob} {w0 : World} {Q : Exit → St → Prop} : ∀ (fuel : Nat) (listed : Array Bool) (e : Nat → D) (a : Act) (w : World), Sim w0 ⟨n, e, H⟩ a w → AnyQ P ops n H (fun e => Q .normal ⟨n, e, H⟩) fuel listed e → wpAny P .any ops (Post w0 Q) fuel listed a w
  | 0, listed, e, a, w, hs, h => ⟨h.1, _, h.2, hs⟩
  | fuel + 1, listed, e, a, w, hs, h => by
    refine ⟨fun h0 => ⟨_, h.1 h0, hs⟩, fun i hi => ?_⟩
    obtain ⟨o, e', ho, ⟨g, hg, hd, d, l1, l2, rfl⟩, hnext⟩ := h.2 i hi
    have hput : (⟨n, (St.put ⟨n, e, H⟩ o.dst d).env, H⟩ : St) = St.put ⟨n, e, H⟩ o.dst d := by cases o.dst <;> rfl
    unfold wpOp
    simp only [ho]
    rw [hg.wanted hs]
    cases g with
    | true =>
      simp only [if_true]
      refine .inl ?_
      obtain ⟨ι, own, hs'⟩ := hs
      refine l1 rfl w0 _ a w ι own rfl (fun _ _ => rfl) hs' _ _ (fun v w' hb hv => ?_)
      refine AnyQ.wp fuel _ _ _ _ ?_ hnext
      rw [hput]
      exact ⟨ι, own, hs'.quiet hb hv (dstOk_spec hd)⟩
    | false =>
      simp only [Bool.false_eq_true, if_false]
      refine AnyQ.wp fuel _ _ _ _ ?_ hnext
      rw [hput, l2 rfl]
      exact hs.skip o.dst (dstOk_spec hd)

theorem AnyQ.first {P : Program} {ops : Array Oper} {n : Nat} {H : Nat → Option Ob} {K : (Nat → D) → Prop} {i : Nat} {oi : Oper} (hi : ops[i]? = some oi) :
    ∀ (fuel : Nat) (listed : Array Bool) (e e1 : Nat → D),
      (∀ j oj, ops[j]? = some oj → j ≠ i → listed.getD j true = false → (∀ x ∈ oj.after, Region.binds .any x = true → x.on ≠ i) → oi.apart ops oj = true) →
      i ∈ Region.ready .any ops listed → QS P ops n H oi e e1 → AnyQ P ops n H K fuel (listed.setIfInBounds i true) e1 → AnyQ P ops n H K (fuel + 1) listed e := by
  intro fuel
  induction fuel with
  | zero =>
    intro listed e e1 _ hr hy h
    refine ⟨fun h0 => (by rw [h0] at hr; cases hr), fun j hj => ?_⟩
    by_cases hji : j = i
    · subst hji; exact ⟨oi, e1, hi, hy, h⟩
    · have := ready_mono hj hji
      rw [h.1] at this
      cases this
  | succ fuel ih =>
    intro listed e e1 hfree hr hy h
    refine ⟨fun h0 => (by rw [h0] at hr; cases hr), fun j hj => ?_⟩
    by_cases hji : j = i
    · subst hji; exact ⟨oi, e1, hi, hy, h⟩
    · obtain ⟨oj, e2, hoj, hq, hn⟩ := h.2 j (ready_mono hj hji)
      obtain ⟨hjun, oj', hoj', hall⟩ := mem_ready.1 hj
      have hnot : ∀ x ∈ oj.after, Region.binds .any x = true → x.on ≠ i := fun x hx hb heq => by
        rw [hoj] at hoj'; injection hoj' with hoj'; subst hoj'
        have h1 := hall x hx hb
        have h0 := (mem_ready.1 hr).1
        rw [heq] at h1
        rcases Nat.lt_or_ge i listed.size with h' | h'
        · simp [h'] at h0 h1; rw [h0] at h1; cases h1
        · simp [Array.getElem?_eq_none h'] at h1
      obtain ⟨e1', q1, q2⟩ := QS.swap (hfree j oj hoj hji hjun hnot) hy hq
      have hfree' : ∀ k ok, ops[k]? = some ok → k ≠ i → (listed.setIfInBounds j true).getD k true = false →
          (∀ x ∈ ok.after, Region.binds .any x = true → x.on ≠ i) → oi.apart ops ok = true := fun k ok hk hki hun hno => by
        refine hfree k ok hk hki ?_ hno
        by_cases hjk : j = k
        · subst hjk; exact hjun
        · rw [getD_set_ne true hjk] at hun; exact hun
      refine ⟨oj, e1', hoj, q1, ih (listed.setIfInBounds j true) e1' e2 hfree' (ready_mono hr (Ne.symm hji)) q2 ?_⟩
      rw [Array.setIfInBounds_comm _ _ hji]
      exact hn

theorem AnyQ.lex {P : Program} {ops : Array Oper} {n : Nat} {H : Nat → Option Ob} {K : (Nat → D) → Prop} : ∀ (l : List Oper) (k : Nat) (listed : Array Bool) (e : Nat → D), (∀ j, l[j]? = ops[k + j]?) →
    Region.lexFrom .any ops l.length k listed = true → W P true ops l ⟨n, e, H⟩ (fun s => s.n = n → s.heap = H → K s.env) → AnyQ P ops n H K l.length listed e
  | [], _, _, _, _, hB, h => ⟨by simpa [Region.lexFrom] using hB, h rfl rfl⟩
  | o :: l, k, listed, e, hl, hB, h => by
    have h0 : ops[k]? = some o := by simpa using (hl 0).symm
    simp only [List.length_cons, Region.lexFrom, Bool.and_eq_true] at hB
    obtain ⟨⟨hr, hf⟩, hB'⟩ := hB
    obtain ⟨g, hg, h1, h2⟩ := h
    have hput : ∀ d, (⟨n, (St.put ⟨n, e, H⟩ o.dst d).env, H⟩ : St) = St.put ⟨n, e, H⟩ o.dst d := fun d => by cases o.dst <;> rfl
    have key : ∃ d, QS P ops n H o e (St.put ⟨n, e, H⟩ o.dst d).env ∧ W P true ops l (St.put ⟨n, e, H⟩ o.dst d) (fun s => s.n = n → s.heap = H → K s.env) := by
      cases g with
      | true =>
        obtain ⟨s', ⟨d, hd, hL, rfl⟩, hW⟩ := h1 rfl
        exact ⟨d, ⟨true, hg, hd, d, fun _ => hL, (fun h => by cases h), rfl⟩, hW⟩
      | false =>
        obtain ⟨hd, hW⟩ := h2 rfl
        exact ⟨.tup true [], ⟨false, hg, hd, .tup true [], (fun h => by cases h), fun _ => rfl, rfl⟩, hW⟩
    obtain ⟨d, hq, hW⟩ := key
    rw [← hput] at hW
    exact AnyQ.first h0 l.length listed e _ (Region.free_spec h0 hf) (by simpa using hr) hq
      (AnyQ.lex l (k + 1) _ _ (fun j => by have := hl (j + 1); simpa [Nat.add_assoc, Nat.add_comm 1 j] using this) hB' hW)

/-! ### code -/
def AW (P : Program) (c : Code) (s : St) (Q : Exit → St → Prop) : Prop := ∀ w0 a w, Sim w0 s a w → c.wp P (Post w0 Q) a w

def Thn (K : St → Prop) (Q : Exit → St → Prop) : Exit → St → Prop
  | .normal, s => K s
  | e, s => Q e s
def Blk (id : Nat) (Q : Exit → St → Prop) : Exit → St → Prop
  | .exit id', s => if id' = id then Q .normal s else Q (.exit id') s
  | e, s => Q e s

section
variable {P : Program} {s : St} {Q : Exit → St → Prop}
theorem aw_seq {x y : Code} (h : AW P x s (Thn (fun s' => AW P y s' Q) Q)) : AW P (.seq x y) s Q := fun w0 a w hs =>
  wp_seq (wp_mono (h w0 a w hs) fun e a w ⟨s', hq, hs'⟩ => by
    cases e <;> first | exact hq w0 a w hs' | exact ⟨s', hq, hs'⟩)
theorem aw_block {id : Nat} {c : Code} (h : AW P c s (Blk id Q)) : AW P (.block id c) s Q := fun w0 a w hs =>
  wp_block (wp_mono (h w0 a w hs) fun e a w ⟨s', hq, hs'⟩ => by
    cases e <;> first
      | exact ⟨s', hq, hs'⟩
      | (rename_i i
         simp only [Blk] at hq
         simp only [Exit.inBlock]
         split at hq <;> rename_i he
         · rw [if_pos he]; exact ⟨s', hq, hs'⟩
         · rw [if_neg he]; exact ⟨s', hq, hs'⟩))
theorem aw_skip (h : Q .normal s) : AW P .skip s Q := fun w0 a w hs => wp_skip ⟨s, h, hs⟩
theorem aw_ret (h : Q .ret s) : AW P .ret s Q := fun w0 a w hs => wp_ret ⟨s, h, hs⟩
theorem aw_exit {id : Nat} (h : Q (.exit id) s) : AW P (.exit id) s Q := fun w0 a w hs => wp_exit ⟨s, h, hs⟩
theorem aw_cond {c : Operand} {x y : Code} {m b : Bool} (hc : s.ev c = .one (.r m (bool b))) (h1 : b = true → AW P x s Q) (h2 : b = false → AW P y s Q) : AW P (.cond c x y) s Q := fun w0 a w hs => by
  obtain ⟨ι, own, hs'⟩ := hs
  have := hs'.ev c
  rw [hc] at this
  exact wp_cond_split this.1 (fun hb => h1 hb w0 a w ⟨ι, own, hs'⟩) (fun hb => h2 hb w0 a w ⟨ι, own, hs'⟩)

theorem aw_region {id : Nat} {l : List Oper} (h : W P false l.toArray l s (fun s' => Q .normal s')) : AW P (.region id l.toArray false) s Q := fun w0 a w hs =>
  wp_region_lit (wpList_of_W l s h a w hs)
theorem Sim.drew {w0 : World} {a : Act} {w : World} (h : Sim w0 s a w) : Sim w0 s a { w with drawn := w.drawn + 1 } := by
  obtain ⟨ι, own, hs⟩ := h
  have hb : Below w.heap.size w { w with drawn := w.drawn + 1 } := ⟨rfl, rfl, rfl, Nat.le_refl _, fun _ _ => rfl⟩
  exact ⟨ι, own, (hs.quiet (dst := none) (d := .any) (v := undef) hb trivial (fun t ht => by cases ht))⟩
theorem aw_region_draw {id : Nat} {l : List Oper} (hm : P.follows .mixedOrders = true) (hB : Region.lexB .any l.toArray = true) (h : W P true l.toArray l s (fun s' => Q .normal s')) : AW P (.region id l.toArray true) s Q := fun w0 a w hs => by
  simp only [Region.lexB, Bool.and_eq_true] at hB
  refine wp_region_any hm (AnyQ.wp (n := s.n) (H := s.heap) _ _ s.env _ _ hs.drew ?_)
  have := AnyQ.lex (P := P) (n := s.n) (H := s.heap) (K := fun e => Q .normal ⟨s.n, e, s.heap⟩) l 0 (Array.replicate l.length false) s.env (by simp) (by simpa using hB.2) (W.mono (fun s' h hn hh => by
    have : s' = ⟨s.n, s'.env, s.heap⟩ := by rw [← hn, ← hh]
    rw [← this]; exact h) h)
  simpa using this

/-- The second says no more than the first. -/
def Weak (s s' : St) : Prop := ∀ w0 a w, Sim w0 s a w → Sim w0 s' a w
theorem aw_weak {c : Code} {s' : St} (h : Weak s s') (h1 : AW P c s' Q) : AW P c s Q := fun w0 a w hs => h1 w0 a w (h w0 a w hs)

theorem aw_loop {α : Type} (f : α → St) (μ : α → Nat) (x0 : α) {c : Code} (h0 : Weak s (f x0)) (round : ∀ x, AW P c (f x) (Thn (fun s' => ∃ x', Weak s' (f x') ∧ μ x' < μ x) Q)) : AW P (.loop c) s Q := fun w0 a w hs => by
  intro b k cs
  have key : ∀ n x, μ x = n → ∀ a w, Sim w0 (f x) a w → ∃ e a' w', Post w0 Q e a' w' ∧ Arrives P (lone (b.at a (.code c :: .inLoop c :: k)) cs w) b k cs e a' w' := by
    intro n
    induction n using Nat.strongRecOn with
    | _ n ih =>
      intro x hx a w hs
      obtain ⟨e, a₁, w₁, ⟨s', hq, hs'⟩, harr⟩ := round x w0 a w hs b (.inLoop c :: k) cs
      cases e with
      | normal =>
        obtain ⟨x', hw, hlt⟩ := hq
        obtain ⟨e₂, a₂, w₂, hq₂, harr₂⟩ := ih (μ x') (hx ▸ hlt) x' rfl a₁ w₁ (hw w0 a₁ w₁ hs')
        exact ⟨e₂, a₂, w₂, hq₂, .of_steps (Steps.trans harr (.one step_inLoop)) harr₂⟩
      | exit id => exact ⟨_, a₁, w₁, ⟨s', hq, hs'⟩, .pass (x := .inLoop c) rfl (fun _ _ => .inl (by simp)) harr⟩
      | goto l => exact ⟨_, a₁, w₁, ⟨s', hq, hs'⟩, .pass (x := .inLoop c) rfl (fun _ _ => .inl (by simp)) harr⟩
      | ret => exact ⟨_, a₁, w₁, ⟨s', hq, hs'⟩, .pass (x := .inLoop c) rfl (fun _ _ => .inl (by simp)) harr⟩
      | panic ch => exact ⟨_, a₁, w₁, ⟨s', hq, hs'⟩, .pass (x := .inLoop c) rfl (fun _ _ => .inl (by simp)) harr⟩
      | outgrown => exact ⟨_, a₁, w₁, ⟨s', hq, hs'⟩, .pass (x := .inLoop c) rfl (fun _ _ => .inl (by simp)) harr⟩
  obtain ⟨e, a', w', hq, harr⟩ := key _ x0 rfl a w (h0 w0 a w hs)
  exact ⟨e, a', w', hq, .of_steps (.one step_loop) harr⟩
end
end Go.Proofs.Ytknbeakmnkjkhaa.Abs
