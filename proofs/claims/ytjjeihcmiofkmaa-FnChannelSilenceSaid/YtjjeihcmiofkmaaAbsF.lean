/- Whole calls: from a function's body to what it gives on data. No statement of the seat is proved here. -/
import Derived.Test.YtjjeihcmiofkmaaAbsC
set_option linter.unusedSimpArgs false
set_option linter.unusedVariables false
namespace Go.Proofs.Ytjjeihcmiofkmaa.Abs
open Go.RowKit
open R (val row ref)

/-! ### what is handed back -/
def CRes (H : Nat → Option Ob) (x : Cell) (r : R) : Prop :=
  ∀ (ι : Nat → Nat × Nat) (base : Nat) (w : World) (own : Nat → Prop) (v : Value), (∀ k ob, H k = some ob → own (ι k).1 ∧ ob.p ι base ⟨w, own⟩ (ι k)) → (∀ b, own b → base ≤ b) → x.p ι base ⟨w, own⟩ v → r.p ⟨w, fun b => b < base⟩ v
def DRes (H : Nat → Option Ob) (d : D) (x : P0) : Prop :=
  ∀ (ι : Nat → Nat × Nat) (base : Nat) (w : World) (own : Nat → Prop) (v : Value), (∀ k ob, H k = some ob → own (ι k).1 ∧ ob.p ι base ⟨w, own⟩ (ι k)) → (∀ b, own b → base ≤ b) → d.p ι base ⟨w, own⟩ v → x.p ⟨w, fun b => b < base⟩ v

section
variable {H : Nat → Option Ob}
theorem cres_new {r : R} : CRes H (.r true r) r := fun ι base w own v hH ho h =>
  r.mono (c := Cx.young ⟨w, own⟩ base true) (Cx.Ext.sub rfl (fun b hb => .inr hb)) h
theorem cres_val {m : Bool} {u : Value} : CRes H (.r m (val u)) (val u) := fun ι base w own v hH ho h => h
theorem cres_nil {m nil : Bool} {sz sz' : Nat} : CRes H (.r m (row nil sz [])) (row nil sz' []) := fun ι base w own v hH ho h => let ⟨ao, cap, h1, h2, h3, h4, h5⟩ := row_p.1 h; row_p.2 ⟨ao, cap, h1, h2, h3, h4, fun h => by simp at h⟩
theorem row_of_own {ι : Nat → Nat × Nat} {base : Nat} {w : World} {own : Nat → Prop} {k j n sz : Nat} {E : TypeId} {els : List P0} {new : Bool} {v : Value} {own' : Nat → Prop} (hk : own (ι k).1 ∧ (Ob.sl E sz new els).p ι base ⟨w, own⟩ (ι k)) (hn : j + n ≤ els.length) (h : (Cell.own k j n sz).p ι base ⟨w, own⟩ v)
    (ho : ¬ own' (ι k).1) (he : Cx.Ext (Cx.young ⟨w, own⟩ base new) ⟨w, own'⟩) : (row false sz ((els.drop j).take n)).p ⟨w, own'⟩ v := by
  obtain ⟨oo, cap, arr, E', h1, h0, h2, h3, h4, h5⟩ := h
  obtain ⟨hown, arr', g1, g2, g3⟩ := hk
  have hl : ((els.drop j).take n).length = n := by rw [List.length_take, List.length_drop]; omega
  refine row_p.2 ⟨_, cap, by rw [hl]; exact h1, by rw [hl]; exact ⟨h2, h3⟩, by simp, by simp, fun hpos => ⟨(ι k).1, (ι k).2 + j * sz, by rw [h0.resolve_right (by omega)], lt_of_heap g1, ho, fun i e hi => ?_⟩⟩
  rw [List.getElem?_take] at hi
  split at hi
  · rw [List.getElem?_drop] at hi
    obtain ⟨e1, e2⟩ := g3 (j + i) e hi
    refine ⟨e1, fun m r hm => ?_⟩
    obtain ⟨u, hu, hr⟩ := e2 m r hm
    refine ⟨u, ?_, r.mono he hr⟩
    show w.cell? _ = some u
    rw [cell_of_arr g1, ← hu, Nat.add_mul]
    congr 1
    omega
  · cases hi
theorem cres_own {k j n sz : Nat} {E : TypeId} {els : List P0} (hk : H k = some (.sl E sz true els)) (hn : j + n ≤ els.length) : CRes H (.own k j n sz) (row false sz ((els.drop j).take n)) := fun ι base w own v hH ho h =>
  row_of_own (hH k _ hk) hn h (fun hb => by
    have h1 := ho _ (hH k _ hk).1
    have h2 : (ι k).1 < base := hb
    omega) (Cx.Ext.sub (c := Cx.young ⟨w, own⟩ base true) (c' := ⟨w, fun b => b < base⟩) rfl (fun b hb => .inr hb))
/-- The whole row. -/
theorem cres_own0 {k n sz : Nat} {E : TypeId} {els : List P0} (hk : H k = some (.sl E sz true els)) (hn : n = els.length) : CRes H (.own k 0 n sz) (row false sz els) := by
  have := cres_own (H := H) (j := 0) (n := n) hk (by omega)
  rwa [List.drop_zero, List.take_of_length_le (by omega)] at this
theorem dres_one {x : Cell} {r : R} (h : CRes H x r) : DRes H (.one x) (.one r) := h
theorem dres_new {x : P0} : DRes H (x.d true) x := fun ι base w own v hH ho h =>
  P0.mono (Cx.Ext.sub (c := Cx.young ⟨w, own⟩ base true) (c' := ⟨w, fun b => b < base⟩) rfl (fun b hb => .inr hb)) (P0.d_p.1 h)
def CsRes (H : Nat → Option Ob) : List Cell → List R → Prop
  | [], [] => True
  | x :: xs, r :: rs => CRes H x r ∧ CsRes H xs rs
  | _, _ => False
theorem CsRes.get : ∀ {xs : List Cell} {rs : List R}, CsRes H xs rs → xs.length = rs.length ∧ ∀ (j : Nat) (r : R), rs[j]? = some r → ∃ x, xs[j]? = some x ∧ CRes H x r
  | [], [], _ => ⟨rfl, fun j r hj => by simp at hj⟩
  | x :: xs, r :: rs, ⟨h1, h2⟩ => by
    obtain ⟨g1, g2⟩ := h2.get
    refine ⟨by simp [g1], fun j r' hj => ?_⟩
    cases j with
    | zero => simp at hj; subst hj; exact ⟨x, rfl, h1⟩
    | succ j => exact g2 j r' (by simpa using hj)
  | [], _ :: _, h => h.elim
  | _ :: _, [], h => h.elim
theorem dres_agg {xs : List Cell} {rs : List R} (h : CsRes H xs rs) : DRes H (.agg xs) (.agg rs) := fun ι base w own v hH ho ⟨vs, h1, h2, h3⟩ => by
  obtain ⟨g1, g2⟩ := h.get
  refine ⟨vs, h1, by omega, fun j r hj => ?_⟩
  obtain ⟨x, hx, hc⟩ := g2 j r hj
  obtain ⟨u, hu, hp⟩ := h3 j x hx
  exact ⟨u, hu, hc ι base w own u hH ho hp⟩
end

/-- A result's place holds this. -/
def RvOk (P : Program) (s : St) : ResultVar → P0 → Prop
  | .tmp t, x => DRes s.heap (s.env t) x
  | .cell t ty, x => ∃ k off E cells ag m, s.env t = .one (.ptr k 0 0 off) ∧ s.heap k = some (.var E cells) ∧ tyOf P ty = some (ag, m) ∧ Nat.ble (off + m) cells.length = true ∧ (ag || Nat.beq m 1) = true ∧ DRes s.heap (cut ag m off cells) x
def RvsOk (P : Program) (s : St) : List ResultVar → List P0 → Prop
  | [], [] => True
  | a :: l, x :: xs => RvOk P s a x ∧ RvsOk P s l xs
  | _, _ => False
def RetOk (P : Program) (s : St) (l : List ResultVar) : Res → Prop
  | .v x => match l with | [a] => RvOk P s a x | _ => False
  | .tup xs => Nat.beq l.length 1 = false ∧ RvsOk P s l xs

def rvRun (tmps : Array Value) : ResultVar → Sem Value
  | .tmp t => pure (tmps.getD t undef)
  | .cell a t => do loadVar t (← asAddr (tmps.getD a undef))
def RvsRun (P : Program) (w : World) (tmps : Array Value) : List ResultVar → List Value → Prop
  | [], [] => True
  | a :: l, v :: vs => (rvRun tmps a).run P w = .ok v w ∧ RvsRun P w tmps l vs
  | _, _ => False

theorem results_run {P : Program} {fn : Func} {tmps : Array Value} {w : World} {l : List ResultVar} {vs : List Value} (h : fn.results = l.toArray) (hr : RvsRun P w tmps l vs) : (results fn tmps).run P w = .ok (if h : vs.toArray.size = 1 then vs.toArray[0] else .tuple vs.toArray) w := by
  have key : ∀ (l : List ResultVar) (vs : List Value), RvsRun P w tmps l vs → ((l.mapM (rvRun tmps) : Sem (List Value))).run P w = .ok vs w := by
    intro l
    induction l with
    | nil => intro vs h; cases vs with
      | nil => rfl
      | cons v vs => exact h.elim
    | cons a l ih =>
      intro vs h
      cases vs with
      | nil => exact h.elim
      | cons v vs =>
        rw [List.mapM_cons]
        simp only [Sem.run_bind, h.1, Result.andThen_ok, ih vs h.2, Sem.run_pure]
  have hm : (results fn tmps) = (do let vs ← l.mapM (rvRun tmps); pure (if h : vs.toArray.size = 1 then vs.toArray[0] else .tuple vs.toArray)) := by
    unfold results
    rw [h, List.mapM_toArray]
    simp only [bind_map_left]
    rfl
  rw [hm]
  simp only [Sem.run_bind, key l vs hr, Result.andThen_ok, Sem.run_pure]

theorem rv_run {P : Program} {w0 : Bs} {s : St} {a : Act} {w : World} {ι : Nat → Nat × Nat} {own : Nat → Prop} (hs : Sim' w0 s a w ι own) : ∀ {rv : ResultVar} {x : P0}, RvOk P s rv x → ∃ v, (rvRun a.tmps rv).run P w = .ok v w ∧ x.p ⟨w, fun b => b < w0.base⟩ v
  | .tmp t, x, h => ⟨_, rfl, h ι _ w own _ hs.heap (fun b hb => (hs.own_ b hb).1) (hs.env t)⟩
  | .cell t ty, x, ⟨k, off, E, cells, ag, m, h1, h2, h3, h4, h5, h6⟩ => by
    have hx := hs.env t
    rw [h1] at hx
    have hx2 : a.tmps.getD t undef = .pointer (some ⟨(ι k).1, (ι k).2 + off, none⟩) := by have : a.tmps.getD t undef = .pointer (some ⟨(ι k).1, (ι k).2 + (0 * 0 + off), none⟩) := hx; simpa using this
    obtain ⟨v, g1, g2⟩ := load_var_run (P := P) (t := ty) (hs.heap k _ h2).2 h3 (by simpa using h4) (by simpa using h5)
    refine ⟨v, ?_, h6 ι _ w own _ hs.heap (fun b hb => (hs.own_ b hb).1) g2⟩
    simp only [rvRun, hx2, Sem.run_bind, asAddr, Sem.run_pure, Result.andThen_ok, g1]
theorem rvs_run {P : Program} {w0 : Bs} {s : St} {a : Act} {w : World} {ι : Nat → Nat × Nat} {own : Nat → Prop} (hs : Sim' w0 s a w ι own) : ∀ {l : List ResultVar} {xs : List P0}, RvsOk P s l xs → ∃ vs, RvsRun P w a.tmps l vs ∧ l.length = vs.length ∧ vs.length = xs.length ∧ ∀ (j : Nat) (x : P0), xs[j]? = some x → ∃ u, vs[j]? = some u ∧ x.p ⟨w, fun b => b < w0.base⟩ u
  | [], [], _ => ⟨[], trivial, rfl, rfl, fun j x hj => by simp at hj⟩
  | rv :: l, x :: xs, ⟨h1, h2⟩ => by
    obtain ⟨v, g1, g2⟩ := rv_run hs h1
    obtain ⟨vs, e1, e0, e2, e3⟩ := rvs_run hs h2
    refine ⟨v :: vs, ⟨g1, e1⟩, by simp [e0], by simp [e2], fun j y hj => ?_⟩
    cases j with
    | zero => simp at hj; subst hj; exact ⟨v, rfl, g2⟩
    | succ j => exact e3 j y (by simpa using hj)
  | [], _ :: _, h => h.elim
  | _ :: _, [], h => h.elim
theorem ret_run {P : Program} {fn : Func} {w0 : Bs} {s : St} {a : Act} {w : World} (hs : Sim w0 s a w) {l : List ResultVar} {res : Res} (hf : fn.results = l.toArray) (h : RetOk P s l res) : ∃ v, (results fn a.tmps).run P w = .ok v w ∧ res.p ⟨w, fun b => b < w0.base⟩ v := by
  obtain ⟨ι, own, hs⟩ := hs
  cases res with
  | v x =>
    match l, h with
    | [rv], h =>
      obtain ⟨v, g1, g2⟩ := rv_run hs h
      exact ⟨v, results_run (vs := [v]) hf ⟨g1, trivial⟩, g2⟩
  | tup xs =>
    have h' : Nat.beq l.length 1 = false ∧ RvsOk P s l xs := h
    obtain ⟨vs, e1, e0, e2, e3⟩ := rvs_run hs h'.2
    have h1 : l.length ≠ 1 := fun e => by have := h'.1; rw [e] at this; cases this
    refine ⟨.tuple vs.toArray, ?_, vs, rfl, e2, e3⟩
    rw [results_run hf e1, dif_neg (by simp; omega)]

/-! ### a whole call -/
def argEnv : Nat → List P0 → List (Nat × D)
  | _, [] => []
  | i, x :: xs => (i, x.d false) :: argEnv (i + 1) xs

theorem argEnv_sim {c : Cx} {ι : Nat → Nat × Nat} {base : Nat} : ∀ (i : Nat) (vs : List Value) (xs : List P0) (n : Nat), Args c vs xs → ∀ (pre : List Value), pre.length = i → ∀ t, i ≤ t → (look (argEnv i xs) t).p ι base c ((pre ++ vs ++ List.replicate n undef).getD t undef)
  | i, [], [], n, _, pre, hp, t, ht => by simp only [argEnv, look, D.p]
  | i, v :: vs, x :: xs, n, ⟨h1, h2⟩, pre, hp, t, ht => by
    simp only [argEnv, look]
    by_cases e : t = i
    · subst e
      rw [upd_same, P0.d_p]
      simp only [List.getD_eq_getElem?_getD, List.append_assoc]
      rw [List.getElem?_append_right (by omega), hp]
      simpa [Cx.young] using h1
    · rw [upd_ne _ _ e]
      have := argEnv_sim (ι := ι) (base := base) (i + 1) vs xs n h2 (pre ++ [v]) (by simp [hp]) t (by omega)
      simpa using this
  | i, [], _ :: _, n, h, _, _, _, _ => h.elim
  | i, _ :: _, [], n, h, _, _, _, _ => h.elim

theorem Args.length {c : Cx} : ∀ {vs : List Value} {xs : List P0}, Args c vs xs → vs.length = xs.length
  | [], [], _ => rfl
  | _ :: _, _ :: _, ⟨_, h⟩ => by simp [h.length]
  | [], _ :: _, h => h.elim
  | _ :: _, [], h => h.elim

/-- A call that was given nothing to write. -/
def bs0 (w : World) : Bs := { toWorld := w, base := w.heap.size, M := fun _ => False, own0 := fun _ => False, pin := fun _ => none }
theorem Low.below0 {w w' : World} (h : Low (bs0 w) w') : Below w.heap.size w w' := ⟨h.os, h.tape, h.output, h.size, fun b hb => h.block b hb (fun h => h)⟩
theorem sim_start {fn : Func} {n : Nat} {args : List P0} {w : World} {vs : List Value} (hn : fn.ntmps = n) (hl : Nat.ble args.length n = true) (hA : Args ⟨w, fun _ => False⟩ vs args) : Sim (bs0 w) (mkS n (argEnv 0 args) []) { tmps := vs.toArray ++ Array.replicate (fn.ntmps - vs.toArray.size) undef, defers := [] } w := by
  have hlen := hA.length
  have hl' : args.length ≤ n := by simpa using hl
  refine ⟨fun _ => (0, 0), fun _ => False, ⟨rfl, rfl, rfl, Nat.le_refl _, fun _ _ _ => rfl, fun b arr E h => ⟨arr, h, rfl⟩⟩, Nat.le_refl _, fun b hb => hb.elim, fun b hb => hb.elim, fun b hb => hb.elim, ?_, ?_, ?_, (fun k ob hk => by cases hk), ?_, rfl, fun k p hp => by cases hp⟩
  · simp [hn, mkS]; omega
  · intro t
    have := argEnv_sim (ι := fun _ => (0, 0)) (base := w.heap.size) 0 vs args (fn.ntmps - vs.toArray.size) hA [] rfl t (Nat.zero_le _)
    simpa [mkS, bs0, List.getD_eq_getElem?_getD, ← Array.getElem?_toList] using this
  · intro k ob hk; cases hk
  · intro k k' ob ob' hk; cases hk
theorem fn_of {P : Program} {f : FuncId} {fn : Func} {c : Code} {n : Nat} {args : List P0} {res : Res} {l : List ResultVar} (hf : P.funcs[f]? = some fn) (hname : (fn.name == "runtime.NumGoroutine") = false) (hb : fn.body = some c) (hn : fn.ntmps = n) (hr : fn.results = l.toArray) (hl : Nat.ble args.length n = true)
    (h : AW P c (mkS n (argEnv 0 args) []) (fun e s => (e = .ret ∨ e = .normal) ∧ RetOk P s l res)) : Fn P f args res := by
  refine ⟨ent_of hf hname hb, ?_⟩
  intro w vs hA
  refine calls_of_wp hf hb ?_
  refine wp_mono (h (bs0 w) _ w (sim_start hn hl hA)) ?_
  rintro e a' w' ⟨s', ⟨he, hret⟩, hs'⟩
  obtain ⟨v, g1, g2⟩ := ret_run hs' hr hret
  have hd : a'.defers = [] := by obtain ⟨ι, own, h⟩ := hs'; exact h.defers
  have hb' : Below w.heap.size w w' := by obtain ⟨ι, own, h⟩ := hs'; exact h.below.below0
  rcases he with rfl | rfl
  · exact ⟨hd, v, g1, v, rfl, g2, hb'⟩
  · exact ⟨hd, v, g1, v, rfl, g2, hb'⟩

/-! ### weakening -/
def SubE (e : Nat → D) : List (Nat × D) → Prop
  | [] => True
  | (t, d) :: l => e t = d ∧ SubE e l
def SubH (e : Nat → Option Ob) : List (Nat × Ob) → Prop
  | [] => True
  | (t, d) :: l => e t = some d ∧ SubH e l
theorem SubE.get {e : Nat → D} : ∀ {l : List (Nat × D)}, SubE e l → ∀ t, look l t = .any ∨ look l t = e t
  | [], _, t => .inl rfl
  | (u, d) :: l, ⟨h1, h2⟩, t => by
    simp only [look, upd]
    split
    · rename_i h; subst h; exact .inr h1.symm
    · exact h2.get t
theorem SubH.get {e : Nat → Option Ob} : ∀ {l : List (Nat × Ob)}, SubH e l → ∀ t ob, lookH l t = some ob → e t = some ob
  | [], _, t, ob, h => by cases h
  | (u, d) :: l, ⟨h1, h2⟩, t, ob, h => by
    simp only [lookH, upd] at h
    split at h
    · rename_i h'; subst h'; rw [h1]; exact h
    · exact h2.get t ob h
theorem weak_of {s : St} {n : Nat} {l : List (Nat × D)} {h : List (Nat × Ob)} (hn : s.n = n) (he : SubE s.env l) (hh : SubH s.heap h) : Weak s (mkS n l h) := by
  rintro w0 a w ⟨ι, own, hs⟩
  refine ⟨ι, own, hs.below, hs.base_, hs.own_, hs.keep, hs.frm, by rw [hs.size]; exact hn, fun t => ?_, fun k ob hk => hs.heap k ob (hh.get k ob hk), fun k ob hk => hs.place k ob (hh.get k ob hk), fun k k' o o' hk hk' => hs.inj k k' o o' (hh.get k o hk) (hh.get k' o' hk'), hs.defers, hs.pin⟩
  rcases he.get t with h1 | h1
  · show (look l t).p _ _ _ _
    rw [h1]; trivial
  · show (look l t).p _ _ _ _
    rw [h1]; exact hs.env t

/-! ### look-ups that reckon -/
def lookO : List (Nat × D) → Nat → Option D
  | [], _ => none
  | (u, d) :: l, t => bif Nat.beq t u then some d else lookO l t
theorem lookO_spec : ∀ {l : List (Nat × D)} {t : Nat} {d : D}, lookO l t = some d → look l t = d
  | (u, e) :: l, t, d, h => by
    simp only [lookO] at h
    simp only [look, upd]
    cases hb : Nat.beq t u with
    | true => rw [hb] at h; simp at hb; subst hb; rw [if_pos rfl]; simpa using h
    | false => rw [hb] at h; have hne : t ≠ u := fun e => by subst e; simp at hb
               rw [if_neg hne]; exact lookO_spec (by simpa using h)
def evO (l : List (Nat × D)) : Operand → Option D
  | .tmp t => lookO l t
  | .const (.bool b) => some (.one (.r true (val (.bool b))))
  | .const (.int k n) => some (.one (.r true (val (.int k n))))
  | .const (.string s) => some (.one (.r true (val (.string s))))
  | .const (.slice none 0 0) => some (.one (.r true (row true 0 [])))
  | .const (.pointer none) => some (.one (.r true (val (.pointer none))))
  | .const (.map none) => some (.one (.r true (val (.map none))))
  | .const .nilFunc => some (.one (.r true (val .nilFunc)))
  | .const .nilIface => some (.one (.r true (val .nilIface)))
  | .func f => some (.one (.r true (val (.func (.func f) #[] #[]))))
  | _ => none
theorem evO_spec {l : List (Nat × D)} {x : Operand} {d : D} (he : evO l x = some d) : evD (look l) x = d := by
  unfold evO at he
  split at he
  case h_1 => exact lookO_spec he
  all_goals first
    | (simp only [Option.some.injEq] at he; rw [← he]; rfl)
    | cases he
def lookHO : List (Nat × Ob) → Nat → Option Ob
  | [], _ => none
  | (u, d) :: l, t => bif Nat.beq t u then some d else lookHO l t
theorem lookHO_eq : ∀ (l : List (Nat × Ob)) (t : Nat), lookHO l t = lookH l t
  | [], t => rfl
  | (u, e) :: l, t => by
    simp only [lookHO, lookH, upd]
    cases hb : Nat.beq t u with
    | true => simp at hb; subst hb; rw [if_pos rfl]; rfl
    | false => have hne : t ≠ u := fun e => by subst e; simp at hb
               rw [if_neg hne]; exact lookHO_eq l t
theorem lookHO_spec {h : List (Nat × Ob)} {k : Nat} {ob : Ob} (he : lookHO h k = some ob) : lookH h k = some ob := by rw [← lookHO_eq]; exact he
def cutO (ag : Bool) (n off : Nat) (cs : List Cell) : Option D :=
  match ag with
  | false => match cs[off]? with
    | some x => some (.one x)
    | none => none
  | true => bif Nat.beq off 0 && Nat.beq n cs.length then some (.agg cs) else some (.agg ((cs.drop off).take n))
theorem cutO_spec {ag : Bool} {n off : Nat} {cs : List Cell} {d : D} (h : cutO ag n off cs = some d) : cut ag n off cs = d := by
  unfold cutO at h
  unfold cut
  cases ag with
  | false =>
    simp only [Bool.false_eq_true, if_false]
    cases hc : cs[off]? with
    | none => rw [hc] at h; cases h
    | some x => rw [hc] at h; injection h
  | true =>
    simp only [if_true]
    cases hb : Nat.beq off 0 && Nat.beq n cs.length with
    | true =>
      rw [hb] at h
      simp only [Bool.and_eq_true, Nat.beq_eq] at hb
      injection h with h
      subst h
      rw [hb.1, hb.2, List.drop_zero, List.take_of_length_le (Nat.le_refl _)]
    | false => rw [hb] at h; injection h

/-! ### the walk's own steps -/
/-- The variables but for one. -/
def eraseH (k : Nat) : List (Nat × Ob) → List (Nat × Ob)
  | [] => []
  | (u, ob) :: h => bif Nat.beq u k then eraseH k h else (u, ob) :: eraseH k h
theorem eraseH_get (k : Nat) : ∀ (h : List (Nat × Ob)) (u : Nat), lookH (eraseH k h) u = if u = k then none else lookH h u
  | [], u => by simp [eraseH, lookH]
  | (v, ob) :: h, u => by
    simp only [eraseH]
    cases hb : Nat.beq v k with
    | true =>
      simp at hb
      subst hb
      simp only [cond_true, eraseH_get v h u, lookH, upd]
      by_cases h1 : u = v
      · rw [if_pos h1, if_pos h1]
      · rw [if_neg h1, if_neg h1, if_neg h1]
    | false =>
      have hne : v ≠ k := fun e => by subst e; simp at hb
      simp only [cond_false, lookH, upd, eraseH_get k h u]
      by_cases h1 : u = v
      · subst h1; rw [if_pos rfl, if_neg hne, if_pos rfl]
      · rw [if_neg h1, if_neg h1]
def appL : List (Nat × Option Ob) → List (Nat × Ob) → List (Nat × Ob)
  | [], h => h
  | (k, none) :: U, h => eraseH k (appL U h)
  | (k, some ob) :: U, h => (k, ob) :: eraseH k (appL U h)
theorem appL_ok : ∀ (U : List (Nat × Option Ob)) (h : List (Nat × Ob)), lookH (appL U h) = appU U (lookH h)
  | [], h => rfl
  | (k, none) :: U, h => by
    funext u
    simp only [appL, eraseH_get, appL_ok U h, appU, findU]
    split <;> rfl
  | (k, some ob) :: U, h => by
    funext u
    simp only [appL, lookH, upd, eraseH_get, appL_ok U h, appU, findU]
    split <;> rfl
def putL (dst : Option Nat) (d : D) (l : List (Nat × D)) : List (Nat × D) := match dst with | some t => (t, d) :: l | none => l
theorem putL_ok (dst : Option Nat) (d : D) (l : List (Nat × D)) : look (putL dst d l) = putE (look l) dst d := by cases dst <;> rfl
/-- The same, written out as it is reckoned. -/
def putLO (dst : Option Nat) (d : D) (l : List (Nat × D)) : Option (List (Nat × D)) := match dst with | some t => some ((t, d) :: l) | none => some l
theorem putLO_ok {dst : Option Nat} {d : D} {l l' : List (Nat × D)} (h : putLO dst d l = some l') : putL dst d l = l' := by cases dst <;> (unfold putLO at h; injection h)
def eraseHO (k : Nat) : List (Nat × Ob) → Option (List (Nat × Ob))
  | [] => some []
  | (u, ob) :: h => match eraseHO k h with
    | some r => bif Nat.beq u k then some r else some ((u, ob) :: r)
    | none => none
theorem eraseHO_ok {k : Nat} : ∀ {h h' : List (Nat × Ob)}, eraseHO k h = some h' → eraseH k h = h'
  | [], h', e => by injection e
  | (u, ob) :: h, h', e => by
    simp only [eraseHO] at e
    split at e
    · rename_i r hr
      have := eraseHO_ok hr
      simp only [eraseH, this]
      cases hb : Nat.beq u k <;> rw [hb] at e <;> simpa using e
    · cases e
def appLO : List (Nat × Option Ob) → List (Nat × Ob) → Option (List (Nat × Ob))
  | [], h => some h
  | (k, x) :: U, h => match appLO U h with
    | some r => (match eraseHO k r with
      | some r' => (match x with | some ob => some ((k, ob) :: r') | none => some r')
      | none => none)
    | none => none
theorem appLO_ok : ∀ {U : List (Nat × Option Ob)} {h h' : List (Nat × Ob)}, appLO U h = some h' → appL U h = h'
  | [], h, h', e => by injection e
  | (k, x) :: U, h, h', e => by
    simp only [appLO] at e
    split at e
    · rename_i r hr
      split at e
      · rename_i r' hr'
        have h1 := appLO_ok hr
        have h2 := eraseHO_ok hr'
        cases x with
        | none => injection e with e; subst e; simp only [appL, h1, h2]
        | some ob => injection e with e; subst e; simp only [appL, h1, h2]
      · cases e
    · cases e
def keys : List (Nat × Ob) → List Nat
  | [] => []
  | (k, _) :: h => k :: keys h
theorem lookH_none : ∀ {h : List (Nat × Ob)} {k : Nat}, k ∉ keys h → lookH h k = none
  | [], _, _ => rfl
  | (u, ob) :: h, k, hk => by
    simp only [keys, List.mem_cons, not_or] at hk
    simp only [lookH, upd, if_neg hk.1]
    exact lookH_none hk.2
theorem resH_keys (h : List (Nat × Ob)) : resH (keys h) (lookH h) = lookH h := by
  funext k
  unfold resH
  split
  · rfl
  · rename_i hk; exact (lookH_none hk).symm
def memB (k : Nat) : List Nat → Bool
  | [] => false
  | u :: l => Nat.beq k u || memB k l
theorem memB_spec {k : Nat} : ∀ {l : List Nat}, memB k l = true ↔ k ∈ l
  | [] => by simp [memB]
  | u :: l => by simp [memB, memB_spec (l := l)]
def filtH (fp : List Nat) : List (Nat × Ob) → List (Nat × Ob)
  | [] => []
  | (k, ob) :: h => bif memB k fp then (k, ob) :: filtH fp h else filtH fp h
theorem filtH_ok (fp : List Nat) : ∀ h : List (Nat × Ob), lookH (filtH fp h) = resH fp (lookH h)
  | [] => by funext k; simp [filtH, lookH, resH]
  | (k, ob) :: h => by
    funext u
    simp only [filtH]
    cases hb : memB k fp with
    | true =>
      have hk := memB_spec.1 hb
      simp only [cond_true, lookH, upd, filtH_ok fp h, resH]
      by_cases h1 : u = k
      · subst h1; simp [hk]
      · simp [h1]
    | false =>
      have hk : k ∉ fp := fun h => by rw [memB_spec.2 h] at hb; cases hb
      simp only [cond_false, filtH_ok fp h, resH, lookH, upd]
      by_cases h1 : u = k
      · subst h1; simp [hk]
      · simp [h1]
def isS : Option Ob → Bool
  | some _ => true
  | none => false
def domU : List (Nat × Option Ob) → List Nat
  | [] => []
  | (k, _) :: U => k :: domU U
theorem domU_eq : ∀ U : List (Nat × Option Ob), domU U = U.map (·.1)
  | [] => rfl
  | (k, x) :: U => by simp [domU, domU_eq U]
def fineB (fp τ new : List Nat) (U : List (Nat × Option Ob)) (h : List (Nat × Ob)) : Bool := τ.all (fun k => memB k fp && isS (lookHO h k) && memB k (domU U)) && new.all (fun k => memB k (domU U) && Nat.blt k pinned)
theorem fineB_spec {d : D} {fp τ new : List Nat} {U : List (Nat × Option Ob)} {h : List (Nat × Ob)} (hb : fineB fp τ new U h = true) : (Sg.mk d fp τ new U).fine (lookH h) := by
  unfold fineB at hb
  simp only [Bool.and_eq_true, List.all_eq_true, memB_spec, domU_eq, Nat.blt_eq] at hb
  refine ⟨fun k hk => ?_, fun k hk => hb.2 k hk⟩
  obtain ⟨⟨h1, h2⟩, h3⟩ := hb.1 k hk
  refine ⟨h1, ?_, h3⟩
  rw [lookHO_eq] at h2
  cases hl : lookH h k with
  | none => rw [hl] at h2; cases h2
  | some ob => exact ⟨ob, rfl⟩
def isD (dst : Option Nat) (u : Nat) : Bool := match dst with | some t => Nat.beq t u | none => false
def freshB (dst : Option Nat) (new : List Nat) (U : List (Nat × Option Ob)) (l : List (Nat × D)) (h : List (Nat × Ob)) : Bool :=
  new.all fun t => l.all (fun p => isD dst p.1 || !p.2.men t) && h.all (fun p => memB p.1 (domU U) || !p.2.men t)
theorem look_fresh' {dst : Option Nat} {t : Nat} : ∀ {l : List (Nat × D)}, (l.all fun p => isD dst p.1 || !p.2.men t) = true → ∀ u, dst ≠ some u → (look l u).men t = false
  | [], _, u, _ => rfl
  | (v, d) :: l, h, u, hu => by
    simp only [List.all_cons, Bool.and_eq_true, Bool.or_eq_true, Bool.not_eq_true'] at h
    simp only [look, upd]
    split
    · rename_i e
      subst e
      refine h.1.resolve_left (fun h' => hu ?_)
      unfold isD at h'
      cases dst with
      | none => cases h'
      | some t => simp at h'; rw [h']
    · exact look_fresh' (by simpa using h.2) u hu
theorem lookH_fresh' {dom : List Nat} {t : Nat} : ∀ {l : List (Nat × Ob)}, (l.all fun p => memB p.1 dom || !p.2.men t) = true → ∀ u ob, u ∉ dom → lookH l u = some ob → ob.men t = false
  | [], _, u, ob, _, h => by cases h
  | (v, d) :: l, h, u, ob, hu, ho => by
    simp only [List.all_cons, Bool.and_eq_true, Bool.or_eq_true, Bool.not_eq_true'] at h
    simp only [lookH, upd] at ho
    split at ho
    · rename_i e
      subst e
      injection ho with ho
      subst ho
      exact h.1.resolve_left (fun h' => hu (memB_spec.1 h'))
    · exact lookH_fresh' (by simpa using h.2) u ob hu ho
theorem freshB_spec {d : D} {fp τ new : List Nat} {U : List (Nat × Option Ob)} {dst : Option Nat} {n : Nat} {l : List (Nat × D)} {h : List (Nat × Ob)} (hb : freshB dst new U l h = true) : (Sg.mk d fp τ new U).fresh dst (mkS n l h) := fun t ht => by
  have := List.all_eq_true.1 hb t ht
  simp only [Bool.and_eq_true] at this
  exact ⟨look_fresh' this.1, fun k ob hk => lookH_fresh' this.2 k ob (by rw [domU_eq]; exact hk)⟩
def okB (n : Nat) (dst : Option Nat) (fp τ new : List Nat) (U : List (Nat × Option Ob)) (l : List (Nat × D)) (h : List (Nat × Ob)) : Bool :=
  (match dst with | some t => Nat.blt t n | none => true) && fineB fp τ new U h && freshB dst new U l h

section
variable {P : Program} {Z : List Sg → Bool} {q : Option (List Sg)} {acc : List Sg} {ops : Array Oper} {o : Oper} {rest : List Oper} {n : Nat} {l l' : List (Nat × D)} {h h' hF : List (Nat × Ob)} {K : St → Prop} {d : D} {fp τ new : List Nat} {U : List (Nat × Option Ob)}
theorem w_core {g : Bool} (hg : Grd ops o (mkS n l h) g) (hgt : g = true) (hF' : lookH hF = resH fp (lookH h)) (hE : Eff P (lookH hF) (evD (look l)) o d τ new U) (hok : okB n o.dst fp τ new U l h = true) (hl : putL o.dst d l = l') (hh : appL U h = h') (hk : W P ops Z rest (mkS n l' h') (psh ⟨d, fp, τ, new, U⟩ q) K) : W P ops Z (o :: rest) (mkS n l h) q K := by
  subst hgt hl hh
  unfold okB at hok
  simp only [Bool.and_eq_true] at hok
  have hk' : W P ops Z rest ((mkS n l h).app o.dst ⟨d, fp, τ, new, U⟩) (psh ⟨d, fp, τ, new, U⟩ q) K := by
    have e : (mkS n l h).app o.dst ⟨d, fp, τ, new, U⟩ = mkS n (putL o.dst d l) (appL U h) := by
      unfold St.app mkS
      rw [putL_ok, appL_ok]
    rw [e]; exact hk
  refine ⟨true, ⟨d, fp, τ, new, U⟩, hg, ?_, fun _ => ⟨hF' ▸ hE, fineB_spec hok.1.2, freshB_spec hok.2⟩, (fun h => by cases h), hk'⟩
  have := hok.1.1
  unfold dstOk
  exact this
theorem grd_none (hg : o.guard = none) : Grd ops o (mkS n l h) true := by unfold Grd; rw [hg]
theorem grd_yes {j t : Nat} {want m : Bool} (hg : o.guard = some (j, want)) (hj : (ops[j]?).bind (·.dst) = some t) (hb : look l t = .one (.r m (bool want))) : Grd ops o (mkS n l h) true := by
  unfold Grd; rw [hg]; exact ⟨t, m, hj, .inl ⟨want, hb, by simp⟩⟩
theorem grd_no {j t : Nat} {want b m : Bool} (hg : o.guard = some (j, want)) (hj : (ops[j]?).bind (·.dst) = some t) (hb : look l t = .one (.r m (bool b))) (hw : (b == want) = false) : Grd ops o (mkS n l h) false := by
  unfold Grd; rw [hg]; exact ⟨t, m, hj, .inl ⟨b, hb, hw.symm⟩⟩
theorem grd_un {j t : Nat} {want m : Bool} (hg : o.guard = some (j, want)) (hj : (ops[j]?).bind (·.dst) = some t) (hb : look l t = .tup m []) : Grd ops o (mkS n l h) false := by
  unfold Grd; rw [hg]; exact ⟨t, m, hj, .inr ⟨hb, rfl⟩⟩
theorem w_off {u : Nat} (hg : Grd ops o (mkS n l h) false) (hd : o.dst = some u) (ht : Nat.blt u n = true) (hk : W P ops Z rest (mkS n ((u, .tup true []) :: l) h) (psh skipS q) K) : W P ops Z (o :: rest) (mkS n l h) q K := by
  have hk' : W P ops Z rest ((mkS n l h).app o.dst skipS) (psh skipS q) K := by
    have e : (mkS n l h).app o.dst skipS = mkS n ((u, .tup true []) :: l) h := by rw [hd]; rfl
    rw [e]; exact hk
  exact ⟨false, skipS, hg, by unfold dstOk; rw [hd]; exact ht, (fun h => by cases h), fun _ => rfl, hk'⟩
theorem w_nil (hk : K (mkS n l h)) : W P ops Z [] (mkS n l h) none K := ⟨fun _ h => (by cases h), hk⟩
theorem x_nil (hz : Z acc = true) (hk : K (mkS n l h)) : W P ops Z [] (mkS n l h) (some acc) K := ⟨fun _ h => by injection h with h; rw [← h]; exact hz, hk⟩
theorem okB_pure {t : Nat} (hd : o.dst = some t) (ht : Nat.blt t n = true) : okB n o.dst fp [] [] [] l h = true := by
  unfold okB
  rw [hd]
  simp only [Bool.and_eq_true]
  exact ⟨⟨ht, rfl⟩, rfl⟩

theorem w_seq {l : List Oper} {s : St} (h : W P ops Z l s none K) : W P ops Z l s none K := h
theorem w_drw {l : List Oper} {s : St} (h : W P ops Z l s (some acc) K) : W P ops Z l s (some acc) K := h
/-! in a row -/
theorem w_q {t : Nat} (hg : o.guard = none) (hd : o.dst = some t) (hL : Loc P (lookH h) (evD (look l)) o d) (ht : Nat.blt t n = true) (hk : W P ops Z rest (mkS n ((t, d) :: l) h) none K) : W P ops Z (o :: rest) (mkS n l h) none K :=
  w_core (grd_none hg) rfl (fp := keys h) (resH_keys h).symm hL (okB_pure hd ht) (by rw [hd]; rfl) rfl hk
theorem w_yes {j t u : Nat} {want m : Bool} (hg : o.guard = some (j, want)) (hj : (ops[j]?).bind (·.dst) = some t) (hb : look l t = .one (.r m (bool want))) (hd : o.dst = some u) (hL : Loc P (lookH h) (evD (look l)) o d) (ht : Nat.blt u n = true) (hk : W P ops Z rest (mkS n ((u, d) :: l) h) none K) : W P ops Z (o :: rest) (mkS n l h) none K :=
  w_core (grd_yes hg hj hb) rfl (fp := keys h) (resH_keys h).symm hL (okB_pure hd ht) (by rw [hd]; rfl) rfl hk
theorem w_e (hg : o.guard = none) (hE : Eff P (lookH h) (evD (look l)) o d τ new U) (hok : okB n o.dst (keys h) τ new U l h = true) (hl : putLO o.dst d l = some l') (hh : appLO U h = some h') (hk : W P ops Z rest (mkS n l' h') none K) : W P ops Z (o :: rest) (mkS n l h) none K :=
  w_core (grd_none hg) rfl (fp := keys h) (resH_keys h).symm hE hok (putLO_ok hl) (appLO_ok hh) hk
theorem w_ey {j t : Nat} {want m : Bool} (hg : o.guard = some (j, want)) (hj : (ops[j]?).bind (·.dst) = some t) (hb : look l t = .one (.r m (bool want))) (hE : Eff P (lookH h) (evD (look l)) o d τ new U) (hok : okB n o.dst (keys h) τ new U l h = true) (hl : putLO o.dst d l = some l') (hh : appLO U h = some h') (hk : W P ops Z rest (mkS n l' h') none K) : W P ops Z (o :: rest) (mkS n l h) none K :=
  w_core (grd_yes hg hj hb) rfl (fp := keys h) (resH_keys h).symm hE hok (putLO_ok hl) (appLO_ok hh) hk
theorem w_no {j t u : Nat} {want b m : Bool} (hg : o.guard = some (j, want)) (hj : (ops[j]?).bind (·.dst) = some t) (hb : look l t = .one (.r m (bool b))) (hw : (b == want) = false) (hd : o.dst = some u) (ht : Nat.blt u n = true) (hk : W P ops Z rest (mkS n ((u, .tup true []) :: l) h) none K) : W P ops Z (o :: rest) (mkS n l h) none K := w_off (grd_no hg hj hb hw) hd ht hk
theorem w_un {j t u : Nat} {want m : Bool} (hg : o.guard = some (j, want)) (hj : (ops[j]?).bind (·.dst) = some t) (hb : look l t = .tup m []) (hd : o.dst = some u) (ht : Nat.blt u n = true) (hk : W P ops Z rest (mkS n ((u, .tup true []) :: l) h) none K) : W P ops Z (o :: rest) (mkS n l h) none K := w_off (grd_un hg hj hb) hd ht hk
/-! in whatever order -/
theorem x_q {t : Nat} (hg : o.guard = none) (hd : o.dst = some t) (hL : Loc P (lookH (filtH fp h)) (evD (look l)) o d) (ht : Nat.blt t n = true) (hk : W P ops Z rest (mkS n ((t, d) :: l) h) (some (⟨d, fp, [], [], []⟩ :: acc)) K) : W P ops Z (o :: rest) (mkS n l h) (some acc) K :=
  w_core (grd_none hg) rfl (fp := fp) (filtH_ok fp h) hL (okB_pure hd ht) (by rw [hd]; rfl) rfl hk
theorem x_yes {j t u : Nat} {want m : Bool} (hg : o.guard = some (j, want)) (hj : (ops[j]?).bind (·.dst) = some t) (hb : look l t = .one (.r m (bool want))) (hd : o.dst = some u) (hL : Loc P (lookH (filtH fp h)) (evD (look l)) o d) (ht : Nat.blt u n = true) (hk : W P ops Z rest (mkS n ((u, d) :: l) h) (some (⟨d, fp, [], [], []⟩ :: acc)) K) : W P ops Z (o :: rest) (mkS n l h) (some acc) K :=
  w_core (grd_yes hg hj hb) rfl (fp := fp) (filtH_ok fp h) hL (okB_pure hd ht) (by rw [hd]; rfl) rfl hk
theorem x_e (hg : o.guard = none) (hE : Eff P (lookH (filtH fp h)) (evD (look l)) o d τ new U) (hok : okB n o.dst fp τ new U l h = true) (hl : putLO o.dst d l = some l') (hh : appLO U h = some h') (hk : W P ops Z rest (mkS n l' h') (some (⟨d, fp, τ, new, U⟩ :: acc)) K) : W P ops Z (o :: rest) (mkS n l h) (some acc) K :=
  w_core (grd_none hg) rfl (fp := fp) (filtH_ok fp h) hE hok (putLO_ok hl) (appLO_ok hh) hk
theorem x_ey {j t : Nat} {want m : Bool} (hg : o.guard = some (j, want)) (hj : (ops[j]?).bind (·.dst) = some t) (hb : look l t = .one (.r m (bool want))) (hE : Eff P (lookH (filtH fp h)) (evD (look l)) o d τ new U) (hok : okB n o.dst fp τ new U l h = true) (hl : putLO o.dst d l = some l') (hh : appLO U h = some h') (hk : W P ops Z rest (mkS n l' h') (some (⟨d, fp, τ, new, U⟩ :: acc)) K) : W P ops Z (o :: rest) (mkS n l h) (some acc) K :=
  w_core (grd_yes hg hj hb) rfl (fp := fp) (filtH_ok fp h) hE hok (putLO_ok hl) (appLO_ok hh) hk
theorem x_no {j t u : Nat} {want b m : Bool} (hg : o.guard = some (j, want)) (hj : (ops[j]?).bind (·.dst) = some t) (hb : look l t = .one (.r m (bool b))) (hw : (b == want) = false) (hd : o.dst = some u) (ht : Nat.blt u n = true) (hk : W P ops Z rest (mkS n ((u, .tup true []) :: l) h) (some (skipS :: acc)) K) : W P ops Z (o :: rest) (mkS n l h) (some acc) K := w_off (grd_no hg hj hb hw) hd ht hk
theorem x_un {j t u : Nat} {want m : Bool} (hg : o.guard = some (j, want)) (hj : (ops[j]?).bind (·.dst) = some t) (hb : look l t = .tup m []) (hd : o.dst = some u) (ht : Nat.blt u n = true) (hk : W P ops Z rest (mkS n ((u, .tup true []) :: l) h) (some (skipS :: acc)) K) : W P ops Z (o :: rest) (mkS n l h) (some acc) K := w_off (grd_un hg hj hb) hd ht hk
theorem look_true {t : Nat} {d : D} (hd : look l t = d) : look ((t, d) :: l) = look l := by
  funext u
  simp only [look, upd]
  split
  · rename_i e; subst e; exact hd.symm
  · rfl
/-- The guard's Bool is a letter: both ways, the slot then holds the Bool written out. -/
theorem w_split {j t : Nat} {want b m : Bool} (hg : o.guard = some (j, want)) (hj : (ops[j]?).bind (·.dst) = some t) (hb : look l t = .one (.r m (bool b))) (h1 : b = true → W P ops Z (o :: rest) (mkS n ((t, .one (.r m (bool true))) :: l) h) q K) (h2 : b = false → W P ops Z (o :: rest) (mkS n ((t, .one (.r m (bool false))) :: l) h) q K) : W P ops Z (o :: rest) (mkS n l h) q K := by
  cases b with
  | true => have := h1 rfl; rwa [mkS, look_true hb] at this
  | false => have := h2 rfl; rwa [mkS, look_true hb] at this
end
end Go.Proofs.Ytjjeihcmiofkmaa.Abs
