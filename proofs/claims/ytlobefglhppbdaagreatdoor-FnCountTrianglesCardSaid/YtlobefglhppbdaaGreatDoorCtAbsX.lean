/- Calls that hand back rows and are handed values only: the values may lie in rows of the caller's own. No statement of the seat is proved here. -/
import Derived.Test.YtlobefglhppbdaaGreatDoorCtAbsS
set_option linter.unusedSimpArgs false
set_option linter.unusedVariables false
namespace Go.Proofs.YtlobefglhppbdaaGreatDoor.Abs
open Go.RowKit
open R (val row ref)
def newC : Cell → Bool
  | .r _ (.val _) => true
  | .r m _ => m
  | _ => true
def newT : List (Bool × List Cell) → Bool
  | [] => true
  | x :: xs => x.2.all newC && newT xs
def newD : D → Bool
  | .one x => newC x
  | .agg xs => xs.all newC
  | .tup n _ => n
  | .any => true
  | .tups xs => newT xs
def newOb : Ob → Bool
  | .var _ cs => cs.all newC
  | .sl _ _ n _ => n
def newH : List (Nat × Ob) → Bool
  | [] => true
  | (_, ob) :: h => newOb ob && newH h
section
variable {ι : Nat → Nat × Nat} {base base0 : Nat} {w : World} {own own' : Nat → Prop}
theorem newC_p (ho : ∀ b, own b → b < base0) (hb : base ≤ base0) {v : Value} : ∀ {x : Cell}, newC x = true → x.p ι base0 ⟨w, own'⟩ v → x.p ι base ⟨w, fun b => own b ∨ own' b⟩ v
  | .r m (.val u), _, h => val_p.2 (val_p.1 h)
  | .r true r, _, h => R.mono r (Cx.Ext.sub (c := Cx.young ⟨w, own'⟩ base0 true) (c' := Cx.young ⟨w, fun b => own b ∨ own' b⟩ base true) rfl (fun b hb' => by
      rcases hb' with (h1 | h1) | h1
      · exact .inr (ho b h1)
      · exact .inl h1
      · exact .inr (Nat.lt_of_lt_of_le h1 hb))) h
  | .r false (.row ..), h, _ => by cases h
  | .r false (.ref _), h, _ => by cases h
  | .own .., _, h => h
  | .ptr .., _, h => h
  | .any, _, h => h
  | .clo .., _, h => h
theorem newT_all : ∀ {xs : List (Bool × List Cell)}, newT xs = true → ∀ x ∈ xs, ∀ y ∈ x.2, newC y = true
  | x :: xs, h, z, hz, y, hy => by
    simp only [newT, Bool.and_eq_true, List.all_eq_true] at h
    simp only [List.mem_cons] at hz
    rcases hz with rfl | hz
    · exact h.1 y hy
    · exact newT_all h.2 z hz y hy
theorem newD_p (ho : ∀ b, own b → b < base0) (hb : base ≤ base0) {v : Value} : ∀ {d : D}, newD d = true → d.p ι base0 ⟨w, own'⟩ v → d.p ι base ⟨w, fun b => own b ∨ own' b⟩ v
  | .one x, h, hp => newC_p ho hb h hp
  | .agg xs, h, ⟨vs, h1, h2, h3⟩ => ⟨vs, h1, h2, fun j x hj => by
      obtain ⟨u, hu, hx⟩ := h3 j x hj
      exact ⟨u, hu, newC_p ho hb (List.all_eq_true.1 h x (List.mem_of_getElem? hj)) hx⟩⟩
  | .tup true xs, _, ⟨vs, h1, h2, h3⟩ => ⟨vs, h1, h2, fun j x hj => by
      obtain ⟨u, hu, hx⟩ := h3 j x hj
      exact ⟨u, hu, P0.mono (Cx.Ext.sub (c := Cx.young ⟨w, own'⟩ base0 true) (c' := Cx.young ⟨w, fun b => own b ∨ own' b⟩ base true) rfl (fun b hb' => by
        rcases hb' with (h1 | h1) | h1
        · exact .inr (ho b h1)
        · exact .inl h1
        · exact .inr (Nat.lt_of_lt_of_le h1 hb))) hx⟩⟩
  | .any, _, _ => trivial
  | .tups xs, h, hp => D.tups_imp (fun x hx y hy _ h1 => newC_p ho hb (newT_all h x hx y hy) h1) hp
theorem newOb_p (ho : ∀ b, own b → b < base0) (hb : base ≤ base0) {b : Nat × Nat} : ∀ {ob : Ob}, newOb ob = true → ob.p ι base0 ⟨w, own'⟩ b → ob.p ι base ⟨w, fun b => own b ∨ own' b⟩ b
  | .var E cs, h, ⟨arr, h1, h2, h3⟩ => ⟨arr, h1, h2, fun j x hj => by
      obtain ⟨u, hu, hx⟩ := h3 j x hj
      exact ⟨u, hu, newC_p ho hb (List.all_eq_true.1 h x (List.mem_of_getElem? hj)) hx⟩⟩
  | .sl E sz true els, _, ⟨arr, h1, h2, h3⟩ => ⟨arr, h1, h2, fun i e hi => ⟨(h3 i e hi).1, fun j r hj => by
      obtain ⟨u, hu, hx⟩ := (h3 i e hi).2 j r hj
      exact ⟨u, hu, R.mono r (Cx.Ext.sub (c := Cx.young ⟨w, own'⟩ base0 true) (c' := Cx.young ⟨w, fun b => own b ∨ own' b⟩ base true) rfl (fun b hb' => by
        rcases hb' with (h1 | h1) | h1
        · exact .inr (ho b h1)
        · exact .inl h1
        · exact .inr (Nat.lt_of_lt_of_le h1 hb))) hx⟩⟩⟩
end
theorem newH_get : ∀ {h : List (Nat × Ob)}, newH h = true → ∀ k ob, lookH h k = some ob → newOb ob = true
  | (k0, ob0) :: h, hn, k, ob, hk => by
    simp only [newH, Bool.and_eq_true] at hn
    unfold lookH at hk
    rcases Classical.em (k = k0) with e | e
    · rw [e, upd_same] at hk
      injection hk with hk; subst hk; exact hn.1
    · rw [upd_ne _ _ e] at hk
      exact newH_get hn.2 k ob hk
theorem dargs0 {ι : Nat → Nat × Nat} {base : Nat} {c : Cx} : ∀ {vs : List Value} {ys : List P0}, Args c vs ys → DArgs ι base c vs (ys.map (P0.d false))
  | [], [], _ => trivial
  | v :: vs, y :: ys, ⟨h1, h2⟩ => ⟨P0.d_p.2 h1, dargs0 h2⟩
  | [], _ :: _, h => h.elim
  | _ :: _, [], h => h.elim
theorem e_callS0 {P : Program} {H : Nat → Option Ob} {ev : Operand → D} {o : Oper} {f : FuncId} {args : List D} {ys : List P0} {d : D} {h' : List (Nat × Ob)} {xs : List Operand} {tys : Array TypeId} (ρ : List (Nat × Nat)) (hf : FnS P f args [] d h') (hy : args = ys.map (P0.d false)) (ho : o.op = .call { callee := .value (.func f), args := xs.toArray, argTypes := tys })
    (ha : AsArgs H ev xs ys) (hok : okS ρ d [] h' = true) (hnew : (newD d && newH h') = true) : Eff P H ev o (d.ren ρ) [] (mapN ρ (lowN (keys h'))) (someU ρ h') := by
  subst hy
  simp only [Bool.and_eq_true] at hnew
  obtain ⟨hnD, hnH⟩ := hnew
  unfold okS at hok
  simp only [Bool.and_eq_true, List.all_eq_true, Bool.or_eq_true, memB_spec, Nat.blt_eq] at hok
  obtain ⟨⟨⟨⟨hinj, hnd⟩, hcl⟩, hpn⟩, hdn⟩ := hok
  have hρ : ∀ a ∈ keys h', ∀ b ∈ keys h', ren ρ a = ren ρ b → a = b := fun a ha b hb e => by
    unfold injN at hinj
    have := List.all_eq_true.1 (List.all_eq_true.1 hinj a (List.mem_append_right _ ha)) b (List.mem_append_right _ hb)
    rw [e] at this
    simpa using this
  intro base a w ι own hown hbase hev hH hHi K Q hK
  have hm : ∀ x ∈ xs, (ev x).p ι base ⟨w, own⟩ (a.eval x) := fun x hx => hev x (by rw [ho]; simp [Op.operands, Call.operands, hx])
  have hrun : (execOp a.eval o).run P w = .ok (.enter f (xs.map a.eval).toArray) w := by
    unfold execOp
    rw [ho]
    simp [resolve, Act.eval, Deferred.ofValue, invoke, hf.1 _ _]
  unfold Oper.wp
  rw [hrun, Oper.upon_enter]
  refine (hf.2 w.heap.size w (fun k => ι (ren ρ k)) (fun _ => False) _ (fun b h => h.elim) ⟨Nat.le_refl _, hbase.2.mono hbase.1⟩ (fun k ob hk => by cases hk) (fun k k' ob ob' hk => by cases hk) (dargs0 (args_of hH xs ys hm ha))).mono ?_
  rintro e w' ⟨v, ιc, own', rfl, hc⟩
  have ho' : ∀ b, own b → b < w.heap.size := fun b hb => (hown b hb).2
  let ι' : Nat → Nat × Nat := fun k => match invN ρ (lowN (keys h')) k with | some m => ιc m | none => ι k
  have hι : ∀ m ∈ keys h', ι' (ren ρ m) = ιc m := fun m hm => by
    show (match invN ρ (lowN (keys h')) (ren ρ m) with | some m => ιc m | none => ι (ren ρ m)) = ιc m
    cases hi : invN ρ (lowN (keys h')) (ren ρ m) with
    | some m' =>
      obtain ⟨h1, h2⟩ := invN_some hi
      rw [hρ m' (mem_lowN.1 h1).1 m hm h2]
    | none =>
      have hge : pinned ≤ m := by
        rcases Nat.lt_or_ge m pinned with hlt | hge
        · exact absurd rfl (invN_none hi m (mem_lowN.2 ⟨hm, hlt⟩))
        · exact hge
      rcases hpn m hm with h1 | h1
      · omega
      · cases h1
  refine hK v w' ι' (fun b => own b ∨ own' b) ⟨hc.os, hc.tape, hc.output, hc.size, fun b hb _ => hc.block b hb (fun k hk => by cases hk), hc.sized, fun b hb _ => .inl hb, fun b hb => ?_, fun b hb => ?_, fun k hk => ?_, ?_, fun k ob hU => ?_, fun k ob k' ob' hU hU' e => ?_⟩
  · rcases hb with hb | hb
    · exact .inl hb
    · rcases hc.own2 b hb with h1 | h1
      · exact h1.elim
      · exact .inr h1
  · rcases hb with hb | hb
    · exact Nat.lt_of_lt_of_le (hown b hb).2 hc.size
    · exact (hc.own3 b hb).2
  · show (match invN ρ (lowN (keys h')) k with | some m => ιc m | none => ι k) = ι k
    cases hi : invN ρ (lowN (keys h')) k with
    | some m => obtain ⟨h1, h2⟩ := invN_some hi; exact absurd (mem_mapN.2 ⟨m, h1, h2⟩) hk
    | none => rfl
  · exact D.p_ren (D.p_on (fun u hu => hι u (hdn u (d_names hu))) (newD_p ho' hbase.1 hnD hc.val))
  · obtain ⟨m, om, h1, rfl, rfl⟩ := mem_someU hU
    have hl := lookH_mem hnd h1
    obtain ⟨q1, q2, q3⟩ := hc.named m om hl
    have hmk := lookH_keys hl
    rw [hι m hmk]
    refine ⟨.inr q1, Ob.p_ren (Ob.p_on (fun u hu => hι u (closedB_spec hcl m om h1 u hu)) (newOb_p ho' hbase.1 (newH_get hnH m om hl) q2)), ?_⟩
    rcases q3 with q3 | ⟨k0, hk0, q3⟩
    · exact .inl q3
    · cases hk0
  · obtain ⟨m, om, h1, rfl, rfl⟩ := mem_someU hU
    obtain ⟨m', om', h1', rfl, rfl⟩ := mem_someU hU'
    have hl := lookH_mem hnd h1
    have hl' := lookH_mem hnd h1'
    rw [hι m (lookH_keys hl), hι m' (lookH_keys hl')] at e
    rw [hc.inj m m' om om' hl hl' e]
section
variable (k sz : Nat) (new : Bool) (els : List P0)
def frC : Cell → Cell
  | .own a j n s => bif Nat.beq a k then (bif Nat.beq s sz && Nat.ble (j + n) els.length then .r new (row false sz ((els.drop j).take n)) else .any) else .own a j n s
  | .ptr a i s off => bif Nat.beq a k then .any else .ptr a i s off
  | .clo f ps => bif ps.any (fun p => Nat.beq p.1 k) then .any else .clo f ps
  | x => x
def frCs : List Cell → List Cell
  | [] => []
  | x :: xs => frC k sz new els x :: frCs xs
def frD : D → D
  | .one x => .one (frC k sz new els x)
  | .agg xs => .agg (frCs k sz new els xs)
  | .tups xs => .tups (xs.map fun x => (x.1, x.2.map (frC k sz new els)))
  | d => d
def frO : Ob → Ob
  | .var E xs => .var E (frCs k sz new els xs)
  | ob => ob
def frL : List (Nat × D) → List (Nat × D)
  | [] => []
  | (t, d) :: l => (t, frD k sz new els d) :: frL l
def frH : List (Nat × Ob) → List (Nat × Ob)
  | [] => []
  | (u, ob) :: h => bif Nat.beq u k then frH h else (u, frO k sz new els ob) :: frH h
end
theorem frCs_eq (k sz : Nat) (new : Bool) (els : List P0) : ∀ xs : List Cell, frCs k sz new els xs = xs.map (frC k sz new els)
  | [] => rfl
  | x :: xs => by simp [frCs, frCs_eq k sz new els xs]
theorem sub_ext {w : World} {own own' : Nat → Prop} (hsub : ∀ b, own' b → own b) : Cx.Ext ⟨w, own⟩ ⟨w, own'⟩ := Cx.Ext.sub (c := ⟨w, own⟩) (c' := ⟨w, own'⟩) rfl hsub
theorem sub_young {w : World} {own own' : Nat → Prop} (hsub : ∀ b, own' b → own b) (base : Nat) (n : Bool) : Cx.Ext (Cx.young ⟨w, own⟩ base n) (Cx.young ⟨w, own'⟩ base n) := Cx.Ext.young (sub_ext hsub) base n
section
variable {k sz : Nat} {new : Bool} {els : List P0} {E : TypeId} {ι : Nat → Nat × Nat} {base : Nat} {w : World} {own own' : Nat → Prop}
theorem frC_p (ho : own (ι k).1 → base ≤ (ι k).1) (hk : own (ι k).1 ∧ (Ob.sl E sz new els).p ι base ⟨w, own⟩ (ι k)) (hsub : ∀ b, own' b → own b) (hno : ¬ own' (ι k).1) {v : Value} : ∀ {x : Cell}, x.p ι base ⟨w, own⟩ v → (frC k sz new els x).p ι base ⟨w, own'⟩ v
  | .r n x, h => x.mono (sub_young hsub base n) h
  | .own a j n s, h => by
    simp only [frC]
    cases ha : Nat.beq a k with
    | true =>
      have : a = k := by simpa using ha
      subst this
      simp only [cond_true]
      cases hb : Nat.beq s sz && Nat.ble (j + n) els.length with
      | false => exact Cell.one (x := .own a j n s) h
      | true =>
        simp only [Bool.and_eq_true, Nat.ble_eq, Nat.beq_eq] at hb
        obtain ⟨rfl, h1⟩ := hb
        have hy : Cx.Ext (Cx.young ⟨w, own⟩ base new) (Cx.young ⟨w, own'⟩ base new) := sub_young hsub base new
        have hno2 : ¬ (Cx.young ⟨w, own'⟩ base new).own (ι a).1 := by
          cases new with
          | false => exact hno
          | true =>
            intro h2
            rcases h2 with h2 | h2
            · exact hno h2
            · exact absurd (ho hk.1) (Nat.not_le.2 h2)
        have hw : (Cx.young ⟨w, own'⟩ base new) = ⟨w, (Cx.young ⟨w, own'⟩ base new).own⟩ := by cases new <;> rfl
        show (row false s ((els.drop j).take n)).p (Cx.young ⟨w, own'⟩ base new) v
        rw [hw] at hy ⊢
        exact row_of_own hk h1 h hno2 hy
    | false =>
      simp only [cond_false]
      exact Cell.mono (c := ⟨w, own⟩) (c' := ⟨w, own'⟩) (Cx.Ext.sub rfl hsub) (fun b arr E h => ⟨arr, h, rfl⟩) (x := .own a j n s) h
  | .ptr a i s off, h => by
    simp only [frC]
    cases ha : Nat.beq a k with
    | true => exact Cell.one (x := .ptr a i s off) h
    | false => exact h
  | .any, h => h
  | .clo f ps, h => by
    simp only [frC]
    cases ha : ps.any (fun p => Nat.beq p.1 k) with
    | true => exact h.2
    | false => exact h
theorem frD_p (ho : own (ι k).1 → base ≤ (ι k).1) (hk : own (ι k).1 ∧ (Ob.sl E sz new els).p ι base ⟨w, own⟩ (ι k)) (hsub : ∀ b, own' b → own b) (hno : ¬ own' (ι k).1) {v : Value} : ∀ {x : D}, x.p ι base ⟨w, own⟩ v → (frD k sz new els x).p ι base ⟨w, own'⟩ v
  | .one x, h => frC_p ho hk hsub hno h
  | .agg xs, ⟨vs, h1, h2, h3⟩ => ⟨vs, h1, by rw [frCs_eq]; simpa using h2, fun i x hi => by
      rw [frCs_eq, List.getElem?_map, Option.map_eq_some_iff] at hi
      obtain ⟨y, hy, rfl⟩ := hi
      obtain ⟨u, hu, hp⟩ := h3 i y hy
      exact ⟨u, hu, frC_p ho hk hsub hno hp⟩⟩
  | .tup n xs, ⟨vs, h1, h2, h3⟩ => ⟨vs, h1, h2, fun j x hj => let ⟨u, hu, hx⟩ := h3 j x hj; ⟨u, hu, P0.mono (sub_young hsub base n) hx⟩⟩
  | .any, _ => trivial
  | .tups xs, h => D.tups_map (frC k sz new els) (fun x hx y hy _ h1 => frC_p ho hk hsub hno h1) h
theorem frO_p (ho : own (ι k).1 → base ≤ (ι k).1) (hk : own (ι k).1 ∧ (Ob.sl E sz new els).p ι base ⟨w, own⟩ (ι k)) (hsub : ∀ b, own' b → own b) (hno : ¬ own' (ι k).1) {b : Nat × Nat} : ∀ {x : Ob}, x.p ι base ⟨w, own⟩ b → (frO k sz new els x).p ι base ⟨w, own'⟩ b
  | .var E xs, ⟨arr, h1, h2, h3⟩ => ⟨arr, h1, by rw [frCs_eq]; simpa using h2, fun i x hi => by
      rw [frCs_eq, List.getElem?_map, Option.map_eq_some_iff] at hi
      obtain ⟨y, hy, rfl⟩ := hi
      obtain ⟨u, hu, hp⟩ := h3 i y hy
      exact ⟨u, hu, frC_p ho hk hsub hno hp⟩⟩
  | .sl _ _ n _, ⟨arr, h1, h2, h3⟩ => ⟨arr, h1, h2, fun i e he => ⟨(h3 i e he).1, fun j r hr => let ⟨u, hu, hp⟩ := (h3 i e he).2 j r hr; ⟨u, hu, r.mono (sub_young hsub base n) hp⟩⟩⟩
end
theorem look_frL {k sz : Nat} {new : Bool} {els : List P0} : ∀ (l : List (Nat × D)) (t : Nat), look (frL k sz new els l) t = frD k sz new els (look l t)
  | [], t => rfl
  | (u, d) :: l, t => by
    simp only [frL, look, upd]
    split
    · rfl
    · exact look_frL l t
theorem lookH_frH {k sz : Nat} {new : Bool} {els : List P0} : ∀ (h : List (Nat × Ob)) (x : Nat), lookH (frH k sz new els h) x = if x = k then none else (lookH h x).map (frO k sz new els)
  | [], x => by simp [frH, lookH]
  | (u, ob) :: h, x => by
    have ih := lookH_frH (k := k) (sz := sz) (new := new) (els := els) h x
    simp only [frH]
    cases hb : Nat.beq u k with
    | true =>
      have : u = k := by simpa using hb
      subst this
      simp only [cond_true, ih, lookH, upd]
      by_cases h1 : x = u
      · rw [if_pos h1, if_pos h1]
      · rw [if_neg h1, if_neg h1, if_neg h1]
    | false =>
      have hne : u ≠ k := fun e => by subst e; simp at hb
      simp only [cond_false, lookH, upd, ih]
      by_cases h1 : x = u
      · subst h1
        rw [if_pos rfl, if_neg hne, if_pos rfl]; rfl
      · rw [if_neg h1]
        by_cases h2 : x = k
        · rw [if_pos h2, if_pos h2]
        · rw [if_neg h2, if_neg h2, if_neg h1]
theorem weak_freeze {n : Nat} {l : List (Nat × D)} {h : List (Nat × Ob)} {E : TypeId} {sz : Nat} {new : Bool} {els : List P0} (k : Nat) (hk : lookHO h k = some (.sl E sz new els)) : Weak (mkS n l h) (mkS n (frL k sz new els l) (frH k sz new els h)) := by
  have hkk := lookHO_spec hk
  rintro w0 a w ⟨ι, own, hs⟩
  have hK := hs.heap k _ hkk
  have hsub : ∀ b, (own b ∧ b ≠ (ι k).1) → own b := fun b h => h.1
  have hno : ¬ (own (ι k).1 ∧ (ι k).1 ≠ (ι k).1) := fun h => h.2 rfl
  have hb : own (ι k).1 → w0.base ≤ (ι k).1 := fun h => (hs.own_ _ h).1
  have get : ∀ x ob, lookH (frH k sz new els h) x = some ob → x ≠ k ∧ ∃ o, lookH h x = some o ∧ ob = frO k sz new els o := fun x ob hx => by
    rw [lookH_frH] at hx
    by_cases h1 : x = k
    · rw [if_pos h1] at hx; cases hx
    · rw [if_neg h1, Option.map_eq_some_iff] at hx
      obtain ⟨o, ho, rfl⟩ := hx
      exact ⟨h1, o, ho, rfl⟩
  refine ⟨ι, fun b => own b ∧ b ≠ (ι k).1, hs.below, hs.base_, fun b hb => hs.own_ b hb.1, fun b hl ho hM => ⟨hs.keep b hl ho hM, fun e => ?_⟩, fun b hb => hs.frm b hb.1, hs.size, fun t => ?_, fun x ob hx => ?_, fun x ob hx => ?_, fun x x' ob ob' hx hx' e => ?_, hs.defers, hs.pin⟩
  · rcases hs.place k _ hkk with h1 | h1
    · omega
    · exact hM (e ▸ h1)
  · show (look (frL k sz new els l) t).p _ _ _ _
    rw [look_frL]
    exact frD_p hb hK hsub hno (hs.env t)
  · obtain ⟨h1, o, ho, rfl⟩ := get x ob hx
    obtain ⟨q1, q2⟩ := hs.heap x o ho
    exact ⟨⟨q1, fun e => h1 (hs.inj x k o _ ho hkk e)⟩, frO_p hb hK hsub hno q2⟩
  · obtain ⟨h1, o, ho, rfl⟩ := get x ob hx
    exact hs.place x o ho
  · obtain ⟨h1, o, ho, rfl⟩ := get x ob hx
    obtain ⟨h1', o', ho', rfl⟩ := get x' ob' hx'
    exact hs.inj x x' o o' ho ho' e
theorem at_dst {P : Program} {H : Nat → Option Ob} {ev : Operand → D} {o : Oper} {d : D} {τ nw : List Nat} {U : List (Nat × Option Ob)} (t : Nat) (hd : o.dst = some t) (h : Eff P H ev o d τ nw U) : Eff P H ev o d τ nw U := h
end Go.Proofs.YtlobefglhppbdaaGreatDoor.Abs
