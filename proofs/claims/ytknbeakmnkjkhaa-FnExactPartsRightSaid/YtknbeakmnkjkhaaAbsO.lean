/- Single operations reckoned: one function that gives what an operation yields or turns, and that it is right. No statement of the seat is proved here. -/
import Derived.Test.YtknbeakmnkjkhaaAbsK
set_option linter.unusedSimpArgs false
set_option linter.unusedVariables false
namespace Go.Proofs.Ytknbeakmnkjkhaa.Abs
open Go.RowKit
open R (val row ref)

/-- What is known of the program's types. -/
structure TB where
  tys : List (Nat × Bool × Nat)
  fls : List (Nat × Nat × Nat × Nat)
  sls : List (Nat × Nat × Nat)
  zs : List (Nat × List Cell)
  bos : List Nat
def AllTy (P : Program) : List (Nat × Bool × Nat) → Prop
  | [] => True
  | (t, b, n) :: r => tyOf P t = some (b, n) ∧ AllTy P r
def AllFl (P : Program) : List (Nat × Nat × Nat × Nat) → Prop
  | [] => True
  | (t, f, o, ft) :: r => fldOf P t f = some (o, ft) ∧ AllFl P r
def AllSl (P : Program) : List (Nat × Nat × Nat) → Prop
  | [] => True
  | (t, e, n) :: r => slOf P t = some (e, n) ∧ AllSl P r
def AllZ (P : Program) : List (Nat × List Cell) → Prop
  | [] => True
  | (t, cs) :: r => zcOf P t = some cs ∧ AllZ P r
def AllBo (P : Program) : List Nat → Prop
  | [] => True
  | t :: r => P.underlying t = some .bool ∧ AllBo P r
structure TbOk (P : Program) (tb : TB) : Prop where
  ty : AllTy P tb.tys
  fl : AllFl P tb.fls
  sl : AllSl P tb.sls
  z : AllZ P tb.zs
  bo : AllBo P tb.bos

def tyL : List (Nat × Bool × Nat) → Nat → Option (Bool × Nat)
  | [], _ => none
  | (t, b, n) :: r, u => bif Nat.beq u t then some (b, n) else tyL r u
theorem tyL_ok {P : Program} : ∀ {l : List (Nat × Bool × Nat)} {u : Nat} {x : Bool × Nat}, AllTy P l → tyL l u = some x → tyOf P u = some x
  | (t, b, n) :: r, u, x, ⟨h1, h2⟩, h => by
    simp only [tyL] at h
    cases hb : Nat.beq u t with
    | true => rw [hb] at h; simp at hb; subst hb; rw [h1]; simpa using h
    | false => rw [hb] at h; exact tyL_ok h2 h
def flL : List (Nat × Nat × Nat × Nat) → Nat → Nat → Option (Nat × Nat)
  | [], _, _ => none
  | (t, f, o, ft) :: r, u, g => bif Nat.beq u t && Nat.beq g f then some (o, ft) else flL r u g
theorem flL_ok {P : Program} : ∀ {l : List (Nat × Nat × Nat × Nat)} {u g : Nat} {x : Nat × Nat}, AllFl P l → flL l u g = some x → fldOf P u g = some x
  | (t, f, o, ft) :: r, u, g, x, ⟨h1, h2⟩, h => by
    simp only [flL] at h
    cases hb : Nat.beq u t && Nat.beq g f with
    | true => rw [hb] at h; simp at hb; obtain ⟨rfl, rfl⟩ := hb; rw [h1]; simpa using h
    | false => rw [hb] at h; exact flL_ok h2 h
def slL : List (Nat × Nat × Nat) → Nat → Option (Nat × Nat)
  | [], _ => none
  | (t, e, n) :: r, u => bif Nat.beq u t then some (e, n) else slL r u
theorem slL_ok {P : Program} : ∀ {l : List (Nat × Nat × Nat)} {u : Nat} {x : Nat × Nat}, AllSl P l → slL l u = some x → slOf P u = some x
  | (t, b, n) :: r, u, x, ⟨h1, h2⟩, h => by
    simp only [slL] at h
    cases hb : Nat.beq u t with
    | true => rw [hb] at h; simp at hb; subst hb; rw [h1]; simpa using h
    | false => rw [hb] at h; exact slL_ok h2 h
def zL : List (Nat × List Cell) → Nat → Option (List Cell)
  | [], _ => none
  | (t, cs) :: r, u => bif Nat.beq u t then some cs else zL r u
theorem zL_ok {P : Program} : ∀ {l : List (Nat × List Cell)} {u : Nat} {x : List Cell}, AllZ P l → zL l u = some x → zcOf P u = some x
  | (t, cs) :: r, u, x, ⟨h1, h2⟩, h => by
    simp only [zL] at h
    cases hb : Nat.beq u t with
    | true => rw [hb] at h; simp at hb; subst hb; rw [h1]; simpa using h
    | false => rw [hb] at h; exact zL_ok h2 h

def kEq : IntKind → IntKind → Bool
  | .i8, .i8 | .i16, .i16 | .i32, .i32 | .i64, .i64 | .u8, .u8 | .u16, .u16 | .u32, .u32 | .u64, .u64 => true
  | _, _ => false
theorem kEq_ok {a b : IntKind} (h : kEq a b = true) : a = b := by cases a <;> cases b <;> first | rfl | cases h

def mapR (n : Bool) : List R → List Cell
  | [] => []
  | r :: rs => .r n r :: mapR n rs
theorem mapR_eq (n : Bool) : ∀ rs : List R, mapR n rs = rs.map (.r n)
  | [] => rfl
  | r :: rs => by simp [mapR, mapR_eq n rs]
def dO (n : Bool) : P0 → Option D
  | .one r => some (.one (.r n r))
  | .agg rs => some (.agg (mapR n rs))
theorem dO_ok {n : Bool} {x : P0} {d : D} (h : dO n x = some d) : x.d n = d := by
  cases x with
  | one r => injection h
  | agg rs => simp only [dO, mapR_eq, Option.some.injEq] at h; exact h
def isAg : P0 → Bool
  | .one _ => false
  | .agg _ => true
theorem mk_isAg {x : P0} {ag : Bool} (h : (ag == isAg x) = true) : x = mk ag x.rs := by
  cases x <;> cases ag <;> first | rfl | cases h

/-- What an operation yields, where that can be told from the slots and the variables alone. -/
def pureO (tb : TB) (l : List (Nat × D)) (h : List (Nat × Ob)) : Op → Option D
  | .move x => evO l x
  | .assign x => evO l x
  | .pick c x y => match evO l c with
    | some (.one (.r _ (.val (.bool true)))) => evO l x
    | some (.one (.r _ (.val (.bool false)))) => evO l y
    | _ => none
  | .binOp op _ x y _ => match evO l x with
    | some (.one (.r _ (.val (.int k a)))) => (match evO l y with
      | some (.one (.r _ (.val (.int k' b)))) => bif kEq k k' then (match binR op k a b with | some z => some (.one (.r true (.val z))) | none => none) else none
      | _ => none)
    | _ => none
  | .unOp .not _ x => match evO l x with
    | some (.one (.r _ (.val (.bool p)))) => some (.one (.r true (.val (.bool (!p)))))
    | _ => none
  | .fieldAddr t x f => match evO l x with
    | some (.one (.ptr k i sz off)) => (match flL tb.fls t f with
      | some (fo, _) => some (.one (.ptr k i sz (off + fo)))
      | none => none)
    | some (.one (.r n (.ref y))) => (match flL tb.fls t f with
      | some (fo, ft) => (match tyL tb.tys ft with
        | some (ag, fn) => bif Nat.ble (fo + fn) y.rs.length && (ag || Nat.beq fn 1) then some (.one (.r n (.ref (cutP ag fn fo y.rs)))) else none
        | none => none)
      | none => none)
    | _ => none
  | .load t x => match evO l x with
    | some (.one (.ptr k 0 0 off)) => (match lookHO h k with
      | some (.var _ cells) => (match tyL tb.tys t with
        | some (ag, n) => bif Nat.ble (off + n) cells.length && (ag || Nat.beq n 1) then cutO ag n off cells else none
        | none => none)
      | _ => none)
    | some (.one (.r n (.ref y))) => (match tyL tb.tys t with
      | some (ag, m) => bif Nat.beq y.rs.length m && (ag == isAg y) && (ag || Nat.beq m 1) then dO n y else none
      | none => none)
    | _ => none
  | .extract x i => match evO l x with
    | some (.tup n xs) => (match xs[i]? with
      | some y => dO n y
      | none => none)
    | _ => none
  | .call c => match c.callee, c.args.toList, c.argTypes.toList with
    | .builtin .len, [x], [t] => (match evO l x with
      | some (.one (.r _ (.row _ _ els))) => (match slL tb.sls t with | some _ => some (.one (.r true (int els.length))) | none => none)
      | some (.one (.own _ _ m _)) => (match slL tb.sls t with | some _ => some (.one (.r true (int m))) | none => none)
      | _ => none)
    | _, _, _ => none
  | _ => none

theorem pureO_ok {P : Program} {tb : TB} (hT : TbOk P tb) {n : Nat} {l : List (Nat × D)} {h : List (Nat × Ob)} {o : Oper} {d : D} (he : pureO tb l h o.op = some d) : Loc P (lookH h) (mkS n l h).ev o d := by
  cases hop : o.op with
  | move x => rw [hop] at he; exact loc_move x hop (evO_spec he)
  | assign x => rw [hop] at he; exact loc_assign x hop (evO_spec he)
  | pick c x y =>
    rw [hop] at he
    simp only [pureO] at he
    split at he
    · rename_i hc; exact loc_pick_true c x y hop (evO_spec hc) (evO_spec he)
    · rename_i hc; exact loc_pick_false c x y hop (evO_spec hc) (evO_spec he)
    · cases he
  | binOp op t x y t' =>
    rw [hop] at he
    simp only [pureO] at he
    split at he
    · rename_i k a hx
      split at he
      · rename_i k' b hy
        cases hk : kEq k k' with
        | false => rw [hk] at he; cases he
        | true =>
          have := kEq_ok hk
          subst this
          rw [hk] at he
          simp only [cond_true] at he
          split at he
          · rename_i z hz
            injection he with he
            subst he
            exact loc_bin op t t' x y hop (evO_spec hx) (evO_spec hy) hz
          · cases he
      · cases he
    · cases he
  | unOp op t x =>
    rw [hop] at he
    cases op <;> simp only [pureO] at he <;> try (cases he; done)
    split at he
    · rename_i p hx
      injection he with he
      subst he
      exact loc_not t x hop (evO_spec hx)
    · cases he
  | fieldAddr t x f =>
    rw [hop] at he
    simp only [pureO] at he
    split at he
    · rename_i hx
      split at he
      · rename_i fo ft hf
        injection he with he
        subst he
        exact loc_field_ptr t x f hop (evO_spec hx) (flL_ok hT.fl hf)
      · cases he
    · rename_i m y hx
      split at he
      · rename_i fo ft hf
        split at he
        · rename_i ag fn hty
          cases hb : Nat.ble (fo + fn) y.rs.length && (ag || Nat.beq fn 1) with
          | false => rw [hb] at he; cases he
          | true =>
            rw [hb] at he
            simp only [cond_true, Option.some.injEq] at he
            subst he
            simp only [Bool.and_eq_true, Bool.or_eq_true, Nat.ble_eq, Nat.beq_eq] at hb
            exact loc_field_ref t x f hop (evO_spec hx) (flL_ok hT.fl hf) (tyL_ok hT.ty hty) hb.1 hb.2
        · cases he
      · cases he
    · cases he
  | load t x =>
    rw [hop] at he
    simp only [pureO] at he
    split at he
    · rename_i k off hx
      split at he
      · rename_i E cells hk
        split at he
        · rename_i ag m hty
          cases hb : Nat.ble (off + m) cells.length && (ag || Nat.beq m 1) with
          | false => rw [hb] at he; cases he
          | true =>
            rw [hb] at he
            simp only [cond_true] at he
            simp only [Bool.and_eq_true] at hb
            exact loc_load_var t x hop (evO_spec hx) (tyL_ok hT.ty hty) (lookHO_spec hk) hb.1 hb.2 (cutO_spec he)
        · cases he
      · cases he
    · rename_i m y hx
      split at he
      · rename_i ag c hty
        cases hb : Nat.beq y.rs.length c && (ag == isAg y) && (ag || Nat.beq c 1) with
        | false => rw [hb] at he; cases he
        | true =>
          rw [hb] at he
          simp only [cond_true] at he
          simp only [Bool.and_eq_true, Bool.or_eq_true, Nat.beq_eq] at hb
          rw [← dO_ok he]
          exact loc_load_ref t x hop (evO_spec hx) (tyL_ok hT.ty hty) hb.1.1 (mk_isAg hb.1.2) hb.2
      · cases he
    · cases he
  | extract x i =>
    rw [hop] at he
    simp only [pureO] at he
    split at he
    · rename_i m xs hx
      split at he
      · rename_i y hy
        rw [← dO_ok he]
        exact loc_extract x i hop (evO_spec hx) hy
      · cases he
    · cases he
  | call c =>
    obtain ⟨callee, args, tys⟩ := c
    rw [hop] at he
    simp only [pureO] at he
    split at he
    · rename_i x t e2 e3
      have ha : args = #[x] := by rw [← Array.toList_inj]; simpa using e2
      have ht : tys = #[t] := by rw [← Array.toList_inj]; simpa using e3
      subst ha ht
      split at he
      · rename_i hx
        split at he
        · rename_i s hs
          injection he with he
          subst he
          exact loc_len_row t x hop (slL_ok hT.sl hs) (evO_spec hx)
        · cases he
      · rename_i hx
        split at he
        · rename_i s hs
          injection he with he
          subst he
          exact loc_len_own t x hop (slL_ok hT.sl hs) (evO_spec hx)
        · cases he
      · cases he
    · cases he
  | _ => rw [hop] at he; simp only [pureO] at he; cases he

/-- What an operation turns: a new variable, a store into one. -/
def effO (tb : TB) (n : Nat) (l : List (Nat × D)) (h : List (Nat × Ob)) (o : Oper) : Option (List (Nat × D) × List (Nat × Ob)) :=
  match o.op with
  | .alloc E => match o.dst with
    | some t => (match zL tb.zs E with
      | some cs => bif noM t l h && Nat.blt t n then some ((t, .one (.ptr t 0 0 0)) :: l, (t, .var E cs) :: h) else none
      | none => none)
    | none => none
  | .box E x => match o.dst with
    | some t => (match evO l x with
      | some d => (match d.cells with
        | some cs => bif noM t l h && Nat.blt t n && !d.men t then some ((t, .one (.ptr t 0 0 0)) :: l, (t, .var E cs) :: h) else none
        | none => none)
      | none => none)
    | none => none
  | .store t x y => match o.dst with
    | none => (match evO l x with
      | some (.one (.ptr k 0 0 off)) => (match lookHO h k with
        | some (.var E cells) => (match evO l y with
          | some d => (match d.cells with
            | some xs => (match tyL tb.tys t with
              | some (ag, m) => bif Nat.beq off 0 && Nat.beq xs.length m && Nat.beq m cells.length then some (l, (k, .var E xs) :: h) else
                (match ag, xs with
                | false, [c] => bif Nat.beq m 1 && Nat.blt off cells.length then some (l, (k, .var E (cells.set off c)) :: h) else none
                | _, _ => bif Nat.beq xs.length m && Nat.ble (off + m) cells.length then some (l, (k, .var E (splice off xs cells)) :: h) else none)
              | none => none)
            | none => none)
          | none => none)
        | _ => none)
      | _ => none)
    | some _ => none
  | _ => none

theorem effO_ok {P : Program} {tb : TB} (hT : TbOk P tb) {n : Nat} {l l' : List (Nat × D)} {h h' : List (Nat × Ob)} {o : Oper} (he : effO tb n l h o = some (l', h')) : EOp P o (mkS n l h) (mkS n l' h') := by
  unfold effO at he
  split at he
  · rename_i E hop
    split at he
    · rename_i t hd
      split at he
      · rename_i cs hz
        cases hb : noM t l h && Nat.blt t n with
        | false => rw [hb] at he; cases he
        | true =>
          rw [hb] at he
          simp only [cond_true, Option.some.injEq, Prod.mk.injEq] at he
          obtain ⟨rfl, rfl⟩ := he
          simp only [Bool.and_eq_true] at hb
          exact k_alloc E hop hd (zL_ok hT.z hz) hb.1 hb.2
      · cases he
    · cases he
  · rename_i E x hop
    split at he
    · rename_i t hd
      split at he
      · rename_i d hx
        split at he
        · rename_i cs hc
          cases hb : noM t l h && Nat.blt t n && !d.men t with
          | false => rw [hb] at he; cases he
          | true =>
            rw [hb] at he
            simp only [cond_true, Option.some.injEq, Prod.mk.injEq] at he
            obtain ⟨rfl, rfl⟩ := he
            simp only [Bool.and_eq_true, Bool.not_eq_true'] at hb
            exact k_box E x hop hd hx hc hb.2 hb.1.1 hb.1.2
        · cases he
      · cases he
    · cases he
  · rename_i t x y hop
    split at he
    · rename_i hd
      split at he
      · rename_i k off hx
        split at he
        · rename_i E cells hk
          split at he
          · rename_i d hy
            split at he
            · rename_i xs hc
              split at he
              · rename_i ag m hty
                cases hb : Nat.beq off 0 && Nat.beq xs.length m && Nat.beq m cells.length with
                | true =>
                  rw [hb] at he
                  simp only [cond_true, Option.some.injEq, Prod.mk.injEq] at he
                  obtain ⟨rfl, rfl⟩ := he
                  simp only [Bool.and_eq_true, Nat.beq_eq] at hb
                  obtain ⟨⟨rfl, h2⟩, h3⟩ := hb
                  exact k_store_all t x y hop hd hx (tyL_ok hT.ty hty) hk hy hc (by simp [h2]) (by simp [h3])
                | false =>
                  rw [hb] at he
                  simp only [cond_false] at he
                  have gen : ∀ {l' : List (Nat × D)} {h' : List (Nat × Ob)}, (bif Nat.beq xs.length m && Nat.ble (off + m) cells.length then some (l, (k, Ob.var E (splice off xs cells)) :: h) else none) = some (l', h') → EOp P o (mkS n l h) (mkS n l' h') := by
                    intro l' h' he
                    cases hb2 : Nat.beq xs.length m && Nat.ble (off + m) cells.length with
                    | false => rw [hb2] at he; cases he
                    | true =>
                      rw [hb2] at he
                      simp only [cond_true, Option.some.injEq, Prod.mk.injEq] at he
                      obtain ⟨rfl, rfl⟩ := he
                      simp only [Bool.and_eq_true, Nat.beq_eq] at hb2
                      exact eop_store t x y hop hd (evO_spec hx) (tyL_ok hT.ty hty) (lookHO_spec hk) (evO_spec hy) hc hb2.1 hb2.2
                  split at he
                  · rename_i c
                    cases hb2 : Nat.beq m 1 && Nat.blt off cells.length with
                    | false => rw [hb2] at he; cases he
                    | true =>
                      rw [hb2] at he
                      simp only [cond_true, Option.some.injEq, Prod.mk.injEq] at he
                      obtain ⟨rfl, rfl⟩ := he
                      simp only [Bool.and_eq_true, Nat.beq_eq] at hb2
                      obtain ⟨rfl, hlt⟩ := hb2
                      cases d with
                      | one z =>
                        simp only [D.cells, Option.some.injEq, List.cons.injEq, and_true] at hc
                        subst hc
                        exact k_store_one t x y hop hd hx (tyL_ok hT.ty hty) hk hy hlt
                      | agg zs =>
                        have := eop_store (P := P) (n := n) (l := l) (h := h) t x y hop hd (evO_spec hx) (tyL_ok hT.ty hty) (lookHO_spec hk) (evO_spec hy) hc rfl (by simp at hlt ⊢; omega)
                        have e : splice off [c] cells = cells.set off c := splice_one (by simpa using hlt)
                        rwa [e] at this
                      | tup _ _ => cases hc
                      | any => cases hc
                  · exact gen he
              · cases he
            · cases he
          · cases he
        · cases he
      · cases he
    · cases he
  · cases he

section
variable {P : Program} {tb : TB} {q : Bool} {ops : Array Oper} {o : Oper} {rest : List Oper} {n : Nat} {l l' : List (Nat × D)} {h h' : List (Nat × Ob)} {K : St → Prop}
theorem r_q {t : Nat} {d : D} (hT : TbOk P tb) (hL : pureO tb l h o.op = some d) (hg : o.guard = none) (hd : o.dst = some t) (ht : Nat.blt t n = true) (hk : W P q ops rest (mkS n ((t, d) :: l) h) K) : W P q ops (o :: rest) (mkS n l h) K := w_q hg hd (pureO_ok hT hL) ht hk
theorem r_e (hT : TbOk P tb) (hE : effO tb n l h o = some (l', h')) (hg : o.guard = none) (hk : W P false ops rest (mkS n l' h') K) : W P false ops (o :: rest) (mkS n l h) K := w_e hg (effO_ok hT hE) hk
theorem r_yes {j t u : Nat} {want m : Bool} {d : D} (hT : TbOk P tb) (hL : pureO tb l h o.op = some d) (hg : o.guard = some (j, want)) (hj : (ops[j]?).bind (·.dst) = some t) (hb : lookO l t = some (.one (.r m (bool want)))) (hd : o.dst = some u) (ht : Nat.blt u n = true) (hk : W P q ops rest (mkS n ((u, d) :: l) h) K) : W P q ops (o :: rest) (mkS n l h) K := w_yes hg hj (lookO_spec hb) hd (pureO_ok hT hL) ht hk
end

/-! ### loops, indices -/
theorem aw_loopI {P : Program} {s : St} {Q : Exit → St → Prop} {α : Type} (I : α → Prop) (f : α → St) (μ : α → Nat) (x0 : α) {c : Code} (hi : I x0) (h0 : Weak s (f x0)) (round : ∀ x, I x → AW P c (f x) (Thn (fun s' => ∃ x', I x' ∧ Weak s' (f x') ∧ μ x' < μ x) Q)) : AW P (.loop c) s Q := by
  refine aw_loop (α := {x // I x}) (fun x => f x.1) (fun x => μ x.1) ⟨x0, hi⟩ h0 (fun x => ?_)
  intro w0 a w hs
  refine wp_mono (round x.1 x.2 w0 a w hs) ?_
  rintro e a' w' ⟨s', hq, hs'⟩
  refine ⟨s', ?_, hs'⟩
  cases e <;> first
    | exact hq
    | (obtain ⟨x', h1, h2, h3⟩ := hq
       exact ⟨⟨x', h1⟩, h2, h3⟩)
theorem sub_cons {l r : List (Nat × D)} {t : Nat} {d d' : D} (h : lookO l t = some d') (hd : d' = d) (hr : SubE (look l) r) : SubE (look l) ((t, d) :: r) := ⟨by rw [lookO_spec h, hd], hr⟩
theorem subH_cons {h r : List (Nat × Ob)} {t : Nat} {d d' : Ob} (he : lookHO h t = some d') (hd : d' = d) (hr : SubH (lookH h) r) : SubH (lookH h) ((t, d) :: r) := ⟨by rw [lookHO_spec he, hd], hr⟩
theorem weak_s {n : Nat} {l l' : List (Nat × D)} {h h' : List (Nat × Ob)} (he : SubE (look l) l') (hh : SubH (lookH h) h') : Weak (mkS n l h) (mkS n l' h') := weak_of rfl he hh
theorem d_int {m : Bool} {k : IntKind} {a b : Int} (h : a = b) : D.one (.r m (.val (.int k a))) = .one (.r m (.val (.int k b))) := by rw [h]
theorem d_bool {m a b : Bool} (h : a = b) : D.one (.r m (.val (.bool a))) = .one (.r m (.val (.bool b))) := by rw [h]
theorem k_index {P : Program} {tb : TB} {l : List (Nat × D)} {h : List (Nat × Ob)} {o : Oper} {n : Nat} {m m' nil : Bool} {sz : Nat} {els : List P0} {i : Int} {e : P0} {E : TypeId} {t : TypeId} {x ix : Operand} (hT : TbOk P tb) (ho : o.op = .indexAddr t x ix) (hx : evO l x = some (.one (.r m (row nil sz els)))) (hi : evO l ix = some (.one (.r m' (int i)))) (hS : slL tb.sls t = some (E, sz)) (h0 : 0 ≤ i) (h1 : els[i.toNat]? = some e) : Loc P (lookH h) (mkS n l h).ev o (.one (.r m (ref e))) :=
  loc_index_row t x ix ho (slL_ok hT.sl hS) (evO_spec hx) (evO_spec hi) h0 h1
theorem k_indexO {P : Program} {tb : TB} {l : List (Nat × D)} {h : List (Nat × Ob)} {o : Oper} {n : Nat} {m' : Bool} {k j c sz : Nat} {i : Int} {E : TypeId} {t : TypeId} {x ix : Operand} (hT : TbOk P tb) (ho : o.op = .indexAddr t x ix) (hx : evO l x = some (.one (.own k j c sz))) (hi : evO l ix = some (.one (.r m' (int i)))) (hS : slL tb.sls t = some (E, sz)) (h0 : 0 ≤ i) (h1 : i < c) : Loc P (lookH h) (mkS n l h).ev o (.one (.ptr k (j + i.toNat) sz 0)) :=
  loc_index_own t x ix ho (slL_ok hT.sl hS) (evO_spec hx) (evO_spec hi) h0 h1
theorem aw_yes {P : Program} {n : Nat} {l : List (Nat × D)} {h : List (Nat × Ob)} {Q : Exit → St → Prop} {c : Operand} {x y : Code} {m : Bool} (hc : evO l c = some (.one (.r m (.val (.bool true))))) (h1 : AW P x (mkS n l h) Q) : AW P (.cond c x y) (mkS n l h) Q := aw_cond (evO_spec hc) (fun _ => h1) (fun e => by cases e)
theorem aw_no {P : Program} {n : Nat} {l : List (Nat × D)} {h : List (Nat × Ob)} {Q : Exit → St → Prop} {c : Operand} {x y : Code} {m : Bool} (hc : evO l c = some (.one (.r m (.val (.bool false))))) (h1 : AW P y (mkS n l h) Q) : AW P (.cond c x y) (mkS n l h) Q := aw_cond (evO_spec hc) (fun e => by cases e) (fun _ => h1)
theorem aw_ways {P : Program} {n : Nat} {l : List (Nat × D)} {h : List (Nat × Ob)} {Q : Exit → St → Prop} {c : Operand} {x y : Code} {m b : Bool} (hc : evO l c = some (.one (.r m (.val (.bool b))))) (h1 : b = true → AW P x (mkS n l h) Q) (h2 : b = false → AW P y (mkS n l h) Q) : AW P (.cond c x y) (mkS n l h) Q := aw_cond (evO_spec hc) h1 h2
theorem r_split {P : Program} {q : Bool} {ops : Array Oper} {o : Oper} {rest : List Oper} {n : Nat} {l : List (Nat × D)} {h : List (Nat × Ob)} {K : St → Prop} {j t : Nat} {want b m : Bool} (hg : o.guard = some (j, want)) (hj : (ops[j]?).bind (·.dst) = some t) (hb : lookO l t = some (.one (.r m (.val (.bool b))))) (h1 : b = true → W P q ops (o :: rest) (mkS n ((t, .one (.r m (bool true))) :: l) h) K) (h2 : b = false → W P q ops (o :: rest) (mkS n ((t, .one (.r m (bool false))) :: l) h) K) : W P q ops (o :: rest) (mkS n l h) K := w_split hg hj (lookO_spec hb) h1 h2
end Go.Proofs.Ytknbeakmnkjkhaa.Abs
