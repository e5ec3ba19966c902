/- Single operations reckoned: one function that gives what an operation yields or turns, and that it is right. No statement of the seat is proved here. -/
import Derived.Test.YtjjeihcmiofkmaaAbsB
set_option linter.unusedSimpArgs false
set_option linter.unusedVariables false
namespace Go.Proofs.Ytjjeihcmiofkmaa.Abs
open Go.RowKit
open R (val row ref)

/-- What is known of the program's types. -/
structure TB where
  tys : List (Nat × Bool × Nat)
  fls : List (Nat × Nat × Nat × Nat)
  sls : List (Nat × Nat × Nat)
  zs : List (Nat × List Cell)
  bos : List Nat
  bls : List (Nat × List (Nat × Nat))
def AllTy (P : Program) : List (Nat × Bool × Nat) → Prop
  | [] => True
  | (t, b, n) :: r => tyOf P t = some (b, n) ∧ AllTy P r
def AllFl (P : Program) : List (Nat × Nat × Nat × Nat) → Prop
  | [] => True
  | (t, f, o, ft) :: r => fldOf P t f = some (o, ft) ∧ AllFl P r
def AllSl (P : Program) : List (Nat × Nat × Nat) → Prop
  | [] => True
  | (t, e, n) :: r => slOf P t = some (e, n) ∧ AllSl P r
def AllZ (P : Program) : List (Nat × List Cell) → Prop
  | [] => True
  | (t, cs) :: r => zcOf P t = some cs ∧ AllZ P r
def AllBo (P : Program) : List Nat → Prop
  | [] => True
  | t :: r => P.underlying t = some .bool ∧ AllBo P r
def AllBl (P : Program) : List (Nat × List (Nat × Nat)) → Prop
  | [] => True
  | (t, pl) :: r => bldOf P t = some pl ∧ AllBl P r
def blL : List (Nat × List (Nat × Nat)) → Nat → Option (List (Nat × Nat))
  | [], _ => none
  | (t, pl) :: r, u => bif Nat.beq u t then some pl else blL r u
theorem blL_ok {P : Program} : ∀ {l : List (Nat × List (Nat × Nat))} {u : Nat} {x : List (Nat × Nat)}, AllBl P l → blL l u = some x → bldOf P u = some x
  | (t, pl) :: r, u, x, ⟨h1, h2⟩, h => by
    simp only [blL] at h
    cases hb : Nat.beq u t with
    | true => rw [hb] at h; simp at hb; subst hb; rw [h1]; simpa using h
    | false => rw [hb] at h; exact blL_ok h2 h
structure TbOk (P : Program) (tb : TB) : Prop where
  ty : AllTy P tb.tys
  fl : AllFl P tb.fls
  sl : AllSl P tb.sls
  z : AllZ P tb.zs
  bo : AllBo P tb.bos
  bl : AllBl P tb.bls

def tyL : List (Nat × Bool × Nat) → Nat → Option (Bool × Nat)
  | [], _ => none
  | (t, b, n) :: r, u => bif Nat.beq u t then some (b, n) else tyL r u
theorem tyL_ok {P : Program} : ∀ {l : List (Nat × Bool × Nat)} {u : Nat} {x : Bool × Nat}, AllTy P l → tyL l u = some x → tyOf P u = some x
  | (t, b, n) :: r, u, x, ⟨h1, h2⟩, h => by
    simp only [tyL] at h
    cases hb : Nat.beq u t with
    | true => rw [hb] at h; simp at hb; subst hb; rw [h1]; simpa using h
    | false => rw [hb] at h; exact tyL_ok h2 h
def flL : List (Nat × Nat × Nat × Nat) → Nat → Nat → Option (Nat × Nat)
  | [], _, _ => none
  | (t, f, o, ft) :: r, u, g => bif Nat.beq u t && Nat.beq g f then some (o, ft) else flL r u g
theorem flL_ok {P : Program} : ∀ {l : List (Nat × Nat × Nat × Nat)} {u g : Nat} {x : Nat × Nat}, AllFl P l → flL l u g = some x → fldOf P u g = some x
  | (t, f, o, ft) :: r, u, g, x, ⟨h1, h2⟩, h => by
    simp only [flL] at h
    cases hb : Nat.beq u t && Nat.beq g f with
    | true => rw [hb] at h; simp at hb; obtain ⟨rfl, rfl⟩ := hb; rw [h1]; simpa using h
    | false => rw [hb] at h; exact flL_ok h2 h
def slL : List (Nat × Nat × Nat) → Nat → Option (Nat × Nat)
  | [], _ => none
  | (t, e, n) :: r, u => bif Nat.beq u t then some (e, n) else slL r u
theorem slL_ok {P : Program} : ∀ {l : List (Nat × Nat × Nat)} {u : Nat} {x : Nat × Nat}, AllSl P l → slL l u = some x → slOf P u = some x
  | (t, b, n) :: r, u, x, ⟨h1, h2⟩, h => by
    simp only [slL] at h
    cases hb : Nat.beq u t with
    | true => rw [hb] at h; simp at hb; subst hb; rw [h1]; simpa using h
    | false => rw [hb] at h; exact slL_ok h2 h
def zL : List (Nat × List Cell) → Nat → Option (List Cell)
  | [], _ => none
  | (t, cs) :: r, u => bif Nat.beq u t then some cs else zL r u
theorem zL_ok {P : Program} : ∀ {l : List (Nat × List Cell)} {u : Nat} {x : List Cell}, AllZ P l → zL l u = some x → zcOf P u = some x
  | (t, cs) :: r, u, x, ⟨h1, h2⟩, h => by
    simp only [zL] at h
    cases hb : Nat.beq u t with
    | true => rw [hb] at h; simp at hb; subst hb; rw [h1]; simpa using h
    | false => rw [hb] at h; exact zL_ok h2 h

def kEq : IntKind → IntKind → Bool
  | .i8, .i8 | .i16, .i16 | .i32, .i32 | .i64, .i64 | .u8, .u8 | .u16, .u16 | .u32, .u32 | .u64, .u64 => true
  | _, _ => false
theorem kEq_ok {a b : IntKind} (h : kEq a b = true) : a = b := by cases a <;> cases b <;> first | rfl | cases h

def mapR (n : Bool) : List R → List Cell
  | [] => []
  | r :: rs => .r n r :: mapR n rs
theorem mapR_eq (n : Bool) : ∀ rs : List R, mapR n rs = rs.map (.r n)
  | [] => rfl
  | r :: rs => by simp [mapR, mapR_eq n rs]
def dO (n : Bool) : P0 → Option D
  | .one r => some (.one (.r n r))
  | .agg rs => some (.agg (mapR n rs))
theorem dO_ok {n : Bool} {x : P0} {d : D} (h : dO n x = some d) : x.d n = d := by
  cases x with
  | one r => injection h
  | agg rs => simp only [dO, mapR_eq, Option.some.injEq] at h; exact h
def isAg : P0 → Bool
  | .one _ => false
  | .agg _ => true
theorem mk_isAg {x : P0} {ag : Bool} (h : (ag == isAg x) = true) : x = mk ag x.rs := by
  cases x <;> cases ag <;> first | rfl | cases h

/-- What an operation yields, where that can be told from the slots and the variables alone. -/
def pureO (tb : TB) (l : List (Nat × D)) (h : List (Nat × Ob)) : Op → Option D
  | .move x => evO l x
  | .assign x => evO l x
  | .pick c x y => match evO l c with
    | some (.one (.r _ (.val (.bool true)))) => evO l x
    | some (.one (.r _ (.val (.bool false)))) => evO l y
    | _ => none
  | .binOp op _ x y _ => match evO l x with
    | some (.one (.r _ (.val (.int k a)))) => (match evO l y with
      | some (.one (.r _ (.val (.int k' b)))) => bif kEq k k' then (match binR op k a b with | some z => some (.one (.r true (.val z))) | none => none) else none
      | _ => none)
    | _ => none
  | .unOp .not _ x => match evO l x with
    | some (.one (.r _ (.val (.bool p)))) => some (.one (.r true (.val (.bool (!p)))))
    | _ => none
  | .fieldAddr t x f => match evO l x with
    | some (.one (.ptr k i sz off)) => (match flL tb.fls t f with
      | some (fo, _) => some (.one (.ptr k i sz (off + fo)))
      | none => none)
    | some (.one (.r n (.ref y))) => (match flL tb.fls t f with
      | some (fo, ft) => (match tyL tb.tys ft with
        | some (ag, fn) => bif Nat.ble (fo + fn) y.rs.length && (ag || Nat.beq fn 1) then some (.one (.r n (.ref (cutP ag fn fo y.rs)))) else none
        | none => none)
      | none => none)
    | _ => none
  | .load t x => match evO l x with
    | some (.one (.ptr k 0 0 off)) => (match lookHO h k with
      | some (.var _ cells) => (match tyL tb.tys t with
        | some (ag, n) => bif Nat.ble (off + n) cells.length && (ag || Nat.beq n 1) then cutO ag n off cells else none
        | none => none)
      | _ => none)
    | some (.one (.r n (.ref y))) => (match tyL tb.tys t with
      | some (ag, m) => bif Nat.beq y.rs.length m && (ag == isAg y) && (ag || Nat.beq m 1) then dO n y else none
      | none => none)
    | _ => none
  | .nilCheck x => match evO l x with
    | some (.one (.ptr k i sz off)) => some (.one (.ptr k i sz off))
    | some (.one (.r n (.ref y))) => some (.one (.r n (.ref y)))
    | _ => none
  | .build t ps => match blL tb.bls t, zL tb.zs t, partsC l ps.toList with
    | some pl, some cs, some qs => (match buildC pl cs qs with | some r => some (.agg r) | none => none)
    | _, _, _ => none
  | .field t x f => match evO l x with
    | some (.agg xs) => (match flL tb.fls t f with
      | some (fo, ft) => (match tyL tb.tys ft with
        | some (ag, fn) => bif Nat.ble (fo + fn) xs.length && (ag || Nat.beq fn 1) then cutO ag fn fo xs else none
        | none => none)
      | none => none)
    | _ => none
  | .extract x i => match evO l x with
    | some (.tup n xs) => (match xs[i]? with
      | some y => dO n y
      | none => none)
    | some (.tups xs) => (match xs[i]? with
      | some (true, cs) => some (.agg cs)
      | some (false, [c]) => some (.one c)
      | _ => none)
    | _ => none
  | .call c => match c.callee, c.args.toList, c.argTypes.toList with
    | .builtin .len, [x], [t] => (match evO l x with
      | some (.one (.r _ (.row _ _ els))) => (match slL tb.sls t with | some _ => some (.one (.r true (int els.length))) | none => none)
      | some (.one (.own _ _ m _)) => (match slL tb.sls t with | some _ => some (.one (.r true (int m))) | none => none)
      | _ => none)
    | .builtin .min, [x, y], _ => (match evO l x, evO l y with
      | some (.one (.r _ (.val (.int k p)))), some (.one (.r _ (.val (.int k' q)))) => bif kEq k k' then some (.one (.r true (.val (.int k (if q < p then q else p))))) else none
      | _, _ => none)
    | .builtin .max, [x, y], _ => (match evO l x, evO l y with
      | some (.one (.r _ (.val (.int k p)))), some (.one (.r _ (.val (.int k' q)))) => bif kEq k k' then some (.one (.r true (.val (.int k (if p < q then q else p))))) else none
      | _, _ => none)
    | _, _, _ => none
  | _ => none

theorem pureO_ok {P : Program} {tb : TB} (hT : TbOk P tb) {l : List (Nat × D)} {h : List (Nat × Ob)} {o : Oper} {d : D} (he : pureO tb l h o.op = some d) : Loc P (lookH h) (evD (look l)) o d := by
  cases hop : o.op with
  | move x => rw [hop] at he; exact loc_move x hop (evO_spec he)
  | assign x => rw [hop] at he; exact loc_assign x hop (evO_spec he)
  | pick c x y =>
    rw [hop] at he
    simp only [pureO] at he
    split at he
    · rename_i hc; exact loc_pick_true c x y hop (evO_spec hc) (evO_spec he)
    · rename_i hc; exact loc_pick_false c x y hop (evO_spec hc) (evO_spec he)
    · cases he
  | binOp op t x y t' =>
    rw [hop] at he
    simp only [pureO] at he
    split at he
    · rename_i k a hx
      split at he
      · rename_i k' b hy
        cases hk : kEq k k' with
        | false => rw [hk] at he; cases he
        | true =>
          have := kEq_ok hk
          subst this
          rw [hk] at he
          simp only [cond_true] at he
          split at he
          · rename_i z hz
            injection he with he
            subst he
            exact loc_bin op t t' x y hop (evO_spec hx) (evO_spec hy) hz
          · cases he
      · cases he
    · cases he
  | unOp op t x =>
    rw [hop] at he
    cases op <;> simp only [pureO] at he <;> try (cases he; done)
    split at he
    · rename_i p hx
      injection he with he
      subst he
      exact loc_not t x hop (evO_spec hx)
    · cases he
  | fieldAddr t x f =>
    rw [hop] at he
    simp only [pureO] at he
    split at he
    · rename_i hx
      split at he
      · rename_i fo ft hf
        injection he with he
        subst he
        exact loc_field_ptr t x f hop (evO_spec hx) (flL_ok hT.fl hf)
      · cases he
    · rename_i m y hx
      split at he
      · rename_i fo ft hf
        split at he
        · rename_i ag fn hty
          cases hb : Nat.ble (fo + fn) y.rs.length && (ag || Nat.beq fn 1) with
          | false => rw [hb] at he; cases he
          | true =>
            rw [hb] at he
            simp only [cond_true, Option.some.injEq] at he
            subst he
            simp only [Bool.and_eq_true, Bool.or_eq_true, Nat.ble_eq, Nat.beq_eq] at hb
            exact loc_field_ref t x f hop (evO_spec hx) (flL_ok hT.fl hf) (tyL_ok hT.ty hty) hb.1 hb.2
        · cases he
      · cases he
    · cases he
  | load t x =>
    rw [hop] at he
    simp only [pureO] at he
    split at he
    · rename_i k off hx
      split at he
      · rename_i E cells hk
        split at he
        · rename_i ag m hty
          cases hb : Nat.ble (off + m) cells.length && (ag || Nat.beq m 1) with
          | false => rw [hb] at he; cases he
          | true =>
            rw [hb] at he
            simp only [cond_true] at he
            simp only [Bool.and_eq_true] at hb
            exact loc_load_var t x hop (evO_spec hx) (tyL_ok hT.ty hty) (lookHO_spec hk) hb.1 hb.2 (cutO_spec he)
        · cases he
      · cases he
    · rename_i m y hx
      split at he
      · rename_i ag c hty
        cases hb : Nat.beq y.rs.length c && (ag == isAg y) && (ag || Nat.beq c 1) with
        | false => rw [hb] at he; cases he
        | true =>
          rw [hb] at he
          simp only [cond_true] at he
          simp only [Bool.and_eq_true, Bool.or_eq_true, Nat.beq_eq] at hb
          rw [← dO_ok he]
          exact loc_load_ref t x hop (evO_spec hx) (tyL_ok hT.ty hty) hb.1.1 (mk_isAg hb.1.2) hb.2
      · cases he
    · cases he
  | nilCheck x =>
    rw [hop] at he
    simp only [pureO] at he
    split at he
    · rename_i hx; injection he with he; subst he; exact loc_nilCheck x hop (evO_spec hx) ptr_nn
    · rename_i hx; injection he with he; subst he; exact loc_nilCheck x hop (evO_spec hx) ref_nn
    · cases he
  | build t ps =>
    rw [hop] at he
    simp only [pureO] at he
    split at he
    · rename_i pl cs qs h1 h2 h3
      split at he
      · rename_i r hr
        injection he with he; subst he
        exact loc_build t ps hop (blL_ok hT.bl h1) (zL_ok hT.z h2) h3 hr
      · cases he
    · cases he
  | field t x f =>
    rw [hop] at he
    simp only [pureO] at he
    split at he
    · rename_i xs hx
      split at he
      · rename_i fo ft hf
        split at he
        · rename_i ag fn hty
          cases hb : Nat.ble (fo + fn) xs.length && (ag || Nat.beq fn 1) with
          | false => rw [hb] at he; cases he
          | true =>
            rw [hb] at he
            simp only [cond_true] at he
            simp only [Bool.and_eq_true, Bool.or_eq_true, Nat.ble_eq, Nat.beq_eq] at hb
            rw [← cutO_spec he]
            exact loc_field t x f hop (evO_spec hx) (flL_ok hT.fl hf) (tyL_ok hT.ty hty) hb.1 hb.2
        · cases he
      · cases he
    · cases he
  | extract x i =>
    rw [hop] at he
    simp only [pureO] at he
    split at he
    · rename_i m xs hx
      split at he
      · rename_i y hy
        rw [← dO_ok he]
        exact loc_extract x i hop (evO_spec hx) hy
      · cases he
    · rename_i xs hx
      split at he
      · rename_i cs hy
        injection he with he
        exact loc_extractC x i hop (evO_spec hx) hy (.inl ⟨rfl, he.symm⟩)
      · rename_i c hy
        injection he with he
        exact loc_extractC x i hop (evO_spec hx) hy (.inr ⟨c, rfl, he.symm⟩)
      · cases he
    · cases he
  | call c =>
    obtain ⟨callee, args, tys⟩ := c
    rw [hop] at he
    simp only [pureO] at he
    split at he
    · rename_i x t e2 e3
      have ha : args = #[x] := by rw [← Array.toList_inj]; simpa using e2
      have ht : tys = #[t] := by rw [← Array.toList_inj]; simpa using e3
      subst ha ht
      split at he
      · rename_i hx
        split at he
        · rename_i s hs
          injection he with he
          subst he
          exact loc_len_row t x hop (slL_ok hT.sl hs) (evO_spec hx)
        · cases he
      · rename_i hx
        split at he
        · rename_i s hs
          injection he with he
          subst he
          exact loc_len_own t x hop (slL_ok hT.sl hs) (evO_spec hx)
        · cases he
      · cases he
    · rename_i x y e2
      have ha : args = #[x, y] := by rw [← Array.toList_inj]; simpa using e2
      subst ha
      split at he
      · rename_i m1 k p m2 k' q hx hy
        cases hk : kEq k k' with
        | false => rw [hk] at he; cases he
        | true =>
          have := kEq_ok hk
          subst this
          rw [hk] at he
          injection he with he
          subst he
          exact loc_min x y tys hop (evO_spec hx) (evO_spec hy)
      · cases he
    · rename_i x y e2
      have ha : args = #[x, y] := by rw [← Array.toList_inj]; simpa using e2
      subst ha
      split at he
      · rename_i m1 k p m2 k' q hx hy
        cases hk : kEq k k' with
        | false => rw [hk] at he; cases he
        | true =>
          have := kEq_ok hk
          subst this
          rw [hk] at he
          injection he with he
          subst he
          exact loc_max x y tys hop (evO_spec hx) (evO_spec hy)
      · cases he
    · cases he
  | _ => rw [hop] at he; simp only [pureO] at he; cases he

/-- What an operation turns: a new variable, a store into one. -/
def effO (tb : TB) (l : List (Nat × D)) (h : List (Nat × Ob)) (o : Oper) : Option (D × List Nat × List Nat × List (Nat × Option Ob)) :=
  match o.op with
  | .alloc E => match o.dst with
    | some t => (match zL tb.zs E with
      | some cs => some (.one (.ptr t 0 0 0), [], [t], [(t, some (.var E cs))])
      | none => none)
    | none => none
  | .box E x => match o.dst with
    | some t => (match evO l x with
      | some d => (match d.cells with
        | some cs => bif !d.men t then some (.one (.ptr t 0 0 0), [], [t], [(t, some (.var E cs))]) else none
        | none => none)
      | none => none)
    | none => none
  | .store t x y => match o.dst with
    | none => (match evO l x with
      | some (.one (.ptr k 0 0 off)) => (match lookHO h k with
        | some (.var E cells) => (match evO l y with
          | some d => (match d.cells with
            | some xs => (match tyL tb.tys t with
              | some (_, m) => bif Nat.beq xs.length m then (match putC off xs cells with | some cs => some (.any, [k], [], [(k, some (.var E cs))]) | none => none) else none
              | none => none)
            | none => none)
          | none => none)
        | _ => none)
      | _ => none)
    | some _ => none
  | _ => none

theorem effO_ok {P : Program} {tb : TB} (hT : TbOk P tb) {l : List (Nat × D)} {h : List (Nat × Ob)} {o : Oper} {d : D} {τ new : List Nat} {U : List (Nat × Option Ob)} (he : effO tb l h o = some (d, τ, new, U)) : Eff P (lookH h) (evD (look l)) o d τ new U := by
  unfold effO at he
  split at he
  · rename_i E hop
    split at he
    · rename_i t hd
      split at he
      · rename_i cs hz
        simp only [Option.some.injEq, Prod.mk.injEq] at he
        obtain ⟨rfl, rfl, rfl, rfl⟩ := he
        exact k_alloc E hop (zL_ok hT.z hz)
      · cases he
    · cases he
  · rename_i E x hop
    split at he
    · rename_i t hd
      split at he
      · rename_i d' hx
        split at he
        · rename_i cs hc
          cases hb : !d'.men t with
          | false => rw [hb] at he; cases he
          | true =>
            rw [hb] at he
            simp only [cond_true, Option.some.injEq, Prod.mk.injEq] at he
            obtain ⟨rfl, rfl, rfl, rfl⟩ := he
            simp only [Bool.not_eq_true'] at hb
            exact eff_box E x hop (evO_spec hx) hc hb
        · cases he
      · cases he
    · cases he
  · rename_i t x y hop
    split at he
    · rename_i hd
      split at he
      · rename_i k off hx
        split at he
        · rename_i E cells hk
          split at he
          · rename_i d' hy
            split at he
            · rename_i xs hc
              split at he
              · rename_i ag m hty
                cases hb : Nat.beq xs.length m with
                | false => rw [hb] at he; cases he
                | true =>
                  rw [hb] at he
                  simp only [cond_true] at he
                  split at he
                  · rename_i cs hcs
                    simp only [Option.some.injEq, Prod.mk.injEq] at he
                    obtain ⟨rfl, rfl, rfl, rfl⟩ := he
                    obtain ⟨hle, rfl⟩ := putC_ok hcs
                    have hm : xs.length = m := by simpa using hb
                    exact eff_store t x y hop hd (evO_spec hx) (tyL_ok hT.ty hty) (lookHO_spec hk) (evO_spec hy) hc hm (by simp; omega)
                  · cases he
              · cases he
            · cases he
          · cases he
        · cases he
      · cases he
    · cases he
  · cases he

/-! ### the names that an operation reads -/
def Cell.names : Cell → List Nat
  | .own k _ _ _ => [k]
  | .ptr k _ _ _ => [k]
  | _ => []
def namesL : List Cell → List Nat
  | [] => []
  | c :: cs => c.names ++ namesL cs
def namesT : List (Bool × List Cell) → List Nat
  | [] => []
  | x :: xs => namesL x.2 ++ namesT xs
def D.names : D → List Nat
  | .one x => x.names
  | .agg xs => namesL xs
  | .tups xs => namesT xs
  | _ => []
def Ob.names : Ob → List Nat
  | .var _ xs => namesL xs
  | .sl .. => []
def namesO (l : List (Nat × D)) : List Operand → List Nat
  | [] => []
  | x :: xs => (match evO l x with | some d => d.names | none => []) ++ namesO l xs
def deepN (h : List (Nat × Ob)) : List Nat → List Nat
  | [] => []
  | k :: ks => k :: ((match lookHO h k with | some ob => ob.names | none => []) ++ deepN h ks)
/-- Of a load, a store, a call: the names that its operands speak of. -/
def fpO (l : List (Nat × D)) (h : List (Nat × Ob)) : Op → List Nat
  | .load _ x => namesO l [x]
  | .store _ x _ => namesO l [x]
  | .call c => match c.callee with
    | .builtin .len => []
    | _ => deepN h (namesO l c.args.toList)
  | _ => []

section
variable {P : Program} {tb : TB} {Z : List Sg → Bool} {acc : List Sg} {ops : Array Oper} {o : Oper} {rest : List Oper} {n : Nat} {l l' : List (Nat × D)} {h h' : List (Nat × Ob)} {K : St → Prop} {d : D} {τ new : List Nat} {U : List (Nat × Option Ob)}
theorem r_q {t : Nat} (hT : TbOk P tb) (hL : pureO tb l h o.op = some d) (hg : o.guard = none) (hd : o.dst = some t) (ht : Nat.blt t n = true) (hk : W P ops Z rest (mkS n ((t, d) :: l) h) none K) : W P ops Z (o :: rest) (mkS n l h) none K := w_q hg hd (pureO_ok hT hL) ht hk
theorem r_e (hT : TbOk P tb) (hE : effO tb l h o = some (d, τ, new, U)) (hg : o.guard = none) (hok : okB n o.dst (keys h) τ new U l h = true) (hl : putLO o.dst d l = some l') (hh : appLO U h = some h') (hk : W P ops Z rest (mkS n l' h') none K) : W P ops Z (o :: rest) (mkS n l h) none K := w_e hg (effO_ok hT hE) hok hl hh hk
theorem r_yes {j t u : Nat} {want m : Bool} (hT : TbOk P tb) (hL : pureO tb l h o.op = some d) (hg : o.guard = some (j, want)) (hj : (ops[j]?).bind (·.dst) = some t) (hb : lookO l t = some (.one (.r m (bool want)))) (hd : o.dst = some u) (ht : Nat.blt u n = true) (hk : W P ops Z rest (mkS n ((u, d) :: l) h) none K) : W P ops Z (o :: rest) (mkS n l h) none K := w_yes hg hj (lookO_spec hb) hd (pureO_ok hT hL) ht hk
theorem rx_q {t : Nat} (hT : TbOk P tb) (hL : pureO tb l (filtH (fpO l h o.op) h) o.op = some d) (hg : o.guard = none) (hd : o.dst = some t) (ht : Nat.blt t n = true) (hk : W P ops Z rest (mkS n ((t, d) :: l) h) (some (⟨d, fpO l h o.op, [], [], []⟩ :: acc)) K) : W P ops Z (o :: rest) (mkS n l h) (some acc) K := x_q hg hd (pureO_ok hT hL) ht hk
theorem rx_e (hT : TbOk P tb) (hE : effO tb l (filtH (fpO l h o.op) h) o = some (d, τ, new, U)) (hg : o.guard = none) (hok : okB n o.dst (fpO l h o.op) τ new U l h = true) (hl : putLO o.dst d l = some l') (hh : appLO U h = some h') (hk : W P ops Z rest (mkS n l' h') (some (⟨d, fpO l h o.op, τ, new, U⟩ :: acc)) K) : W P ops Z (o :: rest) (mkS n l h) (some acc) K := x_e hg (effO_ok hT hE) hok hl hh hk
theorem rx_yes {j t u : Nat} {want m : Bool} (hT : TbOk P tb) (hL : pureO tb l (filtH (fpO l h o.op) h) o.op = some d) (hg : o.guard = some (j, want)) (hj : (ops[j]?).bind (·.dst) = some t) (hb : lookO l t = some (.one (.r m (bool want)))) (hd : o.dst = some u) (ht : Nat.blt u n = true) (hk : W P ops Z rest (mkS n ((u, d) :: l) h) (some (⟨d, fpO l h o.op, [], [], []⟩ :: acc)) K) : W P ops Z (o :: rest) (mkS n l h) (some acc) K := x_yes hg hj (lookO_spec hb) hd (pureO_ok hT hL) ht hk
/-! with a rule of one's own -/
theorem v_q {t : Nat} (hg : o.guard = none) (hd : o.dst = some t) (hL : Loc P (lookH (filtH (fpO l h o.op) h)) (evD (look l)) o d) (ht : Nat.blt t n = true) (hk : W P ops Z rest (mkS n ((t, d) :: l) h) (some (⟨d, fpO l h o.op, [], [], []⟩ :: acc)) K) : W P ops Z (o :: rest) (mkS n l h) (some acc) K := x_q hg hd hL ht hk
theorem v_yes {j t u : Nat} {want m : Bool} (hg : o.guard = some (j, want)) (hj : (ops[j]?).bind (·.dst) = some t) (hb : look l t = .one (.r m (bool want))) (hd : o.dst = some u) (hL : Loc P (lookH (filtH (fpO l h o.op) h)) (evD (look l)) o d) (ht : Nat.blt u n = true) (hk : W P ops Z rest (mkS n ((u, d) :: l) h) (some (⟨d, fpO l h o.op, [], [], []⟩ :: acc)) K) : W P ops Z (o :: rest) (mkS n l h) (some acc) K := x_yes hg hj hb hd hL ht hk
theorem v_e (hg : o.guard = none) (hE : Eff P (lookH (filtH (fpO l h o.op) h)) (evD (look l)) o d τ new U) (hok : okB n o.dst (fpO l h o.op) τ new U l h = true) (hl : putLO o.dst d l = some l') (hh : appLO U h = some h') (hk : W P ops Z rest (mkS n l' h') (some (⟨d, fpO l h o.op, τ, new, U⟩ :: acc)) K) : W P ops Z (o :: rest) (mkS n l h) (some acc) K := x_e hg hE hok hl hh hk
theorem v_ey {j t : Nat} {want m : Bool} (hg : o.guard = some (j, want)) (hj : (ops[j]?).bind (·.dst) = some t) (hb : look l t = .one (.r m (bool want))) (hE : Eff P (lookH (filtH (fpO l h o.op) h)) (evD (look l)) o d τ new U) (hok : okB n o.dst (fpO l h o.op) τ new U l h = true) (hl : putLO o.dst d l = some l') (hh : appLO U h = some h') (hk : W P ops Z rest (mkS n l' h') (some (⟨d, fpO l h o.op, τ, new, U⟩ :: acc)) K) : W P ops Z (o :: rest) (mkS n l h) (some acc) K := x_ey hg hj hb hE hok hl hh hk
end

/-! ### loops, indices -/
theorem aw_loopI {P : Program} {s : St} {Q : Exit → St → Prop} {α : Type} (I : α → Prop) (f : α → St) (μ : α → Nat) (x0 : α) {c : Code} (hi : I x0) (h0 : Weak s (f x0)) (round : ∀ x, I x → AW P c (f x) (Thn (fun s' => ∃ x', I x' ∧ Weak s' (f x') ∧ μ x' < μ x) Q)) : AW P (.loop c) s Q := by
  refine aw_loop (α := {x // I x}) (fun x => f x.1) (fun x => μ x.1) ⟨x0, hi⟩ h0 (fun x => ?_)
  intro w0 a w hs
  refine wp_mono (round x.1 x.2 w0 a w hs) ?_
  rintro e a' w' ⟨s', hq, hs'⟩
  refine ⟨s', ?_, hs'⟩
  cases e <;> first
    | exact hq
    | (obtain ⟨x', h1, h2, h3⟩ := hq
       exact ⟨⟨x', h1⟩, h2, h3⟩)
theorem sub_cons {l r : List (Nat × D)} {t : Nat} {d d' : D} (h : lookO l t = some d') (hd : d' = d) (hr : SubE (look l) r) : SubE (look l) ((t, d) :: r) := ⟨by rw [lookO_spec h, hd], hr⟩
theorem subH_cons {h r : List (Nat × Ob)} {t : Nat} {d d' : Ob} (he : lookHO h t = some d') (hd : d' = d) (hr : SubH (lookH h) r) : SubH (lookH h) ((t, d) :: r) := ⟨by rw [lookHO_spec he, hd], hr⟩
theorem weak_s {n : Nat} {l l' : List (Nat × D)} {h h' : List (Nat × Ob)} (he : SubE (look l) l') (hh : SubH (lookH h) h') : Weak (mkS n l h) (mkS n l' h') := weak_of rfl he hh
theorem d_int {m : Bool} {k : IntKind} {a b : Int} (h : a = b) : D.one (.r m (.val (.int k a))) = .one (.r m (.val (.int k b))) := by rw [h]
theorem d_bool {m a b : Bool} (h : a = b) : D.one (.r m (.val (.bool a))) = .one (.r m (.val (.bool b))) := by rw [h]
theorem k_index {P : Program} {tb : TB} {l : List (Nat × D)} {h : List (Nat × Ob)} {o : Oper} {m m' nil : Bool} {sz : Nat} {els : List P0} {i : Int} {e : P0} {E : TypeId} {t : TypeId} {x ix : Operand} (hT : TbOk P tb) (ho : o.op = .indexAddr t x ix) (hx : evO l x = some (.one (.r m (row nil sz els)))) (hi : evO l ix = some (.one (.r m' (int i)))) (hS : slL tb.sls t = some (E, sz)) (h0 : 0 ≤ i) (h1 : els[i.toNat]? = some e) : Loc P (lookH h) (evD (look l)) o (.one (.r m (ref e))) :=
  loc_index_row t x ix ho (slL_ok hT.sl hS) (evO_spec hx) (evO_spec hi) h0 h1
theorem k_indexO {P : Program} {tb : TB} {l : List (Nat × D)} {h : List (Nat × Ob)} {o : Oper} {m' : Bool} {k j c sz : Nat} {i : Int} {E : TypeId} {t : TypeId} {x ix : Operand} (hT : TbOk P tb) (ho : o.op = .indexAddr t x ix) (hx : evO l x = some (.one (.own k j c sz))) (hi : evO l ix = some (.one (.r m' (int i)))) (hS : slL tb.sls t = some (E, sz)) (h0 : 0 ≤ i) (h1 : i < c) : Loc P (lookH h) (evD (look l)) o (.one (.ptr k (j + i.toNat) sz 0)) :=
  loc_index_own t x ix ho (slL_ok hT.sl hS) (evO_spec hx) (evO_spec hi) h0 h1
theorem aw_yes {P : Program} {n : Nat} {l : List (Nat × D)} {h : List (Nat × Ob)} {Q : Exit → St → Prop} {c : Operand} {x y : Code} {m : Bool} (hc : evO l c = some (.one (.r m (.val (.bool true))))) (h1 : AW P x (mkS n l h) Q) : AW P (.cond c x y) (mkS n l h) Q := aw_cond (evO_spec hc) (fun _ => h1) (fun e => by cases e)
theorem aw_no {P : Program} {n : Nat} {l : List (Nat × D)} {h : List (Nat × Ob)} {Q : Exit → St → Prop} {c : Operand} {x y : Code} {m : Bool} (hc : evO l c = some (.one (.r m (.val (.bool false))))) (h1 : AW P y (mkS n l h) Q) : AW P (.cond c x y) (mkS n l h) Q := aw_cond (evO_spec hc) (fun e => by cases e) (fun _ => h1)
theorem aw_ways {P : Program} {n : Nat} {l : List (Nat × D)} {h : List (Nat × Ob)} {Q : Exit → St → Prop} {c : Operand} {x y : Code} {m b : Bool} (hc : evO l c = some (.one (.r m (.val (.bool b))))) (h1 : b = true → AW P x (mkS n l h) Q) (h2 : b = false → AW P y (mkS n l h) Q) : AW P (.cond c x y) (mkS n l h) Q := aw_cond (evO_spec hc) h1 h2
theorem r_split {P : Program} {Z : List Sg → Bool} {q : Option (List Sg)} {ops : Array Oper} {o : Oper} {rest : List Oper} {n : Nat} {l : List (Nat × D)} {h : List (Nat × Ob)} {K : St → Prop} {j t : Nat} {want b m : Bool} (hg : o.guard = some (j, want)) (hj : (ops[j]?).bind (·.dst) = some t) (hb : lookO l t = some (.one (.r m (.val (.bool b))))) (h1 : b = true → W P ops Z (o :: rest) (mkS n ((t, .one (.r m (bool true))) :: l) h) q K) (h2 : b = false → W P ops Z (o :: rest) (mkS n ((t, .one (.r m (bool false))) :: l) h) q K) : W P ops Z (o :: rest) (mkS n l h) q K := w_split hg hj (lookO_spec hb) h1 h2
end Go.Proofs.Ytjjeihcmiofkmaa.Abs
