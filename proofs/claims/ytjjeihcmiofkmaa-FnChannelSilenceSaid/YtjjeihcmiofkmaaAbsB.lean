/- Structs built of parts, parts of structs, checks for nil. No statement of the seat is proved here. -/
import Derived.Test.YtjjeihcmiofkmaaAbsK
set_option linter.unusedSimpArgs false
set_option linter.unusedVariables false
namespace Go.Proofs.Ytjjeihcmiofkmaa.Abs
open Go.RowKit
open R (val row ref)

theorem foldl_set (off : Nat) : ∀ (vs : List Value) (k : Nat) (cells : Array Value), off + k + vs.length ≤ cells.size →
    ((vs.zipIdx k).foldl (fun cs (x : Value × Nat) => cs.setIfInBounds (off + x.2) x.1) cells).toList = cells.toList.take (off + k) ++ vs ++ cells.toList.drop (off + k + vs.length)
  | [], k, cells, _ => by simp
  | v :: vs, k, cells, h => by
    simp only [List.length_cons] at h
    rw [List.zipIdx_cons, List.foldl_cons, foldl_set off vs (k + 1) _ (by simp; omega)]
    apply List.ext_getElem?
    intro j
    have hl : (cells.toList.take (off + k)).length = off + k := by rw [List.length_take, Array.length_toList]; omega
    have hl2 : ((cells.setIfInBounds (off + k) v).toList.take (off + (k + 1))).length = off + (k + 1) := by rw [List.length_take, Array.length_toList, Array.size_setIfInBounds]; omega
    simp only [Array.toList_setIfInBounds]
    by_cases h1 : j < off + k
    · rw [List.append_assoc, List.getElem?_append_left (by simp; omega), List.append_assoc, List.getElem?_append_left (by omega), List.getElem?_take, if_pos (by omega), List.getElem?_take, if_pos h1, List.getElem?_set_ne (by omega)]
    · by_cases h2 : j = off + k
      · subst h2
        rw [List.append_assoc, List.getElem?_append_left (by simp; omega), List.getElem?_take, if_pos (by omega), List.getElem?_set_self (by simp; omega), List.append_assoc, List.getElem?_append_right (by omega), hl, Nat.sub_self]
        simp
      · have hr : (cells.toList.take (off + k) ++ v :: vs ++ cells.toList.drop (off + k + (v :: vs).length))[j]? = (vs ++ cells.toList.drop (off + k + (vs.length + 1)))[j - (off + k + 1)]? := by
          rw [List.append_assoc, List.getElem?_append_right (by omega), hl, List.cons_append, show j - (off + k) = (j - (off + k + 1)) + 1 by omega, List.getElem?_cons_succ, List.length_cons]
        rw [hr, List.append_assoc, List.getElem?_append_right (by simp; omega)]
        have hl3 : ((cells.toList.set (off + k) v).take (off + (k + 1))).length = off + (k + 1) := by rw [List.length_take, List.length_set, Array.length_toList]; omega
        rw [hl3, show j - (off + (k + 1)) = j - (off + k + 1) by omega]
        congr 2
        rw [List.drop_set_of_lt (by omega)]
        congr 1
        omega

/-- Cells laid over others from a place on, written out as it is reckoned. -/
def putC : Nat → List Cell → List Cell → Option (List Cell)
  | 0, [], cs => some cs
  | 0, x :: xs, _ :: cs => match putC 0 xs cs with | some r => some (x :: r) | none => none
  | 0, _ :: _, [] => none
  | n + 1, xs, c :: cs => match putC n xs cs with | some r => some (c :: r) | none => none
  | _ + 1, _, [] => none
theorem putC_ok : ∀ {n : Nat} {xs cs r : List Cell}, putC n xs cs = some r → n + xs.length ≤ cs.length ∧ r = splice n xs cs
  | 0, [], cs, r, h => by simp only [putC, Option.some.injEq] at h; subst h; simp [splice]
  | 0, x :: xs, c :: cs, r, h => by
    simp only [putC] at h
    split at h
    · rename_i r' hr
      injection h with h; subst h
      obtain ⟨h1, h2⟩ := putC_ok hr
      refine ⟨by simp; omega, ?_⟩
      rw [h2]; simp [splice]
    · cases h
  | 0, _ :: _, [], r, h => by cases h
  | n + 1, xs, c :: cs, r, h => by
    simp only [putC] at h
    split at h
    · rename_i r' hr
      injection h with h; subst h
      obtain ⟨h1, h2⟩ := putC_ok hr
      refine ⟨by simp; omega, ?_⟩
      rw [h2]; simp [splice, show n + 1 + xs.length = (n + xs.length) + 1 by omega]
    · cases h
  | _ + 1, _, [], r, h => by cases h

def plc (P : Program) : List Field → Option (List (Nat × Nat))
  | [] => some []
  | f :: fs => match P.info? f.type with
    | some i => (match plc P fs with | some r => some ((f.offset, i.size) :: r) | none => none)
    | none => none
/-- The places of a struct's fields. -/
def bldOf (P : Program) (t : TypeId) : Option (List (Nat × Nat)) := match P.underlying t with | some (.struct fs) => plc P fs.toList | _ => none
theorem plc_run {P : Program} {w : World} : ∀ {fs : List Field} {pl : List (Nat × Nat)}, plc P fs = some pl → ((fs.mapM fun f => do pure (f.offset, ← sizeOf f.type) : Sem (List (Nat × Nat)))).run P w = .ok pl w
  | [], pl, h => by injection h with h; subst h; rfl
  | f :: fs, pl, h => by
    simp only [plc] at h
    split at h
    · rename_i i hi
      split at h
      · rename_i r hr
        injection h with h; subst h
        have := plc_run (w := w) hr
        rw [List.mapM_cons]
        simp only [Sem.run_bind, sizeOf, typeInfo, run_program, Result.andThen_ok, hi, Sem.run_pure, Option.map_some] at this ⊢
        rw [this]
        rfl
      · cases h
    · cases h
def CellsLike (ι : Nat → Nat × Nat) (base : Nat) (c : Cx) (arr : Array Value) (cs : List Cell) : Prop := arr.size = cs.length ∧ ∀ (j : Nat) (x : Cell), cs[j]? = some x → ∃ u, arr[j]? = some u ∧ x.p ι base c u
def buildC (pl : List (Nat × Nat)) : List Cell → List (Nat × List Cell) → Option (List Cell)
  | cs, [] => some cs
  | cs, (i, xs) :: r => match pl[i]? with
    | some (off, n) => bif Nat.beq xs.length n then (match putC off xs cs with | some cs' => buildC pl cs' r | none => none) else none
    | none => none
def PartsLike (ι : Nat → Nat × Nat) (base : Nat) (c : Cx) : List (Nat × Value) → List (Nat × List Cell) → Prop
  | [], [] => True
  | (i, v) :: ps, (j, xs) :: qs => i = j ∧ CellsLike ι base c v.cells xs ∧ PartsLike ι base c ps qs
  | _, _ => False
theorem fill_ok {ι : Nat → Nat × Nat} {base : Nat} {c : Cx} {pl : List (Nat × Nat)} : ∀ {ps : List (Nat × Value)} {qs : List (Nat × List Cell)} {arr : Array Value} {cs r : List Cell}, PartsLike ι base c ps qs → CellsLike ι base c arr cs → buildC pl cs qs = some r → ∃ out, Instr.fill (fun i => pl.toArray[i]?) arr ps = some out ∧ CellsLike ι base c out r
  | [], [], arr, cs, r, _, ha, h => by injection h with h; subst h; exact ⟨arr, rfl, ha⟩
  | (i, v) :: ps, (j, xs) :: qs, arr, cs, r, ⟨hij, hv, hps⟩, ha, h => by
    subst hij
    simp only [buildC] at h
    split at h
    · rename_i off n hp
      cases hb : Nat.beq xs.length n with
      | false => rw [hb] at h; cases h
      | true =>
        rw [hb] at h
        simp only [cond_true] at h
        split at h
        · rename_i cs' hc
          have hn : xs.length = n := by simpa using hb
          obtain ⟨hle, rfl⟩ := putC_ok hc
          have hf := foldl_set off v.cells.toList 0 arr (by rw [Array.length_toList, hv.1, ha.1]; omega)
          simp only [Nat.add_zero, Array.length_toList] at hf
          have hfold : (v.cells.zipIdx.foldl (fun cs (x : Value × Nat) => cs.setIfInBounds (off + x.2) x.1) arr).toList = arr.toList.take off ++ v.cells.toList ++ arr.toList.drop (off + v.cells.size) := by
            rw [← hf, ← Array.foldl_toList, Array.toList_zipIdx]
          have hsz : (v.cells.zipIdx.foldl (fun cs (x : Value × Nat) => cs.setIfInBounds (off + x.2) x.1) arr).size = arr.size := by
            rw [← Array.length_toList, hfold]
            simp [ha.1, hv.1]
            omega
          obtain ⟨out, o1, o2⟩ := fill_ok (arr := v.cells.zipIdx.foldl (fun cs (x : Value × Nat) => cs.setIfInBounds (off + x.2) x.1) arr) hps ⟨by rw [hsz, ha.1, splice_len hle], fun q x hq => by
            rw [splice_get hle] at hq
            rw [← Array.getElem?_toList, hfold]
            have hl1 : (arr.toList.take off).length = off := by rw [List.length_take, Array.length_toList, ha.1]; omega
            by_cases h1 : q < off
            · rw [if_neg (by omega)] at hq
              rw [List.append_assoc, List.getElem?_append_left (by omega), List.getElem?_take, if_pos h1, Array.getElem?_toList]
              exact ha.2 q x hq
            · by_cases h2 : q < off + xs.length
              · rw [if_pos ⟨by omega, h2⟩] at hq
                rw [List.getElem?_append_left (by rw [List.length_append, hl1, Array.length_toList, hv.1]; omega), List.getElem?_append_right (by omega), hl1, Array.getElem?_toList]
                exact hv.2 _ x hq
              · rw [if_neg (by omega)] at hq
                rw [List.getElem?_append_right (by rw [List.length_append, hl1, Array.length_toList, hv.1]; omega), List.getElem?_drop, List.length_append, hl1, Array.length_toList, hv.1, Array.getElem?_toList]
                rw [show off + xs.length + (q - (off + xs.length)) = q by omega]
                exact ha.2 q x hq⟩ h
          refine ⟨out, ?_, o2⟩
          simp only [Instr.fill, List.getElem?_toArray, hp]
          rw [if_neg (by
            simp only [Bool.or_eq_true, decide_eq_true_eq, not_or, ne_eq, Decidable.not_not]
            exact ⟨by rw [hv.1]; exact hn, by rw [hv.1, ha.1]; omega⟩)]
          simpa only [List.getElem?_toArray] using o1
        · cases h
    · cases h
  | [], _ :: _, _, _, _, h, _, _ => h.elim
  | _ :: _, [], _, _, _, h, _, _ => h.elim

def partsC (l : List (Nat × D)) : List (Nat × Operand) → Option (List (Nat × List Cell))
  | [] => some []
  | (i, x) :: ps => match evO l x with
    | some d => (match d.cells with
      | some xs => (match partsC l ps with | some r => some ((i, xs) :: r) | none => none)
      | none => none)
    | none => none
theorem partsC_ok {l : List (Nat × D)} {ι : Nat → Nat × Nat} {base : Nat} {c : Cx} {e : Operand → Value} : ∀ {ps : List (Nat × Operand)} {qs : List (Nat × List Cell)}, partsC l ps = some qs → (∀ p ∈ ps, (evD (look l) p.2).p ι base c (e p.2)) → PartsLike ι base c (ps.map fun p => (p.1, e p.2)) qs
  | [], qs, h, _ => by injection h with h; subst h; trivial
  | (i, x) :: ps, qs, h, he => by
    simp only [partsC] at h
    split at h
    · rename_i d hd
      split at h
      · rename_i xs hx
        split at h
        · rename_i r hr
          injection h with h; subst h
          have h1 := he (i, x) (by simp)
          simp only [evO_spec hd] at h1
          obtain ⟨g1, g2⟩ := D.cells_p hx h1
          exact ⟨rfl, ⟨g1, g2⟩, partsC_ok hr (fun p hp => he p (by simp [hp]))⟩
        · cases h
      · cases h
    · cases h
section
variable {P : Program} {H : Nat → Option Ob} {o : Oper} {l : List (Nat × D)}
theorem loc_build {pl : List (Nat × Nat)} {cs r : List Cell} {qs : List (Nat × List Cell)} (t : TypeId) (ps : Array (Nat × Operand)) (ho : o.op = .build t ps) (hb : bldOf P t = some pl) (hz : zcOf P t = some cs) (hq : partsC l ps.toList = some qs) (hr : buildC pl cs qs = some r) : Loc P H (evD (look l)) o (.agg r) :=
  loc_run fun base a w ι own hw he hH => by
    unfold bldOf at hb
    split at hb
    · rename_i fs hu
      unfold zcOf at hz
      cases hzz : zOf P t with
      | none => simp [hzz] at hz
      | some zs =>
        simp only [hzz, Option.map_some, Option.some.injEq] at hz
        subst hz
        unfold zOf at hzz
        cases hi : P.info? t with
        | none => simp [hi] at hzz
        | some i =>
          cases hv : i.zero with
          | none => simp [hi, hv] at hzz
          | some v =>
            simp only [hi, hv, Option.ite_none_right_eq_some, Option.some.injEq] at hzz
            obtain ⟨hall, rfl⟩ := hzz
            have hp := partsC_ok (ι := ι) (base := base) (c := ⟨w, own⟩) (e := a.eval) hq (fun p hp => he p.2 (by
              rw [ho]; simp only [Op.operands, List.mem_toArray, List.mem_map]; exact ⟨p, hp, rfl⟩))
            obtain ⟨out, o1, o2⟩ := fill_ok (arr := v.cells) (cs := v.cells.toList.map cellOf) hp ⟨by simp, fun j x hj => by
              simp only [List.getElem?_map, Option.map_eq_some_iff] at hj
              obtain ⟨u, hu, rfl⟩ := hj
              exact ⟨u, by simpa using hu, cellOf_p (List.all_eq_true.1 hall u (List.mem_of_getElem? hu))⟩⟩ hr
            refine ⟨.agg out, ?_, out.toList, by simp, by rw [Array.length_toList]; exact o2.1, fun j x hj => by rw [Array.getElem?_toList]; exact o2.2 j x hj⟩
            unfold execOp
            rw [ho]
            have hm : (fs.mapM fun f => do pure (f.offset, ← sizeOf f.type) : Sem (Array (Nat × Nat))).run P w = .ok pl.toArray w := by
              have h1 := plc_run (w := w) hb
              have h2 : (fs.mapM fun f => do pure (f.offset, ← sizeOf f.type) : Sem (Array (Nat × Nat))) = List.toArray <$> (fs.toList.mapM fun f => do pure (f.offset, ← sizeOf f.type)) := by
                rw [← List.mapM_toArray]
              rw [h2, map_eq_pure_bind]
              simp only [Sem.run_bind, h1, Result.andThen_ok, Sem.run_pure]
            have hpm : ((ps.map fun (x : Nat × Operand) => (x.1, a.eval x.2)).toList) = ps.toList.map fun p => (p.1, a.eval p.2) := by rw [Array.toList_map]
            simp only [Instr.build, zeroValue, typeInfo, Sem.run_bind, run_program, Result.andThen_ok, hi, hv, Sem.run_pure, underlying, hu, hm, hpm]
            rw [o1]
            rfl
    · cases hb
theorem loc_nilCheck {d : D} (x : Operand) (ho : o.op = .nilCheck x) {ev : Operand → D} (hx : ev x = d) (hd : ∀ (ι : Nat → Nat × Nat) (base : Nat) (c : Cx) (v : Value), d.p ι base c v → ∃ z, v = .pointer (some z)) : Loc P H ev o d :=
  loc_run fun base a w ι own hw he hH => by
    have h1 : (ev x).p ι base ⟨w, own⟩ (a.eval x) := he x (by rw [ho]; simp [Op.operands])
    rw [hx] at h1
    refine ⟨a.eval x, ?_, h1⟩
    unfold execOp
    rw [ho]
    obtain ⟨z, hz⟩ := hd _ _ _ _ h1
    simp only [hz, Sem.run_pure]
theorem ptr_nn {k i sz off : Nat} : ∀ (ι : Nat → Nat × Nat) (base : Nat) (c : Cx) (v : Value), (D.one (.ptr k i sz off)).p ι base c v → ∃ z, v = .pointer (some z) := fun ι base c v h => ⟨_, h⟩
theorem ref_nn {n : Bool} {y : P0} : ∀ (ι : Nat → Nat × Nat) (base : Nat) (c : Cx) (v : Value), (D.one (.r n (ref y))).p ι base c v → ∃ z, v = .pointer (some z) := fun ι base c v h => by
  obtain ⟨b, oo, e1, _⟩ := ref_p.1 h
  exact ⟨_, e1⟩
theorem loc_field {fo fn : Nat} {ag : Bool} {ft : TypeId} {xs : List Cell} {ev : Operand → D} (t : TypeId) (x : Operand) (f : Nat) (ho : o.op = .field t x f) (hx : ev x = .agg xs) (hf : fldOf P t f = some (fo, ft)) (hT : tyOf P ft = some (ag, fn)) (hn : fo + fn ≤ xs.length) (h1 : ag = true ∨ fn = 1) : Loc P H ev o (cut ag fn fo xs) :=
  loc_run fun base a w ι own hw he hH => by
    have hx1 : (ev x).p ι base ⟨w, own⟩ (a.eval x) := he x (by rw [ho]; simp [Op.operands])
    rw [hx] at hx1
    obtain ⟨vs, e1, e2, e3⟩ := hx1
    obtain ⟨fs, y, g1, g2, g3, g4, _⟩ := fldOf_spec hf
    have hrun : ∀ v, (part ft vs.toArray fo).run P w = .ok v w → (execOp a.eval o).run P w = .ok (.value v) w := fun v hv => by
      unfold execOp
      rw [ho]
      simp only [Instr.field, e1, Sem.run_bind, underlying, run_program, Result.andThen_ok, g1, Sem.run_pure, g2, asAgg, g3, g4, hv]
    cases ag with
    | false =>
      have hfn : fn = 1 := by simpa using h1
      obtain ⟨u, hu, hp⟩ := e3 fo xs[fo] (List.getElem?_eq_getElem (by omega))
      refine ⟨u, hrun u ?_, ?_⟩
      · unfold part
        simp only [Sem.run_bind, (tyOf_run hT w).1, Result.andThen_ok]
        simp [hu]
      · simp only [cut, Bool.false_eq_true, if_false]
        rw [List.getElem?_eq_getElem (by omega)]
        exact hp
    | true =>
      refine ⟨.agg (vs.toArray.extract fo (fo + fn)), hrun _ ?_, ?_⟩
      · unfold part
        simp only [Sem.run_bind, (tyOf_run hT w).1, (tyOf_run hT w).2, Result.andThen_ok, if_true, Sem.run_pure]
      · simp only [cut, if_true]
        refine ⟨(vs.drop fo).take fn, by simp [List.extract_eq_take_drop], by simp [e2], fun j z hj => ?_⟩
        rw [List.getElem?_take] at hj ⊢
        split at hj
        · rename_i hlt
          rw [if_pos hlt]
          rw [List.getElem?_drop] at hj ⊢
          exact e3 _ z hj
        · cases hj
theorem loc_min {m m' : Bool} {k : IntKind} {p q : Int} {ev : Operand → D} (x y : Operand) (tys : Array TypeId) (ho : o.op = .call { callee := .builtin .min, args := #[x, y], argTypes := tys }) (hx : ev x = .one (.r m (val (.int k p)))) (hy : ev y = .one (.r m' (val (.int k q)))) : Loc P H ev o (.one (.r true (val (.int k (if q < p then q else p))))) :=
  loc_run fun base a w ι own hw he hH => by
    have h1 := he x (by rw [ho]; simp [Op.operands, Call.operands])
    have h2 := he y (by rw [ho]; simp [Op.operands, Call.operands])
    rw [hx] at h1
    rw [hy] at h2
    have e1 : a.eval x = .int k p := ((val_p (c := Cx.young ⟨w, own⟩ base m)).1 h1).1
    have e2 : a.eval y = .int k q := ((val_p (c := Cx.young ⟨w, own⟩ base m')).1 h2).1
    refine ⟨_, ?_, (val_p (c := Cx.young ⟨w, own⟩ base true)).2 ⟨rfl, rfl⟩⟩
    unfold execOp
    rw [ho]
    simp [resolve, invoke, builtin, e1, e2, Builtin.min_, Builtin.min2]
theorem loc_max {m m' : Bool} {k : IntKind} {p q : Int} {ev : Operand → D} (x y : Operand) (tys : Array TypeId) (ho : o.op = .call { callee := .builtin .max, args := #[x, y], argTypes := tys }) (hx : ev x = .one (.r m (val (.int k p)))) (hy : ev y = .one (.r m' (val (.int k q)))) : Loc P H ev o (.one (.r true (val (.int k (if p < q then q else p))))) :=
  loc_run fun base a w ι own hw he hH => by
    have h1 := he x (by rw [ho]; simp [Op.operands, Call.operands])
    have h2 := he y (by rw [ho]; simp [Op.operands, Call.operands])
    rw [hx] at h1
    rw [hy] at h2
    have e1 : a.eval x = .int k p := ((val_p (c := Cx.young ⟨w, own⟩ base m)).1 h1).1
    have e2 : a.eval y = .int k q := ((val_p (c := Cx.young ⟨w, own⟩ base m')).1 h2).1
    refine ⟨_, ?_, (val_p (c := Cx.young ⟨w, own⟩ base true)).2 ⟨rfl, rfl⟩⟩
    unfold execOp
    rw [ho]
    simp [resolve, invoke, builtin, e1, e2, Builtin.max_, Builtin.max2]
end
end Go.Proofs.Ytjjeihcmiofkmaa.Abs
