/- Structs built of parts, parts of structs, checks for nil. No statement of the seat is proved here. -/
import Derived.Test.YtmkijbfiilpccaaXlAbsK
set_option linter.unusedSimpArgs false
set_option linter.unusedVariables false
namespace Go.Proofs.Ytmkijbfiilpccaa.Abs
open Go.RowKit
open R (val row ref)
theorem foldl_set (off : Nat) : ∀ (vs : List Value) (k : Nat) (cells : Array Value),off + k + vs.length ≤ cells.size →
  ((vs.zipIdx k).foldl (fun cs (x : Value × Nat)=>cs.setIfInBounds (off + x.2) x.1) cells).toList = cells.toList.take (off + k) ++ vs ++ cells.toList.drop (off + k + vs.length)
 | [],k,cells,_=>by simp
 | v :: vs,k,cells,h=>by
  simp only [List.length_cons] at h
  rw [List.zipIdx_cons,List.foldl_cons,foldl_set off vs (k + 1) _ (by simp; omega)]
  apply List.ext_getElem?
  intro j
  have hl : (cells.toList.take (off + k)).length = off + k:=by rw [List.length_take,Array.length_toList]; omega
  have hl2 : ((cells.setIfInBounds (off + k) v).toList.take (off + (k + 1))).length = off + (k + 1):=by rw [List.length_take,Array.length_toList,Array.size_setIfInBounds]; omega
  simp only [Array.toList_setIfInBounds]
  by_cases h1 : j < off + k
  ·rw [List.append_assoc,List.getElem?_append_left (by simp; omega),List.append_assoc,List.getElem?_append_left (by omega),List.getElem?_take,if_pos (by omega),List.getElem?_take,if_pos h1,List.getElem?_set_ne (by omega)]
  ·by_cases h2 : j = off + k
   ·subst h2
    rw [List.append_assoc,List.getElem?_append_left (by simp; omega),List.getElem?_take,if_pos (by omega),List.getElem?_set_self (by simp; omega),List.append_assoc,List.getElem?_append_right (by omega),hl,Nat.sub_self]
    simp
   ·have hr : (cells.toList.take (off + k) ++ v :: vs ++ cells.toList.drop (off + k + (v :: vs).length))[j]? = (vs ++ cells.toList.drop (off + k + (vs.length + 1)))[j - (off + k + 1)]?:=by
     rw [List.append_assoc,List.getElem?_append_right (by omega),hl,List.cons_append,show j - (off + k) = (j - (off + k + 1)) + 1 by omega,List.getElem?_cons_succ,List.length_cons]
    rw [hr,List.append_assoc,List.getElem?_append_right (by simp; omega)]
    have hl3 : ((cells.toList.set (off + k) v).take (off + (k + 1))).length = off + (k + 1):=by rw [List.length_take,List.length_set,Array.length_toList]; omega
    rw [hl3,show j - (off + (k + 1)) = j - (off + k + 1) by omega]
    congr 2
    rw [List.drop_set_of_lt (by omega)]
    congr 1
    omega
def putC : Nat → List Cell → List Cell → Option (List Cell)
 | 0,[],cs=>some cs
 | 0,x :: xs,_ :: cs=>match putC 0 xs cs with | some r=>some (x :: r) | none=>none
 | 0,_ :: _,[]=>none
 | n + 1,xs,c :: cs=>match putC n xs cs with | some r=>some (c :: r) | none=>none
 | _ + 1,_,[]=>none
theorem putC_ok : ∀ {n : Nat} {xs cs r : List Cell},putC n xs cs = some r → n + xs.length ≤ cs.length ∧ r = splice n xs cs
 | 0,[],cs,r,h=>by simp only [putC,Option.some.injEq] at h; subst h; simp [splice]
 | 0,x :: xs,c :: cs,r,h=>by
  simp only [putC] at h
  split at h
  ·rename_i r' hr
   injection h with h; subst h
   obtain ⟨h1,h2⟩:=putC_ok hr
   refine ⟨by simp; omega,?_⟩
   rw [h2]; simp [splice]
  ·cases h
 | 0,_ :: _,[],r,h=>by cases h
 | n + 1,xs,c :: cs,r,h=>by
  simp only [putC] at h
  split at h
  ·rename_i r' hr
   injection h with h; subst h
   obtain ⟨h1,h2⟩:=putC_ok hr
   refine ⟨by simp; omega,?_⟩
   rw [h2]; simp [splice,show n + 1 + xs.length = (n + xs.length) + 1 by omega]
  ·cases h
 | _ + 1,_,[],r,h=>by cases h
def plc (P : Program) : List Field → Option (List (Nat × Nat))
 | []=>some []
 | f :: fs=>match P.info? f.type with
  | some i=>(match plc P fs with | some r=>some ((f.offset,i.size) :: r) | none=>none)
  | none=>none
def bldOf (P : Program) (t : TypeId) : Option (List (Nat × Nat)):=match P.underlying t with | some (.struct fs)=>plc P fs.toList | _=>none
theorem plc_run {P : Program} {w : World} : ∀ {fs : List Field} {pl : List (Nat × Nat)},plc P fs = some pl → ((fs.mapM fun f=>do pure (f.offset,← sizeOf f.type) : Sem (List (Nat × Nat)))).run P w = .ok pl w
 | [],pl,h=>by injection h with h; subst h; rfl
 | f :: fs,pl,h=>by
  simp only [plc] at h
  split at h
  ·rename_i i hi
   split at h
   ·rename_i r hr
    injection h with h; subst h
    have:=plc_run (w:=w) hr
    rw [List.mapM_cons]
    simp only [Sem.run_bind,sizeOf,typeInfo,run_program,Result.andThen_ok,hi,Sem.run_pure,Option.map_some] at this ⊢
    rw [this]
    rfl
   ·cases h
  ·cases h
def CellsLike (ι : Nat → Nat × Nat) (base : Nat) (c : Cx) (arr : Array Value) (cs : List Cell) : Prop:=arr.size = cs.length ∧ ∀ (j : Nat) (x : Cell),cs[j]? = some x → ∃ u,arr[j]? = some u ∧ x.p ι base c u
def buildC (pl : List (Nat × Nat)) : List Cell → List (Nat × List Cell) → Option (List Cell)
 | cs,[]=>some cs
 | cs,(i,xs) :: r=>match pl[i]? with
  | some (off,n)=>bif Nat.beq xs.length n then (match putC off xs cs with | some cs'=>buildC pl cs' r | none=>none) else none
  | none=>none
def PartsLike (ι : Nat → Nat × Nat) (base : Nat) (c : Cx) : List (Nat × Value) → List (Nat × List Cell) → Prop
 | [],[]=>True
 | (i,v) :: ps,(j,xs) :: qs=>i = j ∧ CellsLike ι base c v.cells xs ∧ PartsLike ι base c ps qs
 | _,_=>False
theorem fill_ok {ι : Nat → Nat × Nat} {base : Nat} {c : Cx} {pl : List (Nat × Nat)} : ∀ {ps : List (Nat × Value)} {qs : List (Nat × List Cell)} {arr : Array Value} {cs r : List Cell},PartsLike ι base c ps qs → CellsLike ι base c arr cs → buildC pl cs qs = some r → ∃ out,Instr.fill (fun i=>pl.toArray[i]?) arr ps = some out ∧ CellsLike ι base c out r
 | [],[],arr,cs,r,_,ha,h=>by injection h with h; subst h; exact ⟨arr,rfl,ha⟩
 | (i,v) :: ps,(j,xs) :: qs,arr,cs,r,⟨hij,hv,hps⟩,ha,h=>by
  subst hij
  simp only [buildC] at h
  split at h
  ·rename_i off n hp
   cases hb : Nat.beq xs.length n with
   | false=>rw [hb] at h; cases h
   | true =>
    rw [hb] at h
    simp only [cond_true] at h
    split at h
    ·rename_i cs' hc
     have hn : xs.length = n:=by simpa using hb
     obtain ⟨hle,rfl⟩:=putC_ok hc
     have hf:=foldl_set off v.cells.toList 0 arr (by rw [Array.length_toList,hv.1,ha.1]; omega)
     simp only [Nat.add_zero,Array.length_toList] at hf
     have hfold : (v.cells.zipIdx.foldl (fun cs (x : Value × Nat)=>cs.setIfInBounds (off + x.2) x.1) arr).toList = arr.toList.take off ++ v.cells.toList ++ arr.toList.drop (off + v.cells.size):=by
      rw [← hf,← Array.foldl_toList,Array.toList_zipIdx]
     have hsz : (v.cells.zipIdx.foldl (fun cs (x : Value × Nat)=>cs.setIfInBounds (off + x.2) x.1) arr).size = arr.size:=by
      rw [← Array.length_toList,hfold]
      simp [ha.1,hv.1]
      omega
     obtain ⟨out,o1,o2⟩:=fill_ok (arr:=v.cells.zipIdx.foldl (fun cs (x : Value × Nat)=>cs.setIfInBounds (off + x.2) x.1) arr) hps ⟨by rw [hsz,ha.1,splice_len hle],fun q x hq=>by
      rw [splice_get hle] at hq
      rw [← Array.getElem?_toList,hfold]
      have hl1 : (arr.toList.take off).length = off:=by rw [List.length_take,Array.length_toList,ha.1]; omega
      by_cases h1 : q < off
      ·rw [if_neg (by omega)] at hq
       rw [List.append_assoc,List.getElem?_append_left (by omega),List.getElem?_take,if_pos h1,Array.getElem?_toList]
       exact ha.2 q x hq
      ·by_cases h2 : q < off + xs.length
       ·rw [if_pos ⟨by omega,h2⟩] at hq
        rw [List.getElem?_append_left (by rw [List.length_append,hl1,Array.length_toList,hv.1]; omega),List.getElem?_append_right (by omega),hl1,Array.getElem?_toList]
        exact hv.2 _ x hq
       ·rw [if_neg (by omega)] at hq
        rw [List.getElem?_append_right (by rw [List.length_append,hl1,Array.length_toList,hv.1]; omega),List.getElem?_drop,List.length_append,hl1,Array.length_toList,hv.1,Array.getElem?_toList]
        rw [show off + xs.length + (q - (off + xs.length)) = q by omega]
        exact ha.2 q x hq⟩ h
     refine ⟨out,?_,o2⟩
     simp only [Instr.fill,List.getElem?_toArray,hp]
     rw [if_neg (by
      simp only [Bool.or_eq_true,decide_eq_true_eq,not_or,ne_eq,Decidable.not_not]
      exact ⟨by rw [hv.1]; exact hn,by rw [hv.1,ha.1]; omega⟩)]
     simpa only [List.getElem?_toArray] using o1
    ·cases h
  ·cases h
 | [],_ :: _,_,_,_,h,_,_=>h.elim
 | _ :: _,[],_,_,_,h,_,_=>h.elim
def partsC (l : List (Nat × D)) : List (Nat × Operand) → Option (List (Nat × List Cell))
 | []=>some []
 | (i,x) :: ps=>match evO l x with
  | some d=>(match d.cells with
   | some xs=>(match partsC l ps with | some r=>some ((i,xs) :: r) | none=>none)
   | none=>none)
  | none=>none
theorem partsC_ok {l : List (Nat × D)} {ι : Nat → Nat × Nat} {base : Nat} {c : Cx} {e : Operand → Value} : ∀ {ps : List (Nat × Operand)} {qs : List (Nat × List Cell)},partsC l ps = some qs → (∀ p ∈ ps,(evD (look l) p.2).p ι base c (e p.2)) → PartsLike ι base c (ps.map fun p=>(p.1,e p.2)) qs
 | [],qs,h,_=>by injection h with h; subst h; trivial
 | (i,x) :: ps,qs,h,he=>by
  simp only [partsC] at h
  split at h
  ·rename_i d hd
   split at h
   ·rename_i xs hx
    split at h
    ·rename_i r hr
     injection h with h; subst h
     have h1:=he (i,x) (by simp)
     simp only [Za hd] at h1
     obtain ⟨g1,g2⟩:=D.cells_p hx h1
     exact ⟨rfl,⟨g1,g2⟩,partsC_ok hr (fun p hp=>he p (by simp [hp]))⟩
    ·cases h
   ·cases h
  ·cases h
section
variable {P : Program} {H : Nat → Option Ob} {o : Oper} {l : List (Nat × D)}
theorem loc_build {pl : List (Nat × Nat)} {cs r : List Cell} {qs : List (Nat × List Cell)} (t : TypeId) (ps : Array (Nat × Operand)) (ho : o.op = .build t ps) (hb : bldOf P t = some pl) (hz : zcOf P t = some cs) (hq : partsC l ps.toList = some qs) (hr : buildC pl cs qs = some r) : Loc P H (evD (look l)) o (.agg r) :=
 Zal fun base a w ι own hw he hH=>by
  unfold bldOf at hb
  split at hb
  ·rename_i fs hu
   unfold zcOf at hz
   cases hzz : zOf P t with
   | none=>simp [hzz] at hz
   | some zs =>
    simp only [hzz,Option.map_some,Option.some.injEq] at hz
    subst hz
    unfold zOf at hzz
    cases hi : P.info? t with
    | none=>simp [hi] at hzz
    | some i =>
     cases hv : i.zero with
     | none=>simp [hi,hv] at hzz
     | some v =>
      simp only [hi,hv,Option.ite_none_right_eq_some,Option.some.injEq] at hzz
      obtain ⟨hall,rfl⟩:=hzz
      have hp:=partsC_ok (ι:=ι) (base:=base) (c:=⟨w,own⟩) (e:=a.eval) hq (fun p hp=>he p.2 (by
       rw [ho]; simp only [Op.operands,List.mem_toArray,List.mem_map]; exact ⟨p,hp,rfl⟩))
      obtain ⟨out,o1,o2⟩:=fill_ok (arr:=v.cells) (cs:=v.cells.toList.map cellOf) hp ⟨by simp,fun j x hj=>by
       simp only [List.getElem?_map,Option.map_eq_some_iff] at hj
       obtain ⟨u,hu,rfl⟩:=hj
       exact ⟨u,by simpa using hu,cellOf_p (List.all_eq_true.1 hall u (List.mem_of_getElem? hu))⟩⟩ hr
      refine ⟨.agg out,?_,out.toList,by simp,by rw [Array.length_toList]; exact o2.1,fun j x hj=>by rw [Array.getElem?_toList]; exact o2.2 j x hj⟩
      unfold execOp
      rw [ho]
      have hm : (fs.mapM fun f=>do pure (f.offset,← sizeOf f.type) : Sem (Array (Nat × Nat))).run P w = .ok pl.toArray w:=by
       have h1:=plc_run (w:=w) hb
       have h2 : (fs.mapM fun f=>do pure (f.offset,← sizeOf f.type) : Sem (Array (Nat × Nat))) = List.toArray <$> (fs.toList.mapM fun f=>do pure (f.offset,← sizeOf f.type)):=by
        rw [← List.mapM_toArray]
       rw [h2,map_eq_pure_bind]
       simp only [Sem.run_bind,h1,Result.andThen_ok,Sem.run_pure]
      have hpm : ((ps.map fun (x : Nat × Operand)=>(x.1,a.eval x.2)).toList) = ps.toList.map fun p=>(p.1,a.eval p.2):=by rw [Array.toList_map]
      simp only [Instr.build,zeroValue,typeInfo,Sem.run_bind,run_program,Result.andThen_ok,hi,hv,Sem.run_pure,underlying,hu,hm,hpm]
      rw [o1]
      rfl
  ·cases hb
theorem loc_nilCheck {d : D} (x : Operand) (ho : o.op = .nilCheck x) {ev : Operand → D} (hx : ev x = d) (hd : ∀ (ι : Nat → Nat × Nat) (base : Nat) (c : Cx) (v : Value),d.p ι base c v → ∃ z,v = .pointer (some z)) : Loc P H ev o d :=
 Zal fun base a w ι own hw he hH=>by
  have h1 : (ev x).p ι base ⟨w,own⟩ (a.eval x):=he x (by rw [ho]; simp [Op.operands])
  rw [hx] at h1
  refine ⟨a.eval x,?_,h1⟩
  unfold execOp
  rw [ho]
  obtain ⟨z,hz⟩:=hd _ _ _ _ h1
  simp only [hz,Sem.run_pure]
theorem ptr_nn {k i sz off : Nat} : ∀ (ι : Nat → Nat × Nat) (base : Nat) (c : Cx) (v : Value),(D.one (.ptr k i sz off)).p ι base c v → ∃ z,v = .pointer (some z):=fun ι base c v h=>⟨_,h⟩
theorem ref_nn {n : Bool} {y : P0} : ∀ (ι : Nat → Nat × Nat) (base : Nat) (c : Cx) (v : Value),(D.one (.r n (ref y))).p ι base c v → ∃ z,v = .pointer (some z):=fun ι base c v h=>by
 obtain ⟨b,oo,e1,_⟩:=ref_p.1 h
 exact ⟨_,e1⟩
theorem loc_field {fo fn : Nat} {ag : Bool} {ft : TypeId} {xs : List Cell} {ev : Operand → D} (t : TypeId) (x : Operand) (f : Nat) (ho : o.op = .field t x f) (hx : ev x = .agg xs) (hf : fldOf P t f = some (fo,ft)) (hT : tyOf P ft = some (ag,fn)) (hn : fo + fn ≤ xs.length) (h1 : ag = true ∨ fn = 1) : Loc P H ev o (cut ag fn fo xs) :=
 Zal fun base a w ι own hw he hH=>by
  have hx1 : (ev x).p ι base ⟨w,own⟩ (a.eval x):=he x (by rw [ho]; simp [Op.operands])
  rw [hx] at hx1
  obtain ⟨vs,e1,e2,e3⟩:=hx1
  obtain ⟨fs,y,g1,g2,g3,g4,_⟩:=fldOf_spec hf
  have hrun : ∀ v,(part ft vs.toArray fo).run P w = .ok v w → (execOp a.eval o).run P w = .ok (.value v) w:=fun v hv=>by
   unfold execOp
   rw [ho]
   simp only [Instr.field,e1,Sem.run_bind,underlying,run_program,Result.andThen_ok,g1,Sem.run_pure,g2,asAgg,g3,g4,hv]
  cases ag with
  | false =>
   have hfn : fn = 1:=by simpa using h1
   obtain ⟨u,hu,hp⟩:=e3 fo xs[fo] (List.getElem?_eq_getElem (by omega))
   refine ⟨u,hrun u ?_,?_⟩
   ·unfold part
    simp only [Sem.run_bind,(Zbp hT w).1,Result.andThen_ok]
    simp [hu]
   ·simp only [cut,Bool.false_eq_true,if_false]
    rw [List.getElem?_eq_getElem (by omega)]
    exact hp
  | true =>
   refine ⟨.agg (vs.toArray.extract fo (fo + fn)),hrun _ ?_,?_⟩
   ·unfold part
    simp only [Sem.run_bind,(Zbp hT w).1,(Zbp hT w).2,Result.andThen_ok,if_true,Sem.run_pure]
   ·simp only [cut,if_true]
    refine ⟨(vs.drop fo).take fn,by simp [List.extract_eq_take_drop],by simp [e2],fun j z hj=>?_⟩
    rw [List.getElem?_take] at hj ⊢
    split at hj
    ·rename_i hlt
     rw [if_pos hlt]
     rw [List.getElem?_drop] at hj ⊢
     exact e3 _ z hj
    ·cases hj
theorem loc_min {m m' : Bool} {k : IntKind} {p q : Int} {ev : Operand → D} (x y : Operand) (tys : Array TypeId) (ho : o.op = .call { callee:=.builtin .min,args:=#[x,y],argTypes:=tys }) (hx : ev x = .one (.r m (val (.int k p)))) (hy : ev y = .one (.r m' (val (.int k q)))) : Loc P H ev o (.one (.r true (val (.int k (if q < p then q else p))))) :=
 Zal fun base a w ι own hw he hH=>by
  have h1:=he x (by rw [ho]; simp [Op.operands,Call.operands])
  have h2:=he y (by rw [ho]; simp [Op.operands,Call.operands])
  rw [hx] at h1
  rw [hy] at h2
  have e1 : a.eval x = .int k p:=((Zx (c:=Cx.young ⟨w,own⟩ base m)).1 h1).1
  have e2 : a.eval y = .int k q:=((Zx (c:=Cx.young ⟨w,own⟩ base m')).1 h2).1
  refine ⟨_,?_,(Zx (c:=Cx.young ⟨w,own⟩ base true)).2 ⟨rfl,rfl⟩⟩
  unfold execOp
  rw [ho]
  simp [resolve,invoke,builtin,e1,e2,Builtin.min_,Builtin.min2]
theorem loc_max {m m' : Bool} {k : IntKind} {p q : Int} {ev : Operand → D} (x y : Operand) (tys : Array TypeId) (ho : o.op = .call { callee:=.builtin .max,args:=#[x,y],argTypes:=tys }) (hx : ev x = .one (.r m (val (.int k p)))) (hy : ev y = .one (.r m' (val (.int k q)))) : Loc P H ev o (.one (.r true (val (.int k (if p < q then q else p))))) :=
 Zal fun base a w ι own hw he hH=>by
  have h1:=he x (by rw [ho]; simp [Op.operands,Call.operands])
  have h2:=he y (by rw [ho]; simp [Op.operands,Call.operands])
  rw [hx] at h1
  rw [hy] at h2
  have e1 : a.eval x = .int k p:=((Zx (c:=Cx.young ⟨w,own⟩ base m)).1 h1).1
  have e2 : a.eval y = .int k q:=((Zx (c:=Cx.young ⟨w,own⟩ base m')).1 h2).1
  refine ⟨_,?_,(Zx (c:=Cx.young ⟨w,own⟩ base true)).2 ⟨rfl,rfl⟩⟩
  unfold execOp
  rw [ho]
  simp [resolve,invoke,builtin,e1,e2,Builtin.max_,Builtin.max2]
end
structure TB where
 tys : List (Nat × Bool × Nat)
 fls : List (Nat × Nat × Nat × Nat)
 sls : List (Nat × Nat × Nat)
 zs : List (Nat × List Cell)
 bos : List Nat
 bls : List (Nat × List (Nat × Nat))
def AllTy (P : Program) : List (Nat × Bool × Nat) → Prop
 | []=>True
 | (t,b,n) :: r=>tyOf P t = some (b,n) ∧ AllTy P r
def AllFl (P : Program) : List (Nat × Nat × Nat × Nat) → Prop
 | []=>True
 | (t,f,o,ft) :: r=>fldOf P t f = some (o,ft) ∧ AllFl P r
def AllSl (P : Program) : List (Nat × Nat × Nat) → Prop
 | []=>True
 | (t,e,n) :: r=>slOf P t = some (e,n) ∧ AllSl P r
def AllZ (P : Program) : List (Nat × List Cell) → Prop
 | []=>True
 | (t,cs) :: r=>zcOf P t = some cs ∧ AllZ P r
def AllBo (P : Program) : List Nat → Prop
 | []=>True
 | t :: r=>P.underlying t = some .bool ∧ AllBo P r
def AllBl (P : Program) : List (Nat × List (Nat × Nat)) → Prop
 | []=>True
 | (t,pl) :: r=>bldOf P t = some pl ∧ AllBl P r
def blL : List (Nat × List (Nat × Nat)) → Nat → Option (List (Nat × Nat))
 | [],_=>none
 | (t,pl) :: r,u=>bif Nat.beq u t then some pl else blL r u
theorem blL_ok {P : Program} : ∀ {l : List (Nat × List (Nat × Nat))} {u : Nat} {x : List (Nat × Nat)},AllBl P l → blL l u = some x → bldOf P u = some x
 | (t,pl) :: r,u,x,⟨h1,h2⟩,h=>by
  simp only [blL] at h
  cases hb : Nat.beq u t with
  | true=>rw [hb] at h; simp at hb; subst hb; rw [h1]; simpa using h
  | false=>rw [hb] at h; exact blL_ok h2 h
structure TbOk (P : Program) (tb : TB) : Prop where
 ty : AllTy P tb.tys
 fl : AllFl P tb.fls
 sl : AllSl P tb.sls
 z : AllZ P tb.zs
 bo : AllBo P tb.bos
 bl : AllBl P tb.bls
def tyL : List (Nat × Bool × Nat) → Nat → Option (Bool × Nat)
 | [],_=>none
 | (t,b,n) :: r,u=>bif Nat.beq u t then some (b,n) else tyL r u
theorem tyL_ok {P : Program} : ∀ {l : List (Nat × Bool × Nat)} {u : Nat} {x : Bool × Nat},AllTy P l → tyL l u = some x → tyOf P u = some x
 | (t,b,n) :: r,u,x,⟨h1,h2⟩,h=>by
  simp only [tyL] at h
  cases hb : Nat.beq u t with
  | true=>rw [hb] at h; simp at hb; subst hb; rw [h1]; simpa using h
  | false=>rw [hb] at h; exact tyL_ok h2 h
def flL : List (Nat × Nat × Nat × Nat) → Nat → Nat → Option (Nat × Nat)
 | [],_,_=>none
 | (t,f,o,ft) :: r,u,g=>bif Nat.beq u t && Nat.beq g f then some (o,ft) else flL r u g
theorem flL_ok {P : Program} : ∀ {l : List (Nat × Nat × Nat × Nat)} {u g : Nat} {x : Nat × Nat},AllFl P l → flL l u g = some x → fldOf P u g = some x
 | (t,f,o,ft) :: r,u,g,x,⟨h1,h2⟩,h=>by
  simp only [flL] at h
  cases hb : Nat.beq u t && Nat.beq g f with
  | true=>rw [hb] at h; simp at hb; obtain ⟨rfl,rfl⟩:=hb; rw [h1]; simpa using h
  | false=>rw [hb] at h; exact flL_ok h2 h
def slL : List (Nat × Nat × Nat) → Nat → Option (Nat × Nat)
 | [],_=>none
 | (t,e,n) :: r,u=>bif Nat.beq u t then some (e,n) else slL r u
theorem slL_ok {P : Program} : ∀ {l : List (Nat × Nat × Nat)} {u : Nat} {x : Nat × Nat},AllSl P l → slL l u = some x → slOf P u = some x
 | (t,b,n) :: r,u,x,⟨h1,h2⟩,h=>by
  simp only [slL] at h
  cases hb : Nat.beq u t with
  | true=>rw [hb] at h; simp at hb; subst hb; rw [h1]; simpa using h
  | false=>rw [hb] at h; exact slL_ok h2 h
def zL : List (Nat × List Cell) → Nat → Option (List Cell)
 | [],_=>none
 | (t,cs) :: r,u=>bif Nat.beq u t then some cs else zL r u
theorem zL_ok {P : Program} : ∀ {l : List (Nat × List Cell)} {u : Nat} {x : List Cell},AllZ P l → zL l u = some x → zcOf P u = some x
 | (t,cs) :: r,u,x,⟨h1,h2⟩,h=>by
  simp only [zL] at h
  cases hb : Nat.beq u t with
  | true=>rw [hb] at h; simp at hb; subst hb; rw [h1]; simpa using h
  | false=>rw [hb] at h; exact zL_ok h2 h
def kEq : IntKind → IntKind → Bool
 | .i8,.i8 | .i16,.i16 | .i32,.i32 | .i64,.i64 | .u8,.u8 | .u16,.u16 | .u32,.u32 | .u64,.u64=>true
 | _,_=>false
theorem kEq_ok {a b : IntKind} (h : kEq a b = true) : a = b:=by cases a<;>cases b<;>first|rfl|cases h
def mapR (n : Bool) : List R → List Cell
 | []=>[]
 | r :: rs=>.r n r :: mapR n rs
theorem mapR_eq (n : Bool) : ∀ rs : List R,mapR n rs = rs.map (.r n)
 | []=>rfl
 | r :: rs=>by simp [mapR,mapR_eq n rs]
def dO (n : Bool) : P0 → Option D
 | .one r=>some (.one (.r n r))
 | .agg rs=>some (.agg (mapR n rs))
theorem dO_ok {n : Bool} {x : P0} {d : D} (h : dO n x = some d) : x.d n = d:=by
 cases x with
 | one r=>injection h
 | agg rs=>simp only [dO,mapR_eq,Option.some.injEq] at h; exact h
def isAg : P0 → Bool
 | .one _=>false
 | .agg _=>true
theorem mk_isAg {x : P0} {ag : Bool} (h : (ag == isAg x) = true) : x = mk ag x.rs:=by
 cases x<;>cases ag<;>first|rfl|cases h
def pureO (tb : TB) (l : List (Nat × D)) (h : List (Nat × Ob)) : Op → Option D
 | .move x=>evO l x
 | .assign x=>evO l x
 | .pick c x y=>match evO l c with
  | some (.one (.r _ (.val (.bool true))))=>evO l x
  | some (.one (.r _ (.val (.bool false))))=>evO l y
  | _=>none
 | .binOp op _ x y _=>match evO l x with
  | some (.one (.r _ (.val (.int k a))))=>(match evO l y with
   | some (.one (.r _ (.val (.int k' b))))=>bif kEq k k' then (match binR op k a b with | some z=>some (.one (.r true (.val z))) | none=>none) else none
   | _=>none)
  | _=>none
 | .unOp .not _ x=>match evO l x with
  | some (.one (.r _ (.val (.bool p))))=>some (.one (.r true (.val (.bool (!p)))))
  | _=>none
 | .fieldAddr t x f=>match evO l x with
  | some (.one (.ptr k i sz off))=>(match flL tb.fls t f with
   | some (fo,_)=>some (.one (.ptr k i sz (off + fo)))
   | none=>none)
  | some (.one (.r n (.ref y)))=>(match flL tb.fls t f with
   | some (fo,ft)=>(match tyL tb.tys ft with
    | some (ag,fn)=>bif Nat.ble (fo + fn) y.rs.length && (ag || Nat.beq fn 1) then some (.one (.r n (.ref (cutP ag fn fo y.rs)))) else none
    | none=>none)
   | none=>none)
  | _=>none
 | .load t x=>match evO l x with
  | some (.one (.ptr k 0 0 off))=>(match lookHO h k with
   | some (.var _ cells)=>(match tyL tb.tys t with
    | some (ag,n)=>bif Nat.ble (off + n) cells.length && (ag || Nat.beq n 1) then cutO ag n off cells else none
    | none=>none)
   | _=>none)
  | some (.one (.r n (.ref y)))=>(match tyL tb.tys t with
   | some (ag,m)=>bif Nat.beq y.rs.length m && (ag == isAg y) && (ag || Nat.beq m 1) then dO n y else none
   | none=>none)
  | _=>none
 | .nilCheck x=>match evO l x with
  | some (.one (.ptr k i sz off))=>some (.one (.ptr k i sz off))
  | some (.one (.r n (.ref y)))=>some (.one (.r n (.ref y)))
  | _=>none
 | .build t ps=>match blL tb.bls t,zL tb.zs t,partsC l ps.toList with
  | some pl,some cs,some qs=>(match buildC pl cs qs with | some r=>some (.agg r) | none=>none)
  | _,_,_=>none
 | .field t x f=>match evO l x with
  | some (.agg xs)=>(match flL tb.fls t f with
   | some (fo,ft)=>(match tyL tb.tys ft with
    | some (ag,fn)=>bif Nat.ble (fo + fn) xs.length && (ag || Nat.beq fn 1) then cutO ag fn fo xs else none
    | none=>none)
   | none=>none)
  | _=>none
 | .extract x i=>match evO l x with
  | some (.tup n xs)=>(match xs[i]? with
   | some y=>dO n y
   | none=>none)
  | some (.tups xs)=>(match xs[i]? with
   | some (true,cs)=>some (.agg cs)
   | some (false,[c])=>some (.one c)
   | _=>none)
  | _=>none
 | .call c=>match c.callee,c.args.toList,c.argTypes.toList with
  | .builtin .len,[x],[t]=>(match evO l x with
   | some (.one (.r _ (.row _ _ els)))=>(match slL tb.sls t with | some _=>some (.one (.r true (int els.length))) | none=>none)
   | some (.one (.own _ _ m _))=>(match slL tb.sls t with | some _=>some (.one (.r true (int m))) | none=>none)
   | _=>none)
  | .builtin .min,[x,y],_=>(match evO l x,evO l y with
   | some (.one (.r _ (.val (.int k p)))),some (.one (.r _ (.val (.int k' q))))=>bif kEq k k' then some (.one (.r true (.val (.int k (if q < p then q else p))))) else none
   | _,_=>none)
  | .builtin .max,[x,y],_=>(match evO l x,evO l y with
   | some (.one (.r _ (.val (.int k p)))),some (.one (.r _ (.val (.int k' q))))=>bif kEq k k' then some (.one (.r true (.val (.int k (if p < q then q else p))))) else none
   | _,_=>none)
  | _,_,_=>none
 | _=>none
theorem pureO_ok {P : Program} {tb : TB} (hT : TbOk P tb) {l : List (Nat × D)} {h : List (Nat × Ob)} {o : Oper} {d : D} (he : pureO tb l h o.op = some d) : Loc P (lookH h) (evD (look l)) o d:=by
 cases hop : o.op with
 | move x=>rw [hop] at he; exact loc_move x hop (Za he)
 | assign x=>rw [hop] at he; exact loc_assign x hop (Za he)
 | pick c x y =>
  rw [hop] at he
  simp only [pureO] at he
  split at he
  ·rename_i hc; exact loc_pick_true c x y hop (Za hc) (Za he)
  ·rename_i hc; exact loc_pick_false c x y hop (Za hc) (Za he)
  ·cases he
 | binOp op t x y t' =>
  rw [hop] at he
  simp only [pureO] at he
  split at he
  ·rename_i k a hx
   split at he
   ·rename_i k' b hy
    cases hk : kEq k k' with
    | false=>rw [hk] at he; cases he
    | true =>
     have:=kEq_ok hk
     subst this
     rw [hk] at he
     simp only [cond_true] at he
     split at he
     ·rename_i z hz
      injection he with he
      subst he
      exact loc_bin op t t' x y hop (Za hx) (Za hy) hz
     ·cases he
   ·cases he
  ·cases he
 | unOp op t x =>
  rw [hop] at he
  cases op<;>simp only [pureO] at he<;>try (cases he; done)
  split at he
  ·rename_i p hx
   injection he with he
   subst he
   exact loc_not t x hop (Za hx)
  ·cases he
 | fieldAddr t x f =>
  rw [hop] at he
  simp only [pureO] at he
  split at he
  ·rename_i hx
   split at he
   ·rename_i fo ft hf
    injection he with he
    subst he
    exact loc_field_ptr t x f hop (Za hx) (flL_ok hT.fl hf)
   ·cases he
  ·rename_i m y hx
   split at he
   ·rename_i fo ft hf
    split at he
    ·rename_i ag fn hty
     cases hb : Nat.ble (fo + fn) y.rs.length && (ag || Nat.beq fn 1) with
     | false=>rw [hb] at he; cases he
     | true =>
      rw [hb] at he
      simp only [cond_true,Option.some.injEq] at he
      subst he
      simp only [Bool.and_eq_true,Bool.or_eq_true,Nat.ble_eq,Nat.beq_eq] at hb
      exact loc_field_ref t x f hop (Za hx) (flL_ok hT.fl hf) (tyL_ok hT.ty hty) hb.1 hb.2
    ·cases he
   ·cases he
  ·cases he
 | load t x =>
  rw [hop] at he
  simp only [pureO] at he
  split at he
  ·rename_i k off hx
   split at he
   ·rename_i E cells hk
    split at he
    ·rename_i ag m hty
     cases hb : Nat.ble (off + m) cells.length && (ag || Nat.beq m 1) with
     | false=>rw [hb] at he; cases he
     | true =>
      rw [hb] at he
      simp only [cond_true] at he
      simp only [Bool.and_eq_true] at hb
      exact loc_load_var t x hop (Za hx) (tyL_ok hT.ty hty) (Zf hk) hb.1 hb.2 (cutO_spec he)
    ·cases he
   ·cases he
  ·rename_i m y hx
   split at he
   ·rename_i ag c hty
    cases hb : Nat.beq y.rs.length c && (ag == isAg y) && (ag || Nat.beq c 1) with
    | false=>rw [hb] at he; cases he
    | true =>
     rw [hb] at he
     simp only [cond_true] at he
     simp only [Bool.and_eq_true,Bool.or_eq_true,Nat.beq_eq] at hb
     rw [← dO_ok he]
     exact loc_load_ref t x hop (Za hx) (tyL_ok hT.ty hty) hb.1.1 (mk_isAg hb.1.2) hb.2
   ·cases he
  ·cases he
 | nilCheck x =>
  rw [hop] at he
  simp only [pureO] at he
  split at he
  ·rename_i hx; injection he with he; subst he; exact loc_nilCheck x hop (Za hx) ptr_nn
  ·rename_i hx; injection he with he; subst he; exact loc_nilCheck x hop (Za hx) ref_nn
  ·cases he
 | build t ps =>
  rw [hop] at he
  simp only [pureO] at he
  split at he
  ·rename_i pl cs qs h1 h2 h3
   split at he
   ·rename_i r hr
    injection he with he; subst he
    exact loc_build t ps hop (blL_ok hT.bl h1) (zL_ok hT.z h2) h3 hr
   ·cases he
  ·cases he
 | field t x f =>
  rw [hop] at he
  simp only [pureO] at he
  split at he
  ·rename_i xs hx
   split at he
   ·rename_i fo ft hf
    split at he
    ·rename_i ag fn hty
     cases hb : Nat.ble (fo + fn) xs.length && (ag || Nat.beq fn 1) with
     | false=>rw [hb] at he; cases he
     | true =>
      rw [hb] at he
      simp only [cond_true] at he
      simp only [Bool.and_eq_true,Bool.or_eq_true,Nat.ble_eq,Nat.beq_eq] at hb
      rw [← cutO_spec he]
      exact loc_field t x f hop (Za hx) (flL_ok hT.fl hf) (tyL_ok hT.ty hty) hb.1 hb.2
    ·cases he
   ·cases he
  ·cases he
 | extract x i =>
  rw [hop] at he
  simp only [pureO] at he
  split at he
  ·rename_i m xs hx
   split at he
   ·rename_i y hy
    rw [← dO_ok he]
    exact loc_extract x i hop (Za hx) hy
   ·cases he
  ·rename_i xs hx
   split at he
   ·rename_i cs hy
    injection he with he
    exact loc_extractC x i hop (Za hx) hy (.inl ⟨rfl,he.symm⟩)
   ·rename_i c hy
    injection he with he
    exact loc_extractC x i hop (Za hx) hy (.inr ⟨c,rfl,he.symm⟩)
   ·cases he
  ·cases he
 | call c =>
  obtain ⟨callee,args,tys⟩:=c
  rw [hop] at he
  simp only [pureO] at he
  split at he
  ·rename_i x t e2 e3
   have ha : args = #[x]:=by rw [← Array.toList_inj]; simpa using e2
   have ht : tys = #[t]:=by rw [← Array.toList_inj]; simpa using e3
   subst ha ht
   split at he
   ·rename_i hx
    split at he
    ·rename_i s hs
     injection he with he
     subst he
     exact loc_len_row t x hop (slL_ok hT.sl hs) (Za hx)
    ·cases he
   ·rename_i hx
    split at he
    ·rename_i s hs
     injection he with he
     subst he
     exact loc_len_own t x hop (slL_ok hT.sl hs) (Za hx)
    ·cases he
   ·cases he
  ·rename_i x y e2
   have ha : args = #[x,y]:=by rw [← Array.toList_inj]; simpa using e2
   subst ha
   split at he
   ·rename_i m1 k p m2 k' q hx hy
    cases hk : kEq k k' with
    | false=>rw [hk] at he; cases he
    | true =>
     have:=kEq_ok hk
     subst this
     rw [hk] at he
     injection he with he
     subst he
     exact loc_min x y tys hop (Za hx) (Za hy)
   ·cases he
  ·rename_i x y e2
   have ha : args = #[x,y]:=by rw [← Array.toList_inj]; simpa using e2
   subst ha
   split at he
   ·rename_i m1 k p m2 k' q hx hy
    cases hk : kEq k k' with
    | false=>rw [hk] at he; cases he
    | true =>
     have:=kEq_ok hk
     subst this
     rw [hk] at he
     injection he with he
     subst he
     exact loc_max x y tys hop (Za hx) (Za hy)
   ·cases he
  ·cases he
 | _=>rw [hop] at he; simp only [pureO] at he; cases he
def effO (tb : TB) (l : List (Nat × D)) (h : List (Nat × Ob)) (o : Oper) : Option (D × List Nat × List Nat × List (Nat × Option Ob)) :=
 match o.op with
 | .alloc E=>match o.dst with
  | some t=>(match zL tb.zs E with
   | some cs=>some (.one (.ptr t 0 0 0),[],[t],[(t,some (.var E cs))])
   | none=>none)
  | none=>none
 | .box E x=>match o.dst with
  | some t=>(match evO l x with
   | some d=>(match d.cells with
    | some cs=>bif !d.men t then some (.one (.ptr t 0 0 0),[],[t],[(t,some (.var E cs))]) else none
    | none=>none)
   | none=>none)
  | none=>none
 | .store t x y=>match o.dst with
  | none=>(match evO l x with
   | some (.one (.ptr k 0 0 off))=>(match lookHO h k with
    | some (.var E cells)=>(match evO l y with
     | some d=>(match d.cells with
      | some xs=>(match tyL tb.tys t with
       | some (_,m)=>bif Nat.beq xs.length m then (match putC off xs cells with | some cs=>some (.any,[k],[],[(k,some (.var E cs))]) | none=>none) else none
       | none=>none)
      | none=>none)
     | none=>none)
    | _=>none)
   | _=>none)
  | some _=>none
 | _=>none
theorem effO_ok {P : Program} {tb : TB} (hT : TbOk P tb) {l : List (Nat × D)} {h : List (Nat × Ob)} {o : Oper} {d : D} {τ new : List Nat} {U : List (Nat × Option Ob)} (he : effO tb l h o = some (d,τ,new,U)) : Eff P (lookH h) (evD (look l)) o d τ new U:=by
 unfold effO at he
 split at he
 ·rename_i E hop
  split at he
  ·rename_i t hd
   split at he
   ·rename_i cs hz
    simp only [Option.some.injEq,Prod.mk.injEq] at he
    obtain ⟨rfl,rfl,rfl,rfl⟩:=he
    exact k_alloc E hop (zL_ok hT.z hz)
   ·cases he
  ·cases he
 ·rename_i E x hop
  split at he
  ·rename_i t hd
   split at he
   ·rename_i d' hx
    split at he
    ·rename_i cs hc
     cases hb : !d'.men t with
     | false=>rw [hb] at he; cases he
     | true =>
      rw [hb] at he
      simp only [cond_true,Option.some.injEq,Prod.mk.injEq] at he
      obtain ⟨rfl,rfl,rfl,rfl⟩:=he
      simp only [Bool.not_eq_true'] at hb
      exact eff_box E x hop (Za hx) hc hb
    ·cases he
   ·cases he
  ·cases he
 ·rename_i t x y hop
  split at he
  ·rename_i hd
   split at he
   ·rename_i k off hx
    split at he
    ·rename_i E cells hk
     split at he
     ·rename_i d' hy
      split at he
      ·rename_i xs hc
       split at he
       ·rename_i ag m hty
        cases hb : Nat.beq xs.length m with
        | false=>rw [hb] at he; cases he
        | true =>
         rw [hb] at he
         simp only [cond_true] at he
         split at he
         ·rename_i cs hcs
          simp only [Option.some.injEq,Prod.mk.injEq] at he
          obtain ⟨rfl,rfl,rfl,rfl⟩:=he
          obtain ⟨hle,rfl⟩:=putC_ok hcs
          have hm : xs.length = m:=by simpa using hb
          exact eff_store t x y hop hd (Za hx) (tyL_ok hT.ty hty) (Zf hk) (Za hy) hc hm (by simp; omega)
         ·cases he
       ·cases he
      ·cases he
     ·cases he
    ·cases he
   ·cases he
  ·cases he
 ·cases he
def Cell.names : Cell → List Nat
 | .own k _ _ _=>[k]
 | .ptr k _ _ _=>[k]
 | .clo _ ps=>ps.map (·.1)
 | _=>[]
def namesL : List Cell → List Nat
 | []=>[]
 | c :: cs=>c.names ++ namesL cs
def namesT : List (Bool × List Cell) → List Nat
 | []=>[]
 | x :: xs=>namesL x.2 ++ namesT xs
def D.names : D → List Nat
 | .one x=>x.names
 | .agg xs=>namesL xs
 | .tups xs=>namesT xs
 | _=>[]
def Ob.names : Ob → List Nat
 | .var _ xs=>namesL xs
 | .sl ..=>[]
def namesO (l : List (Nat × D)) : List Operand → List Nat
 | []=>[]
 | x :: xs=>(match evO l x with | some d=>d.names | none=>[]) ++ namesO l xs
def deepN (h : List (Nat × Ob)) : List Nat → List Nat
 | []=>[]
 | k :: ks=>k :: ((match lookHO h k with | some ob=>ob.names | none=>[]) ++ deepN h ks)
def fpO (l : List (Nat × D)) (h : List (Nat × Ob)) : Op → List Nat
 | .load _ x=>namesO l [x]
 | .store _ x _=>namesO l [x]
 | .buildSlice _ _ ps=>namesO l (ps.toList.map (·.2))
 | .call c=>match c.callee with
  | .builtin .len=>[]
  | _=>deepN h (namesO l c.args.toList)
 | _=>[]
section
variable {P : Program} {tb : TB} {Z : List Sg → Bool} {acc : List Sg} {ops : Array Oper} {o : Oper} {rest : List Oper} {n : Nat} {l l' : List (Nat × D)} {h h' : List (Nat × Ob)} {K : St → Prop} {d : D} {τ new : List Nat} {U : List (Nat × Option Ob)}
theorem r_q {t : Nat} (hT : TbOk P tb) (hL : pureO tb l h o.op = some d) (hg : o.guard = none) (hd : o.dst = some t) (ht : Nat.blt t n = true) (hk : W P ops Z rest (mkS n ((t,d) :: l) h) none K) : W P ops Z (o :: rest) (mkS n l h) none K:=w_q hg hd (pureO_ok hT hL) ht hk
theorem r_e (hT : TbOk P tb) (hE : effO tb l h o = some (d,τ,new,U)) (hg : o.guard = none) (hok : okB n o.dst (keys h) τ new U l h = true) (hl : putLO o.dst d l = some l') (hh : appLO U h = some h') (hk : W P ops Z rest (mkS n l' h') none K) : W P ops Z (o :: rest) (mkS n l h) none K:=w_e hg (effO_ok hT hE) hok hl hh hk
theorem r_yes {j t u : Nat} {want m : Bool} (hT : TbOk P tb) (hL : pureO tb l h o.op = some d) (hg : o.guard = some (j,want)) (hj : (ops[j]?).bind (·.dst) = some t) (hb : lookO l t = some (.one (.r m (bool want)))) (hd : o.dst = some u) (ht : Nat.blt u n = true) (hk : W P ops Z rest (mkS n ((u,d) :: l) h) none K) : W P ops Z (o :: rest) (mkS n l h) none K:=Zh hg hj (Zb hb) hd (pureO_ok hT hL) ht hk
theorem rx_q {t : Nat} (hT : TbOk P tb) (hL : pureO tb l (filtH (fpO l h o.op) h) o.op = some d) (hg : o.guard = none) (hd : o.dst = some t) (ht : Nat.blt t n = true) (hk : W P ops Z rest (mkS n ((t,d) :: l) h) (some (⟨d,fpO l h o.op,[],[],[]⟩ :: acc)) K) : W P ops Z (o :: rest) (mkS n l h) (some acc) K:=x_q hg hd (pureO_ok hT hL) ht hk
theorem rx_e (hT : TbOk P tb) (hE : effO tb l (filtH (fpO l h o.op) h) o = some (d,τ,new,U)) (hg : o.guard = none) (hok : okB n o.dst (fpO l h o.op) τ new U l h = true) (hl : putLO o.dst d l = some l') (hh : appLO U h = some h') (hk : W P ops Z rest (mkS n l' h') (some (⟨d,fpO l h o.op,τ,new,U⟩ :: acc)) K) : W P ops Z (o :: rest) (mkS n l h) (some acc) K:=x_e hg (effO_ok hT hE) hok hl hh hk
theorem rx_yes {j t u : Nat} {want m : Bool} (hT : TbOk P tb) (hL : pureO tb l (filtH (fpO l h o.op) h) o.op = some d) (hg : o.guard = some (j,want)) (hj : (ops[j]?).bind (·.dst) = some t) (hb : lookO l t = some (.one (.r m (bool want)))) (hd : o.dst = some u) (ht : Nat.blt u n = true) (hk : W P ops Z rest (mkS n ((u,d) :: l) h) (some (⟨d,fpO l h o.op,[],[],[]⟩ :: acc)) K) : W P ops Z (o :: rest) (mkS n l h) (some acc) K:=x_yes hg hj (Zb hb) hd (pureO_ok hT hL) ht hk
theorem v_q {t : Nat} (hg : o.guard = none) (hd : o.dst = some t) (hL : Loc P (lookH (filtH (fpO l h o.op) h)) (evD (look l)) o d) (ht : Nat.blt t n = true) (hk : W P ops Z rest (mkS n ((t,d) :: l) h) (some (⟨d,fpO l h o.op,[],[],[]⟩ :: acc)) K) : W P ops Z (o :: rest) (mkS n l h) (some acc) K:=x_q hg hd hL ht hk
theorem Zi {j t u : Nat} {want m : Bool} (hg : o.guard = some (j,want)) (hj : (ops[j]?).bind (·.dst) = some t) (hb : look l t = .one (.r m (bool want))) (hd : o.dst = some u) (hL : Loc P (lookH (filtH (fpO l h o.op) h)) (evD (look l)) o d) (ht : Nat.blt u n = true) (hk : W P ops Z rest (mkS n ((u,d) :: l) h) (some (⟨d,fpO l h o.op,[],[],[]⟩ :: acc)) K) : W P ops Z (o :: rest) (mkS n l h) (some acc) K:=x_yes hg hj hb hd hL ht hk
theorem v_e (hg : o.guard = none) (hE : Eff P (lookH (filtH (fpO l h o.op) h)) (evD (look l)) o d τ new U) (hok : okB n o.dst (fpO l h o.op) τ new U l h = true) (hl : putLO o.dst d l = some l') (hh : appLO U h = some h') (hk : W P ops Z rest (mkS n l' h') (some (⟨d,fpO l h o.op,τ,new,U⟩ :: acc)) K) : W P ops Z (o :: rest) (mkS n l h) (some acc) K:=x_e hg hE hok hl hh hk
end
theorem Z7 {P : Program} {s : St} {Q : Exit → St → Prop} {α : Type} (I : α → Prop) (f : α → St) (μ : α → Nat) (x0 : α) {c : Code} (hi : I x0) (h0 : Weak s (f x0)) (round : ∀ x, I x → AW P c (f x) (Thn (fun s' => ∃ x', I x' ∧ Weak s' (f x') ∧ μ x' < μ x) Q)) : AW P (.loop c) s Q := by
  refine aw_loop (α := {x // I x}) (fun x => f x.1) (fun x => μ x.1) ⟨x0, hi⟩ h0 (fun x => ?_)
  intro w0 a w hs
  refine wp_mono (round x.1 x.2 w0 a w hs) ?_
  rintro e a' w' ⟨s', hq, hs'⟩
  refine ⟨s', ?_, hs'⟩
  cases e <;> first
    | exact hq
    | (obtain ⟨x', h1, h2, h3⟩ := hq
       exact ⟨⟨x', h1⟩, h2, h3⟩)
theorem Zq {m : Bool} {k : IntKind} {a b : Int} (h : a = b) : D.one (.r m (.val (.int k a))) = .one (.r m (.val (.int k b))):=by rw [h]
theorem Zn {P : Program} {tb : TB} {l : List (Nat × D)} {h : List (Nat × Ob)} {o : Oper} {m m' nil : Bool} {sz : Nat} {els : List P0} {i : Int} {e : P0} {E : TypeId} {t : TypeId} {x ix : Operand} (hT : TbOk P tb) (ho : o.op = .indexAddr t x ix) (hx : evO l x = some (.one (.r m (row nil sz els)))) (hi : evO l ix = some (.one (.r m' (int i)))) (hS : slL tb.sls t = some (E,sz)) (h0 : 0 ≤ i) (h1 : els[i.toNat]? = some e) : Loc P (lookH h) (evD (look l)) o (.one (.r m (ref e))) :=
 loc_index_row t x ix ho (slL_ok hT.sl hS) (Za hx) (Za hi) h0 h1
theorem k_indexO {P : Program} {tb : TB} {l : List (Nat × D)} {h : List (Nat × Ob)} {o : Oper} {m' : Bool} {k j c sz : Nat} {i : Int} {E : TypeId} {t : TypeId} {x ix : Operand} (hT : TbOk P tb) (ho : o.op = .indexAddr t x ix) (hx : evO l x = some (.one (.own k j c sz))) (hi : evO l ix = some (.one (.r m' (int i)))) (hS : slL tb.sls t = some (E,sz)) (h0 : 0 ≤ i) (h1 : i < c) : Loc P (lookH h) (evD (look l)) o (.one (.ptr k (j + i.toNat) sz 0)) :=
 loc_index_own t x ix ho (slL_ok hT.sl hS) (Za hx) (Za hi) h0 h1
theorem aw_yes {P : Program} {n : Nat} {l : List (Nat × D)} {h : List (Nat × Ob)} {Q : Exit → St → Prop} {c : Operand} {x y : Code} {m : Bool} (hc : evO l c = some (.one (.r m (.val (.bool true))))) (h1 : AW P x (mkS n l h) Q) : AW P (.cond c x y) (mkS n l h) Q:=aw_cond (Za hc) (fun _=>h1) (fun e=>by cases e)
theorem aw_no {P : Program} {n : Nat} {l : List (Nat × D)} {h : List (Nat × Ob)} {Q : Exit → St → Prop} {c : Operand} {x y : Code} {m : Bool} (hc : evO l c = some (.one (.r m (.val (.bool false))))) (h1 : AW P y (mkS n l h) Q) : AW P (.cond c x y) (mkS n l h) Q:=aw_cond (Za hc) (fun e=>by cases e) (fun _=>h1)
theorem aw_ways {P : Program} {n : Nat} {l : List (Nat × D)} {h : List (Nat × Ob)} {Q : Exit → St → Prop} {c : Operand} {x y : Code} {m b : Bool} (hc : evO l c = some (.one (.r m (.val (.bool b))))) (h1 : b = true → AW P x (mkS n l h) Q) (h2 : b = false → AW P y (mkS n l h) Q) : AW P (.cond c x y) (mkS n l h) Q:=aw_cond (Za hc) h1 h2
theorem r_split {P : Program} {Z : List Sg → Bool} {q : Option (List Sg)} {ops : Array Oper} {o : Oper} {rest : List Oper} {n : Nat} {l : List (Nat × D)} {h : List (Nat × Ob)} {K : St → Prop} {j t : Nat} {want b m : Bool} (hg : o.guard = some (j,want)) (hj : (ops[j]?).bind (·.dst) = some t) (hb : lookO l t = some (.one (.r m (.val (.bool b))))) (h1 : b = true → W P ops Z (o :: rest) (mkS n ((t,.one (.r m (bool true))) :: l) h) q K) (h2 : b = false → W P ops Z (o :: rest) (mkS n ((t,.one (.r m (bool false))) :: l) h) q K) : W P ops Z (o :: rest) (mkS n l h) q K:=w_split hg hj (Zb hb) h1 h2
def flat (els : List P0) : List R:=els.flatMap P0.rs
def AllN (sz : Nat) (els : List P0) : Prop:=∀ (i : Nat) (e : P0),els[i]? = some e → e.n = sz
theorem AllN.tail {sz : Nat} {e : P0} {els : List P0} (h : AllN sz (e :: els)) : e.n = sz ∧ AllN sz els:=⟨h 0 e rfl,fun i x hi=>h (i + 1) x (by simpa using hi)⟩
theorem flat_len {sz : Nat} : ∀ {els : List P0},AllN sz els → (flat els).length = els.length * sz
 | [],_=>by simp [flat]
 | e :: els,h=>by
  have:=flat_len h.tail.2
  simp only [flat,List.flatMap_cons,List.length_append] at this ⊢
  rw [this,List.length_cons,Nat.add_mul]
  have:=h.tail.1
  unfold P0.n at this
  omega
theorem flat_get {sz : Nat} : ∀ {els : List P0},AllN sz els → ∀ (i j : Nat) (e : P0),j < sz → els[i]? = some e → (flat els)[i * sz + j]? = e.rs[j]?
 | [],_,i,j,e,_,hi=>by simp at hi
 | x :: els,h,i,j,e,hj,hi=>by
  have hx:=h.tail.1
  unfold P0.n at hx
  simp only [flat,List.flatMap_cons]
  cases i with
  | zero =>
   simp at hi; subst hi
   rw [Nat.zero_mul,Nat.zero_add,List.getElem?_append_left (by omega)]
  | succ i =>
   rw [List.getElem?_append_right (by rw [hx,Nat.add_mul]; omega)]
   have:=flat_get h.tail.2 i j e hj (by simpa using hi)
   rw [show (i + 1) * sz + j - x.rs.length = i * sz + j by rw [hx,Nat.add_mul]; omega]
   exact this
theorem flat_app (a b : List P0) : flat (a ++ b) = flat a ++ flat b:=by simp [flat]
theorem AllN.app {sz : Nat} {a b : List P0} (ha : AllN sz a) (hb : AllN sz b) : AllN sz (a ++ b):=fun i e hi=>by
 rcases Nat.lt_or_ge i a.length with h | h
 ·rw [List.getElem?_append_left h] at hi; exact ha i e hi
 ·rw [List.getElem?_append_right h] at hi; exact hb _ e hi
theorem flat_of {sz : Nat} {els : List P0} {q : Nat → R → Prop} (h : ∀ (i : Nat) (e : P0),els[i]? = some e → e.n = sz ∧ ∀ (j : Nat) (r : R),e.rs[j]? = some r → q (i * sz + j) r) : AllN sz els ∧ ∀ (p : Nat) (r : R),(flat els)[p]? = some r → q p r:=by
 have hn : AllN sz els:=fun i e hi=>(h i e hi).1
 refine ⟨hn,fun p r hp=>?_⟩
 have hlt : p < (flat els).length:=by
  rcases Nat.lt_or_ge p (flat els).length with h | h
  ·exact h
  ·rw [List.getElem?_eq_none h] at hp; cases hp
 rw [flat_len hn] at hlt
 have hsz : 0 < sz:=by
  rcases Nat.eq_zero_or_pos sz with h0 | h0
  ·subst h0; simp at hlt
  ·exact h0
 have hi : p / sz < els.length:=(Nat.div_lt_iff_lt_mul hsz).2 hlt
 have hj : p % sz < sz:=Nat.mod_lt _ hsz
 have hpe : p / sz * sz + p % sz = p:=by rw [Nat.mul_comm]; exact Nat.div_add_mod p sz
 have hg:=flat_get hn (p / sz) (p % sz) els[p / sz] hj (List.getElem?_eq_getElem hi)
 rw [hpe] at hg
 have:=(h (p / sz) els[p / sz] (List.getElem?_eq_getElem hi)).2 (p % sz) r (hg ▸ hp)
 rwa [hpe] at this
theorem of_flat {sz : Nat} {els : List P0} {q : Nat → R → Prop} (hn : AllN sz els) (h : ∀ (p : Nat) (r : R),(flat els)[p]? = some r → q p r) : ∀ (i : Nat) (e : P0),els[i]? = some e → e.n = sz ∧ ∀ (j : Nat) (r : R),e.rs[j]? = some r → q (i * sz + j) r:=fun i e hi=>by
 refine ⟨hn i e hi,fun j r hj=>h _ r ?_⟩
 have hjs : j < sz:=by
  rw [← hn i e hi]
  rcases Nat.lt_or_ge j e.rs.length with h | h
  ·exact h
  ·rw [List.getElem?_eq_none h] at hj; cases hj
 rw [flat_get hn i j e hjs hi,hj]
def elOf (P : Program) (T : TypeId) : Option (TypeId × Nat × Nat) :=
 match P.underlying T with
 | some (.slice E)=>match P.info? E with
  | some i=>match i.zero with
   | some z=>if z.cells.size = i.size ∧ 0 < i.size then some (E,i.size,i.bytes) else none
   | none=>none
  | none=>none
 | _=>none
theorem elOf_spec {P : Program} {T E sz by_ : Nat} (h : elOf P T = some (E,sz,by_)) : ∃ z,El P T E sz by_ z:=by
 unfold elOf at h
 cases hu : P.underlying T with
 | none=>simp [hu] at h
 | some d =>
  cases d<;>simp only [hu] at h<;>try (cases h; done)
  rename_i E'
  cases hi : P.info? E' with
  | none=>simp [hi] at h
  | some i =>
   cases hz : i.zero with
   | none=>simp [hi,hz] at h
   | some z =>
    simp only [hi,hz,Option.ite_none_right_eq_some,Option.some.injEq,Prod.mk.injEq] at h
    obtain ⟨⟨h1,h2⟩,rfl,rfl,rfl⟩:=h
    exact ⟨z,hu,⟨i,hi,hz,rfl,rfl⟩,h1,h2⟩
theorem sized_refl (w : World) : Sized w w:=fun b arr E h=>⟨arr,h,rfl⟩
theorem app_run {P : Program} {T ty E sz by_ : Nat} {z : Value} (hE : El P T E sz by_ z) {w : World} {g o n cap : Nat} {cur : Array Value} (hg : w.heap[g]? = some (.cells cur E (0,0))) (hcs : cap = 0 ∨ o + cap * sz ≤ cur.size) (hn : n ≤ cap) (hcm : cap ≤ maxLen)
  {bo : Option Addr} {m d : Nat} {news : List Value} (hl : news.length = m * sz) (hnews : 0 < m → ∃ b o,bo = some ⟨b,o,none⟩ ∧ ∀ (j : Nat) (u : Value),news[j]? = some u → w.cell? ⟨b,o + j,none⟩ = some u) (h1 : ∀ u ∈ news,u.oneCell' = true)
  (h63 : n + m ≤ maxLen) (hbytes : (n + m) * by_ ≤ 140737488355328) :
  ∃ (w' : World) (g' o' c' : Nat) (cur' : Array Value),(Builtin.append_ #[T,T] ty #[.slice (some ⟨g,o,none⟩) n cap,.slice bo m d]).run P w = .ok (.slice (some ⟨g',o',none⟩) (n + m) c') w' ∧ w'.heap[g']? = some (.cells cur' E (0,0)) ∧ (c' = 0 ∨ o' + c' * sz ≤ cur'.size) ∧ n + m ≤ c' ∧ c' ≤ maxLen ∧
   (∀ p,p < (n + m) * sz → cur'[o' + p]? = ((cur.toList.drop o).take (n * sz) ++ news)[p]?) ∧ Sized w w' ∧ w.grownBy w' (some g) ∧ (g' = g ∨ g' = w.heap.size):=by
 obtain ⟨i,hi,hz,hsz,hby⟩:=hE.info
 subst hsz hby
 have hnm : n * i.size ≤ cap * i.size:=Nat.mul_le_mul_right i.size hn
 have hlen : ((cur.toList.drop o).take (n * i.size)).length = n * i.size:=by
  rcases hcs with h0 | hcs
  ·have : n = 0:=by omega
   subst this
   simp
  ·rw [List.length_take,List.length_drop,Array.length_toList]
   omega
 have hold : ∀ p,p < n * i.size → ((cur.toList.drop o).take (n * i.size) ++ news)[p]? = cur[o + p]?:=fun p hp=>by
  rw [List.getElem?_append_left (by omega),List.getElem?_take,if_pos hp,List.getElem?_drop,Array.getElem?_toList]
 rcases Nat.eq_zero_or_pos m with h0 | h0
 ·subst h0
  have hnil : news = []:=List.eq_nil_of_length_eq_zero (by simpa using hl)
  subst hnil
  refine ⟨w,g,o,cap,cur,?_,hg,hcs,by omega,hcm,fun p hp=>(hold p (by simpa using hp)).symm,sized_refl w,gb_refl w _,.inl rfl⟩
  have hroom : n + 0 ≤ cap:=by omega
  cases bo with
  | none=>simp [Builtin.append_,run_underlying hE.sl,sizeOf,typeInfo,hi,Builtin.lenOf,Builtin.firstCells,storeCells,hn]
  | some a=>simp [Builtin.append_,run_underlying hE.sl,sizeOf,typeInfo,hi,Builtin.lenOf,Builtin.firstCells,storeCells,hn,loadCells,loadCellsFrom]
 ·obtain ⟨b,ob,rfl,hc⟩:=hnews h0
  have hnews' : ∀ j u,news[j]? = some u → w.cell? ((⟨b,ob,none⟩ : Addr).add j) = some u:=fun j u hj=>by rw [Addr.add_lit]; exact hc j u hj
  by_cases hroom : n + m ≤ cap
  ·have hrm : (n + m) * i.size ≤ cap * i.size:=Nat.mul_le_mul_right _ hroom
   rw [Nat.add_mul] at hrm
   obtain ⟨w',arr',g1,g2,g3,g4,g5,g6⟩:=Zb3 (P:=P) news (o + n * i.size) 0 w cur h1 hg (by rcases hcs with h0 | hcs<;>omega)
   have hfc:=run_firstCells_some (P:=P) w i.size m ⟨b,ob,none⟩ m d news hl hnews'
   refine ⟨w',g,o,cap,arr',?_,g2,by rw [g3]; exact hcs,hroom,hcm,fun p hp=>?_,fun k arr T' hk=>?_,g5,.inl rfl⟩
   ·simp [Builtin.append_,run_underlying hE.sl,sizeOf,typeInfo,hi,Builtin.lenOf,hroom,hfc,Addr.add_lit,g1]
   ·rw [g4]
    rw [Nat.add_mul] at hp
    by_cases hp1 : p < n * i.size
    ·rw [if_neg (by omega),hold p hp1]
    ·rw [if_pos (by omega),List.getElem?_append_right (by omega),hlen]
     congr 1
     omega
   ·by_cases hkg : k = g
    ·subst hkg
     rw [hg] at hk
     injection hk with hk
     injection hk with hk1 hk2
     subst hk1 hk2
     exact ⟨_,g2,g3⟩
    ·exact ⟨arr,by rw [g5.block k (lt_of_heap hk) (fun e=>by injection e with e; exact hkg e)]; exact hk,rfl⟩
  ·have holds : ∀ j u,((cur.toList.drop o).take (n * i.size))[j]? = some u → w.cell? ((⟨g,o,none⟩ : Addr).add j) = some u:=fun j u hj=>by
    rw [Addr.add_lit,Zbi hg]
    rw [List.getElem?_take] at hj
    split at hj
    ·rw [List.getElem?_drop] at hj
     simpa using hj
    ·cases hj
   have h63' : ((n + m : Nat) : Int) ≤ 9223372036854775807:=by simp only [maxLen] at h63; omega
   have hr:=run_append_grow (P:=P) w T ty E i z hE.sl hi hz ⟨g,o,none⟩ n cap ((cur.toList.drop o).take (n * i.size)) hlen holds ⟨b,ob,none⟩ m d news hl hnews' (by omega) h63' (growslice_fits (by omega) hbytes)
   have hge:=grownCap_ge w (n + m) cap E
   have hcm' : grownCap w (n + m) cap E ≤ maxLen:=grownCap_le_maxLen w (n + m) cap E h63
   refine ⟨_,w.heap.size,0,_,_,hr,heap_alloc_new w.drew _,?_,hge,hcm',fun p hp=>?_,?_,⟨rfl,rfl,rfl,by simp,fun k hk _=>Below.heap_alloc w.drew _ k hk⟩,.inr rfl⟩
   ·right
    simp only [Array.size_append,List.size_toArray,size_zeroCells,hE.cells,hlen,hl,← Nat.add_mul,Nat.zero_add]
    refine Nat.mul_le_mul_right _ ?_
    omega
   ·rw [Nat.zero_add,← Array.getElem?_toList]
    simp only [Array.toList_append,List.append_assoc]
    rw [← List.append_assoc,List.getElem?_append_left (by rw [List.length_append,hlen,hl,← Nat.add_mul]; exact hp)]
   ·intro k arr T' hk
    exact ⟨arr,by rw [Below.heap_alloc w.drew _ k (lt_of_heap hk)]; exact hk,rfl⟩
def SlD (H : Nat → Option Ob) (d : D) (sz : Nat) (new : Bool) (els : List P0) : Prop :=
 ∀ (ι : Nat → Nat × Nat) (base : Nat) (w : World) (own : Nat → Prop) (v : Value),(∀ k ob,H k = some ob → own (ι k).1 ∧ ob.p ι base ⟨w,own⟩ (ι k)) → d.p ι base ⟨w,own⟩ v →
  ∃ (bo : Option Addr) (c : Nat) (news : List Value),v = .slice bo els.length c ∧ news.length = els.length * sz ∧ (0 < els.length → ∃ b o,bo = some ⟨b,o,none⟩ ∧ ∀ (j : Nat) (u : Value),news[j]? = some u → w.cell? ⟨b,o + j,none⟩ = some u) ∧ (∀ u ∈ news,u.oneCell' = true) ∧
   AllN sz els ∧ ∀ (p : Nat) (r : R),(flat els)[p]? = some r → ∃ u,news[p]? = some u ∧ r.p (Cx.young ⟨w,own⟩ base new) u
theorem news_of {c : Cx} {w : World} {b o sz : Nat} {els : List P0} (hn : AllN sz els) (h : ∀ (p : Nat) (r : R),(flat els)[p]? = some r → ∃ u,w.cell? ⟨b,o + p,none⟩ = some u ∧ r.p c u) :
  ∃ news : List Value,news.length = els.length * sz ∧ (∀ (j : Nat) (u : Value),news[j]? = some u → w.cell? ⟨b,o + j,none⟩ = some u) ∧ (∀ u ∈ news,u.oneCell' = true) ∧ ∀ (p : Nat) (r : R),(flat els)[p]? = some r → ∃ u,news[p]? = some u ∧ r.p c u:=by
 obtain ⟨vs,hl,hv⟩:=pick_vals (p:=fun (r : R) u=>r.p c u) (g:=fun p=>w.cell? ⟨b,o + p,none⟩) (flat els) h
 have get : ∀ (j : Nat) (u : Value),vs[j]? = some u → ∃ r,(flat els)[j]? = some r ∧ w.cell? ⟨b,o + j,none⟩ = some u ∧ r.p c u:=fun j u hj=>by
  have hjl : j < vs.length:=by
   rcases Nat.lt_or_ge j vs.length with h | h
   ·exact h
   ·rw [List.getElem?_eq_none h] at hj; cases hj
  obtain ⟨u',e1,e2,e3⟩:=hv j _ (List.getElem?_eq_getElem (by omega))
  rw [e1] at hj; injection hj with hj; subst hj
  exact ⟨_,List.getElem?_eq_getElem (by omega),e2,e3⟩
 refine ⟨vs,by rw [hl,flat_len hn],fun j u hj=>(get j u hj).choose_spec.2.1,fun u hu=>?_,fun p r hp=>let ⟨u,e1,_,e3⟩:=hv p r hp; ⟨u,e1,e3⟩⟩
 obtain ⟨j,hj⟩:=List.getElem?_of_mem hu
 obtain ⟨r,_,_,h3⟩:=get j u hj
 exact r.one h3
theorem slD_row {H : Nat → Option Ob} {m nil : Bool} {sz : Nat} {els : List P0} : SlD H (.one (.r m (row nil sz els))) sz m els:=by
 intro ι base w own v hH hv
 obtain ⟨ao,cap,h1,h2,h3,h4,h5⟩:=Zas.1 hv
 by_cases hn : 0 < els.length
 ·obtain ⟨b,o,e1,e2,e3,e4⟩:=h5 hn
  obtain ⟨f1,f2⟩:=flat_of (q:=fun p r=>∃ u,w.cell? ⟨b,o + p,none⟩ = some u ∧ r.p (Cx.young ⟨w,own⟩ base m) u) (fun i e hi=>⟨(e4 i e hi).1,fun j r hj=>by
   obtain ⟨u,hu,hr⟩:=(e4 i e hi).2 j r hj
   refine ⟨u,?_,hr⟩
   rw [Cx.young_w] at hu
   rwa [← Nat.add_assoc]⟩)
  obtain ⟨news,g1,g2,g3,g4⟩:=news_of f1 f2
  exact ⟨ao,cap,news,h1,g1,fun _=>⟨b,o,e1,g2⟩,g3,f1,g4⟩
 ·have : els = []:=List.eq_nil_of_length_eq_zero (by omega)
  subst this
  exact ⟨ao,cap,[],h1,by simp,fun h=>by simp at h,fun u hu=>by simp at hu,fun i e hi=>by simp at hi,fun p r hp=>by simp [flat] at hp⟩
theorem slD_ownJ {H : Nat → Option Ob} {k j n sz : Nat} {E : TypeId} {new : Bool} {els : List P0} (hk : H k = some (.sl E sz new els)) (hn : j + n ≤ els.length) : SlD H (.one (.own k j n sz)) sz new ((els.drop j).take n):=by
 intro ι base w own v hH hv
 obtain ⟨oo,cap,arr,E',h1,h0,h2,h3,h4,h5⟩:=hv
 obtain ⟨ho,arr',e1,e2,e3⟩:=hH k _ hk
 have hl : ((els.drop j).take n).length = n:=by rw [List.length_take,List.length_drop]; omega
 obtain ⟨f1,f2⟩:=flat_of (els:=(els.drop j).take n) (q:=fun p r=>∃ u,w.cell? ⟨(ι k).1,(ι k).2 + j * sz + p,none⟩ = some u ∧ r.p (Cx.young ⟨w,own⟩ base new) u) (fun i e hi=>by
  rw [List.getElem?_take] at hi
  split at hi
  ·rw [List.getElem?_drop] at hi
   refine ⟨(e3 (j + i) e hi).1,fun jj r hj=>?_⟩
   obtain ⟨u,hu,hr⟩:=(e3 (j + i) e hi).2 jj r hj
   refine ⟨u,?_,hr⟩
   rw [Zbi e1,← hu,Nat.add_mul]
   congr 1
   omega
  ·cases hi)
 obtain ⟨news,g1,g2,g3,g4⟩:=news_of f1 f2
 refine ⟨some ⟨(ι k).1,oo,none⟩,cap,news,by rw [hl]; exact h1,g1,fun hp=>⟨(ι k).1,(ι k).2 + j * sz,?_,g2⟩,g3,f1,g4⟩
 rw [hl] at hp
 rw [h0.resolve_right (by omega)]
theorem Z8 {H : Nat → Option Ob} {k n sz : Nat} {E : TypeId} {new : Bool} {els : List P0} (hk : H k = some (.sl E sz new els)) (hn : n = els.length) : SlD H (.one (.own k 0 n sz)) sz new els:=by
 have:=slD_ownJ (j:=0) (n:=n) hk (by omega)
 rwa [List.drop_zero,List.take_of_length_le (by omega)] at this
theorem Cx.Ext.trans {a b c : Cx} (h : a.Ext b) (k : b.Ext c) : a.Ext c :=
 ⟨Nat.le_trans h.size k.size,fun x hx ho=>h.own x hx (k.own x (Nat.lt_of_lt_of_le hx h.size) ho),fun x hx ho=>by
  rcases h.block x hx ho with h1 | h1
  ·rcases k.block x (Nat.lt_of_lt_of_le hx h.size) (fun hb=>ho (h.own x hx hb)) with h2 | ⟨o,h2,h3⟩
   ·exact .inl (h2.trans h1)
   ·exact .inr ⟨o,by rw [← h1]; exact h2,h3⟩
  ·exact .inr h1⟩
theorem eff_append {P : Program} {H : Nat → Option Ob} {ev : Operand → D} {o : Oper} {t k j c sz by_ : Nat} {E : TypeId} {new new2 : Bool} {els els2 : List P0} {d : D} (T : TypeId) (x y : Operand) (ho : o.op = .call { callee:=.builtin .append,args:=#[x,y],argTypes:=#[T,T] }) (hT : elOf P T = some (E,sz,by_))
  (hx : ev x = .one (.own k j c sz)) (hk : H k = some (.sl E sz new els)) (hc : j + c = els.length) (hy : ev y = d) (hs : SlD H d sz new2 els2) (h63 : c + els2.length ≤ maxLen) (hb : (c + els2.length) * by_ ≤ 140737488355328) :
  Eff P H ev o (.one (.own t 0 (c + els2.length) sz)) [k] [t] [(t,some (.sl E sz (new && new2) (els.drop j ++ els2))),(k,none)]:=by
 intro base a w ι own hown hbase hev hH _ K Q hK
 obtain ⟨z,hE⟩:=elOf_spec hT
 have hx1:=hev x (by rw [ho]; simp [Op.operands,Call.operands])
 rw [hx] at hx1
 obtain ⟨oo,cap,arr,E',e1,e0,e2,e3,e4,e5⟩:=hx1
 obtain ⟨hko,arr',g1,g2,g3⟩:=hH k _ hk
 have hae : arr' = arr ∧ E = E':=by
  have e4' : w.heap[(ι k).1]? = some (.cells arr E' (0,0)):=e4
  have g1' : w.heap[(ι k).1]? = some (.cells arr' E (0,0)):=g1
  rw [e4'] at g1'
  injection g1' with g1'
  injection g1' with q1 q2
  exact ⟨q1.symm,q2.symm⟩
 obtain ⟨rfl,rfl⟩:=hae
 have hy1:=hev y (by rw [ho]; simp [Op.operands,Call.operands])
 rw [hy] at hy1
 obtain ⟨bo,c2,news,f1,f2,f3,f4,f5,f6⟩:=hs ι base w own _ hH hy1
 have hdl : (els.drop j).length = c:=by rw [List.length_drop]; omega
 obtain ⟨w',g',o',c',cur',r1,r2,r3,r4,r5,r6,r7,r8,r9⟩:=app_run (P:=P) (ty:=o.type) hE (w:=w) (g:=(ι k).1) (o:=oo) (n:=c) (cap:=cap) (cur:=arr') g1 (e0.symm.imp id (fun e=>by rw [Nat.add_mul] at e5; omega)) e2 e3 (bo:=bo) (m:=els2.length) (d:=c2) f2 f3 f4 h63 hb
 have hrun : (execOp a.eval o).run P w = .ok (.value (.slice (some ⟨g',o',none⟩) (c + els2.length) c')) w':=by
  unfold execOp
  rw [ho]
  have e1' : a.eval x = .slice (some ⟨(ι k).1,oo,none⟩) c cap:=e1
  simp only [resolve,invoke,builtin,Sem.run_bind,Sem.run_pure,Result.andThen_ok,List.map_toArray,List.map_cons,List.map_nil,e1',f1,r1]
 unfold Oper.wp
 rw [hrun,Oper.upon_value]
 have hx' : Cx.Ext ⟨w,own⟩ ⟨w',fun b=>own b ∨ b = g'⟩:=⟨r8.size,fun b hb h=>by
  rcases h with h | h
  ·exact h
  ·rcases r9 with r9 | r9
   ·rw [h,r9]; exact hko
   ·have : b < w.heap.size:=hb
    omega,fun b hb hno=>.inl (r8.block b hb (fun e=>by injection e with e; subst e; exact hno hko))⟩
 obtain ⟨o2,ho2,hb2⟩ : ∃ o2,(o' = o2 ∨ c' = 0) ∧ o2 + (c + els2.length) * sz ≤ cur'.size ∧ (c' ≠ 0 → o2 + c' * sz ≤ cur'.size) ∧ (0 < c' → o2 = o'):=by
  rcases Nat.eq_zero_or_pos c' with h0 | h0
  ·exact ⟨0,.inr h0,by rw [show c + els2.length = 0 by omega]; simp,fun h=>absurd h0 h,fun h=>by omega⟩
  ·have h1:=r3.resolve_left (by omega)
   have h2:=Nat.mul_le_mul_right sz r4
   exact ⟨o',.inl rfl,by omega,fun _=>h1,fun _=>rfl⟩
 have hg1 : own g' ∨ w.heap.size ≤ g':=by rcases r9 with r9 | r9<;>rw [r9]; exact .inl hko; exact .inr (Nat.le_refl _)
 refine hK _ _ (upd ι t (g',o2)) (fun b=>own b ∨ b = g') ⟨r8.os,r8.tape,r8.output,r8.size,fun b hb hn=>r8.block b hb (fun e=>by injection e with e; exact hn k (by simp) e),r7,fun _ h _=>.inl h,fun b h=>?_,fun b h=>?_,fun u hu=>upd_ne _ _ (fun e=>hu (by simp [e])),?_,fun k1 ob1 h=>?_,fun k1 ob1 k2 ob2 h h' _=>?_⟩
 ·rcases h with h | h
  ·exact .inl h
  ·rw [h]; exact hg1
 ·rcases h with h | h
  ·exact Nat.lt_of_lt_of_le (hown b h).2 r8.size
  ·rw [h]; exact lt_of_heap r2
 ·refine ⟨o',c',cur',E,by rw [upd_same],?_,r4,r5,by rw [upd_same]; exact r2,?_⟩
  ·rw [upd_same,Nat.zero_mul]; exact ho2
  ·rw [upd_same,Nat.zero_add]
   show o2 + c' * sz ≤ cur'.size
   by_cases h0 : c' = 0
   ·rw [h0]; have:=hb2.1; omega
   ·exact hb2.2.1 h0
 ·obtain ⟨rfl,rfl⟩ : k1 = t ∧ ob1 = .sl E sz (new && new2) (els.drop j ++ els2):=by simpa using h
  rw [upd_same]
  refine ⟨.inr rfl,⟨cur',r2,?_,of_flat (q:=fun p r=>∃ u,cur'[o2 + p]? = some u ∧ r.p (Cx.young ⟨w',fun b=>own b ∨ b = g'⟩ base (new && new2)) u) ?_ (fun p r hp=>?_)⟩,?_⟩
  ·rw [List.length_append,hdl]
   exact hb2.1
  ·refine AllN.app (fun i e hi=>?_) f5
   rw [List.getElem?_drop] at hi
   exact (g3 _ e hi).1
  ·have hf1:=flat_of (els:=els.drop j) (q:=fun p r=>∃ u,arr'[(ι k).2 + j * sz + p]? = some u ∧ r.p (Cx.young ⟨w,own⟩ base new) u) (fun i e hi=>by
    rw [List.getElem?_drop] at hi
    refine ⟨(g3 (j + i) e hi).1,fun jj r hj=>?_⟩
    obtain ⟨u,hu,hr⟩:=(g3 (j + i) e hi).2 jj r hj
    refine ⟨u,?_,hr⟩
    rw [← hu,Nat.add_mul]
    congr 1
    omega)
   rw [flat_app] at hp
   have hplt : p < (flat (els.drop j) ++ flat els2).length:=by
    rcases Nat.lt_or_ge p (flat (els.drop j) ++ flat els2).length with h | h
    ·exact h
    ·rw [List.getElem?_eq_none h] at hp; cases hp
   have hfl : (flat (els.drop j)).length = c * sz:=by rw [flat_len hf1.1,hdl]
   have hpl : p < (c + els2.length) * sz:=by
    rw [List.length_append,hfl,flat_len f5,← Nat.add_mul] at hplt; exact hplt
   have hlen1 : ((arr'.toList.drop ((ι k).2 + j * sz)).take (c * sz)).length = c * sz:=by
    have:=Nat.mul_le_mul_right sz e2
    rw [Nat.add_mul] at e5
    rw [List.length_take,List.length_drop,Array.length_toList]; omega
   have hc0 : 0 < c':=by
    rcases Nat.eq_zero_or_pos c' with h0 | h0
    ·rw [show c + els2.length = 0 by omega] at hpl; simp at hpl
    ·exact h0
   have hol : (arr'.toList.drop oo).take (c * sz) = (arr'.toList.drop ((ι k).2 + j * sz)).take (c * sz):=by
    rcases e0 with e0 | e0
    ·rw [e0]
    ·have : c = 0:=by omega
     subst this; simp
   rw [hb2.2.2 hc0,r6 p hpl,hol]
   by_cases hp1 : p < c * sz
   ·rw [List.getElem?_append_left (by rw [hfl]; exact hp1)] at hp
    rw [List.getElem?_append_left (by rw [hlen1]; exact hp1),List.getElem?_take,if_pos hp1,List.getElem?_drop,Array.getElem?_toList]
    obtain ⟨u,hu,hr⟩:=hf1.2 p r hp
    refine ⟨u,hu,r.mono ?_ hr⟩
    cases new with
    | false=>exact hx'
    | true=>cases new2 with
     | true=>exact hx'.young _ true
     | false=>exact (Cx.young_out _ _ true).trans hx'
   ·rw [List.getElem?_append_right (by rw [hfl]; omega),hfl] at hp
    rw [List.getElem?_append_right (by rw [hlen1]; omega),hlen1]
    obtain ⟨u,hu,hr⟩:=f6 _ r hp
    refine ⟨u,hu,r.mono ?_ hr⟩
    cases new2 with
    | false=>cases new<;>exact hx'
    | true=>cases new with
     | true=>exact hx'.young _ true
     | false=>exact (Cx.young_out _ _ true).trans hx'
  ·rcases r9 with r9 | r9
   ·exact .inr ⟨k,by simp,r9⟩
   ·exact .inl (by rw [r9]; exact Nat.le_refl _)
 ·obtain ⟨rfl,rfl⟩ : k1 = t ∧ ob1 = .sl E sz (new && new2) (els.drop j ++ els2):=by simpa using h
  obtain ⟨rfl,rfl⟩ : k2 = k1 ∧ ob2 = .sl E sz (new && new2) (els.drop j ++ els2):=by simpa using h'
  rfl
def rOf : Value → R
 | .slice none 0 0=>row true 0 []
 | v=>val v
theorem rOf_p {c : Cx} {v : Value} (h : v.oneCell' = true) : (rOf v).p c v:=by
 unfold rOf
 split
 ·exact Zas.2 ⟨none,0,rfl,by simp [maxLen],by simp,by simp,fun h=>by simp at h⟩
 ·exact Zx.2 ⟨rfl,h⟩
def p0Of : Value → P0
 | .agg cs=>.agg (cs.toList.map rOf)
 | v=>.one (rOf v)
theorem p0Of_rs (v : Value) : (p0Of v).rs = v.cells.toList.map rOf:=by
 cases v<;>simp [p0Of,P0.rs,Value.cells]
def zpOf (P : Program) (E : TypeId) : Option P0 :=
 match P.info? E with
 | some i=>match i.zero with
  | some z=>if z.cells.toList.all Value.oneCell' then some (p0Of z) else none
  | none=>none
 | none=>none
theorem eff_make {P : Program} {H : Nat → Option Ob} {ev : Operand → D} {o : Oper} {t sz by_ c : Nat} {E : TypeId} {zp : P0} {m1 m2 : Bool} {i j : Int} (T : TypeId) (x y : Operand) (ho : o.op = .makeSlice T x y) (hT : elOf P T = some (E,sz,by_)) (hz : zpOf P E = some zp)
  (hx : ev x = .one (.r m1 (int i))) (hy : ev y = .one (.r m2 (int j))) (hi : i = c) (hj : j = c) (hb : by_ * c ≤ 281474976710656) (h63 : c ≤ maxLen) :
  Eff P H ev o (.one (.own t 0 c sz)) [] [t] [(t,some (.sl E sz true (List.replicate c zp)))]:=by
 intro base a w ι own hown hbase hev hH _ K Q hK
 subst hi hj
 have hx1:=hev x (by rw [ho]; simp [Op.operands])
 rw [hx] at hx1
 have hy1:=hev y (by rw [ho]; simp [Op.operands])
 rw [hy] at hy1
 have hx2 : a.eval x = .int .i64 (c : Int):=((Zx (c:=Cx.young ⟨w,own⟩ base m1)).1 hx1).1
 have hy2 : a.eval y = .int .i64 (c : Int):=((Zx (c:=Cx.young ⟨w,own⟩ base m2)).1 hy1).1
 obtain ⟨z,hE⟩:=elOf_spec hT
 obtain ⟨inf,hi,hzz,hsz,hby⟩:=hE.info
 have hbi : (inf.bytes : Int) * (c : Int) ≤ 281474976710656:=by
  have : ((by_ * c : Nat) : Int) ≤ 281474976710656:=by omega
  rw [hby]; rwa [Int.natCast_mul] at this
 have hr:=run_make (P:=P) w T E inf z hE.sl hi hzz .i64 .i64 c c (by omega) (Int.le_refl _) hbi (by simp only [maxLen] at h63; omega)
 simp only [Int.toNat_natCast] at hr
 have hrun : (execOp a.eval o).run P w = .ok (.value (.slice (some ⟨w.heap.size,0,none⟩) c c)) (w.alloc (.cells (madeCells z.cells (c * inf.size)) E)):=by
  unfold execOp
  rw [ho]
  simp only [hx2,hy2,Sem.run_bind,hr,Result.andThen_ok,Sem.run_pure]
 unfold Oper.wp
 rw [hrun,Oper.upon_value]
 have hzp : z.cells.toList.all Value.oneCell' = true ∧ zp = p0Of z:=by
  unfold zpOf at hz
  rw [hi] at hz
  simp only [hzz,Option.ite_none_right_eq_some,Option.some.injEq] at hz
  exact ⟨hz.1,hz.2.symm⟩
 refine hK _ _ _ _ (Chg.fresh (g:=(w.heap.size,0)) hown (Zbd _ _) (Nat.le_refl _) (by rw [size_new]; omega) ?_ ?_)
 ·refine ⟨_,Zbk _ _,by rw [List.length_replicate,size_madeCells,hsz,Nat.zero_add]; exact Nat.le_refl _,fun i e he=>?_⟩
  rw [List.getElem?_replicate] at he
  split at he
  ·rename_i hic
   injection he with he
   subst he
   rw [hzp.2]
   have hn : (p0Of z).rs.length = sz:=by rw [p0Of_rs,List.length_map,Array.length_toList]; exact hE.cells
   refine ⟨hn,fun j r hj=>?_⟩
   rw [p0Of_rs,List.getElem?_map,Option.map_eq_some_iff] at hj
   obtain ⟨u,hu,rfl⟩:=hj
   have hjs : j < sz:=by
    rw [← hE.cells]
    rcases Nat.lt_or_ge j z.cells.toList.length with h | h
    ·simpa using h
    ·rw [List.getElem?_eq_none h] at hu; cases hu
   refine ⟨u,?_,rOf_p (List.all_eq_true.1 hzp.1 u (List.mem_of_getElem? hu))⟩
   rw [Nat.zero_add]
   have hlt : i * sz + j < c * inf.size:=by
    rw [hsz]
    have : (i + 1) * sz ≤ c * sz:=Nat.mul_le_mul_right _ hic
    rw [Nat.add_mul] at this
    omega
   simp only [madeCells,Array.getElem?_map,Array.getElem?_range,hlt,if_true,Option.map_some,Option.some.injEq]
   rw [hE.cells,Nat.add_comm,Nat.add_mul_mod_self_right,Nat.mod_eq_of_lt hjs]
   have hzj : z.cells[j]? = some u:=by simpa using hu
   have hjz : j < z.cells.size:=by rw [hE.cells]; exact hjs
   rw [getElem!_pos z.cells j hjz]
   rw [Array.getElem?_eq_getElem hjz] at hzj
   injection hzj
  ·cases he
 ·refine ⟨0,c,_,E,by rw [upd_same],.inl (by rw [upd_same,Nat.zero_mul]),Nat.le_refl _,h63,by rw [upd_same]; exact Zbk _ _,by rw [upd_same,size_madeCells,hsz,Nat.zero_add,Nat.zero_add]; exact Nat.le_refl _⟩
def nb (m : Bool) : R → Bool
 | .val _=>true
 | .row true _ []=>true
 | _=>m
theorem nb_p {c : Cx} {base : Nat} {m : Bool} {v : Value} : ∀ {r : R},r.p (c.young base m) v → r.p (c.young base (nb m r)) v
 | .val u,h=>by have:=Zx.1 h; exact Zx.2 this
 | .row nil sz els,h=>by
  cases nil with
  | false=>exact h
  | true =>
   cases els with
   | nil =>
    obtain ⟨ao,cap,h1,h2,h3,h4,h5⟩:=Zas.1 h
    exact Zas.2 ⟨ao,cap,h1,h2,h3,h4,fun h=>by simp at h⟩
   | cons _ _=>exact h
 | .ref x,h=>h
def rsO : List Cell → Option (Bool × List R)
 | []=>some (true,[])
 | .r m r :: cs=>match rsO cs with
  | some (m',rs)=>some (nb m r && m',r :: rs)
  | none=>none
 | _ :: _=>none
def dP : D → Option (Bool × P0)
 | .one (.r m r)=>some (nb m r,.one r)
 | .agg cs=>match rsO cs with
  | some (m,rs)=>some (m,.agg rs)
  | none=>none
 | _=>none
theorem Zbc {c : Cx} {base : Nat} {m m' : Bool} (h : m' = true → m = true) : (c.young base m).Ext (c.young base m'):=by
 cases m' with
 | true=>rw [h rfl]; exact Cx.Ext.refl _
 | false=>exact Cx.young_out c base m
theorem rsO_ok {ι : Nat → Nat × Nat} {base : Nat} {c : Cx} : ∀ {cs : List Cell} {m : Bool} {rs : List R},rsO cs = some (m,rs) → cs.length = rs.length ∧ ∀ (j : Nat) (r : R),rs[j]? = some r → ∃ x,cs[j]? = some x ∧ ∀ v,x.p ι base c v → r.p (c.young base m) v
 | [],m,rs,h=>by
  simp only [rsO,Option.some.injEq,Prod.mk.injEq] at h
  obtain ⟨rfl,rfl⟩:=h
  exact ⟨rfl,fun j r hj=>by simp at hj⟩
 | .r m0 r0 :: cs,m,rs,h=>by
  simp only [rsO] at h
  split at h
  ·rename_i m' rs' he
   simp only [Option.some.injEq,Prod.mk.injEq] at h
   obtain ⟨rfl,rfl⟩:=h
   obtain ⟨g1,g2⟩:=rsO_ok (ι:=ι) (base:=base) (c:=c) he
   refine ⟨by simp [g1],fun j r hj=>?_⟩
   cases j with
   | zero =>
    simp at hj; subst hj
    exact ⟨_,rfl,fun v hv=>r0.mono (Zbc (fun e=>by simp at e; exact e.1)) (nb_p hv)⟩
   | succ j =>
    obtain ⟨x,hx,hp⟩:=g2 j r (by simpa using hj)
    exact ⟨x,by simpa using hx,fun v hv=>r.mono (Zbc (fun e=>by simp at e; exact e.2)) (hp v hv)⟩
  ·cases h
 | .own .. :: _,_,_,h=>by cases h
 | .ptr .. :: _,_,_,h=>by cases h
 | .any :: _,_,_,h=>by cases h
 | .clo .. :: _,_,_,h=>by cases h
theorem dP_ok {ι : Nat → Nat × Nat} {base : Nat} {c : Cx} {v : Value} : ∀ {d : D} {m : Bool} {e : P0},dP d = some (m,e) → d.p ι base c v → v.cells.size = e.n ∧ ∀ (j : Nat) (r : R),e.rs[j]? = some r → ∃ u,v.cells[j]? = some u ∧ r.p (c.young base m) u
 | .one x,m,e,h,hv=>by
  cases x with
  | r m0 r0 =>
   simp only [dP,Option.some.injEq,Prod.mk.injEq] at h
   obtain ⟨rfl,rfl⟩:=h
   have h1 : v.cells = #[v]:=by have:=r0.one hv;cases v<;>first|rfl|(simp [Value.oneCell'] at this)
   rw [h1]
   refine ⟨rfl,fun j r hj=>?_⟩
   cases j with
   | zero=>simp [P0.rs] at hj; subst hj; exact ⟨v,rfl,nb_p hv⟩
   | succ j=>simp [P0.rs] at hj
  | _=>cases h
 | .agg cs,m,e,h,⟨vs,h1,h2,h3⟩=>by
  simp only [dP] at h
  split at h
  ·rename_i m' rs he
   simp only [Option.some.injEq,Prod.mk.injEq] at h
   obtain ⟨rfl,rfl⟩:=h
   obtain ⟨g1,g2⟩:=rsO_ok (ι:=ι) (base:=base) (c:=c) he
   subst h1
   refine ⟨by simp [Value.cells,P0.n,P0.rs]; omega,fun j r hj=>?_⟩
   obtain ⟨x,hx,hp⟩:=g2 j r hj
   obtain ⟨u,hu,hq⟩:=h3 j x hx
   exact ⟨u,by simpa [Value.cells] using hu,hp u hq⟩
  ·cases h
 | .tup _ _,_,_,h,_=>by cases h
 | .tups _,_,_,h,_=>by cases h
 | .any,_,_,h,_=>by cases h
theorem eff_storeS {P : Program} {H : Nat → Option Ob} {ev : Operand → D} {o : Oper} {k sz i : Nat} {ag : Bool} {d : D} {E : TypeId} {new m : Bool} {els : List P0} {e : P0} (t : TypeId) (x y : Operand) (ho : o.op = .store t x y) (hd : o.dst = none) (hx : ev x = .one (.ptr k i sz 0)) (hk : H k = some (.sl E sz new els)) (hT : tyOf P t = some (ag,sz)) (hi : i < els.length) (hy : ev y = d) (he : dP d = some (m,e)) (hen : e.n = sz) :
  Eff P H ev o .any [k] [] [(k,some (.sl E sz (new && m) (els.set i e)))]:=by
 intro base a w ι own hown hbase hev hH _ K Q hK
 have hx1:=hev x (by rw [ho]; simp [Op.operands])
 rw [hx] at hx1
 have hx2 : a.eval x = .pointer (some ⟨(ι k).1,(ι k).2 + i * sz,none⟩):=hx1
 have hv:=hev y (by rw [ho]; simp [Op.operands])
 rw [hy] at hv
 obtain ⟨g1,g2⟩:=dP_ok he hv
 obtain ⟨hko,arr,e1,e2,e3⟩:=hH k _ hk
 have hle : (ι k).2 + i * sz + sz ≤ arr.size:=by
  have : (i + 1) * sz ≤ els.length * sz:=Nat.mul_le_mul_right _ hi
  rw [Nat.add_mul] at this
  omega
 obtain ⟨w',arr',f1,f2,f3,f4,f5,f6⟩:=storeVar_run (P:=P) (o:=(ι k).2 + i * sz) hT w arr (by rw [g1,hen]) (fun j u hj=>by
  have hjl : j < e.rs.length:=by
   have : (a.eval y).cells.size = e.rs.length:=g1
   rw [← this]
   rcases Nat.lt_or_ge j (a.eval y).cells.size with h | h
   ·exact h
   ·rw [Array.getElem?_eq_none h] at hj; cases hj
  obtain ⟨u',h1,h2⟩:=g2 j _ (List.getElem?_eq_getElem hjl)
  rw [h1] at hj; injection hj with hj; subst hj; exact R.one _ h2) e1 hle
 have hrun : (execOp a.eval o).run P w = .ok .skip w':=by
  unfold execOp
  rw [ho]
  simp [hx2,Instr.storeAt,Instr.sureAddr,f1]
 unfold Oper.wp
 rw [hrun,Oper.upon_skip,hd]
 have hsz : Sized w w':=fun b ar T hb=>by
  by_cases hbk : b = (ι k).1
  ·subst hbk
   have e1' : w.heap[(ι k).1]? = some (.cells arr E (0,0)):=e1
   rw [e1'] at hb
   injection hb with hb
   injection hb with hb1 hb2
   subst hb1 hb2
   exact ⟨arr',f2,f3⟩
  ·exact ⟨ar,by rw [f5.block b (lt_of_heap hb) (fun e=>by injection e with e; exact hbk e)]; exact hb,rfl⟩
 have hK':=hK undef
 rw [hd] at hK'
 have hxx:=ext_write (own:=own) hko f5 f6
 refine hK' _ _ _ (Chg.write hown hko f5 f6 hsz ⟨arr',f2,by rw [f3,List.length_set]; exact e2,fun q ee hq=>?_⟩)
 rw [List.getElem?_set] at hq
 by_cases hiq : i = q
 ·subst hiq
  rw [if_pos rfl,if_pos hi] at hq
  injection hq with hq
  subst hq
  refine ⟨hen,fun j r hj=>?_⟩
  obtain ⟨u,hu,hr⟩:=g2 j r hj
  have hjs : j < sz:=by
   rw [← hen]
   rcases Nat.lt_or_ge j e.rs.length with h | h
   ·exact h
   ·rw [List.getElem?_eq_none h] at hj; cases hj
  refine ⟨u,by rw [f4,if_pos ⟨by omega,by omega⟩,show (ι k).2 + (i * sz + j) - ((ι k).2 + i * sz) = j by omega]; exact hu,?_⟩
  exact r.mono ((Zbc (fun e=>by simp at e; exact e.2)).trans (hxx.young _ _)) hr
 ·rw [if_neg hiq] at hq
  obtain ⟨p1,p2⟩:=e3 q ee hq
  refine ⟨p1,fun j r hj=>?_⟩
  obtain ⟨u,hu,hr⟩:=p2 j r hj
  have hjs : j < sz:=by
   rw [← p1]
   rcases Nat.lt_or_ge j ee.rs.length with h | h
   ·exact h
   ·rw [List.getElem?_eq_none h] at hj; cases hj
  refine ⟨u,?_,r.mono ((Zbc (fun e=>by simp at e; exact e.1)).trans (hxx.young _ _)) hr⟩
  rw [f4,if_neg ?_]
  ·exact hu
  ·intro hh
   rcases Nat.lt_or_ge q i with h | h
   ·have : (q + 1) * sz ≤ i * sz:=Nat.mul_le_mul_right _ h
    rw [Nat.add_mul] at this
    omega
   ·have : (i + 1) * sz ≤ q * sz:=Nat.mul_le_mul_right _ (by omega)
    rw [Nat.add_mul] at this
    omega
end Go.Proofs.Ytmkijbfiilpccaa.Abs
