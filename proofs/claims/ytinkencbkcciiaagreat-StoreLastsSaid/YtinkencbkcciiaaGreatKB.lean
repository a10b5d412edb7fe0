/- More rules of the walks: an array's element by value; equal strings; a row's argument is a plain value.
Conditions: none; nothing here speaks of a program. -/
import Derived.Test.YtinkencbkcciiaaGreatKA
import Derived.WalkKit
import Derived.ProofKit
import Derived.OpenShut
import Derived.Laws.FloatArith
set_option linter.unusedSimpArgs false
set_option linter.unusedVariables false
set_option linter.unusedSectionVars false
namespace Go.K
section
variable {C : Cx} {V : Vw} {H : Hp} {L : Sl} {ty : TypeId}
def arrS (P : Program) (t : TypeId) : Option Nat := match P.underlying t with
  | some (.array n e) => if scal P e && (sizeT P e == some 1) then some n else none
  | _ => none
theorem Y.idxAgg {x y : Operand} {t : TypeId} {n : Nat} {cs : Array Value} {k : IntKind} {j : Int} {v : Value} (hx : ev L x = some (.agg cs)) (hy : ev L y = some (.int k j)) (ht : arrS C.P t = some n) (h0 : 0 ≤ j) (h1 : j.toNat < n) (hv : cs[j.toNat]? = some v) :
    Yl C V H L (.index t x y) ty v := (fun V2 a w hle i o ho hty => by
  unfold arrS at ht
  cases hu : C.P.underlying t with
  | none => rw [hu] at ht; cases ht
  | some u =>
    rw [hu] at ht
    cases u <;> simp only [reduceCtorEq] at ht
    rename_i n' e
    split at ht
    · rename_i hse
      cases ht
      rw [Bool.and_eq_true,beq_iff_eq] at hse
      have hs' := run_sizeOf (w := w) hse.2
      have hp := run_part (P := C.P) (w := w) (cs := cs) hse.1 hv
      have hj : 0 ≤ j ∧ j < (n : Int) := ⟨h0,by omega⟩
      simp [execOp,ho,i.1.ev hx,i.1.ev hy,Instr.index,asIntOf,run_underlying hu,hs',hj,hp]
    · cases ht)
end
end Go.K
namespace Go.K
open Go.ChangeShapes Go.WideShapes Go.ChangeAt Go.RowKit
section
variable {H : Type} {enc : TypeId × Value → H} {P : Program} {w : World} {base : Nat} {spare : Nat → Bool} {held : Bool}
def wfV : Nat × IntKind → Value → Prop
  | (0,k),.int k' n => k' = k ∧ (Lit.int k n).wf = true
  | (1,_),.bool _ => True
  | (2,_),.string s => s.size ≤ 9223372036854775807
  | _,_ => False
def wfVs : List (Nat × IntKind) → List Value → Prop
  | [],[] => True
  | g :: gs,v :: vs => wfV g v ∧ wfVs gs vs
  | _,_ => False
theorem trod_tag {t : TypeId} {g : Nat × IntKind} {fuel : Nat} {cs : List Value} {x : DataW H × List MemPlace} (ht : tagOf P t = some g) (h : DataW.trod enc P w base spare held fuel t cs = some x) : ∃ v,cs = [v] ∧ wfV g v := by
  unfold tagOf at ht
  cases hu : P.underlying t with
  | none => rw [hu] at ht; cases ht
  | some u =>
    rw [hu] at ht
    cases u <;> simp only [reduceCtorEq,Option.some.injEq] at ht
    · subst ht; obtain ⟨b,rfl,_⟩ := DataW.trod_bool hu h; exact ⟨_,rfl,trivial⟩
    · subst ht; obtain ⟨n,rfl,_,hw⟩ := DataW.trod_int hu h; exact ⟨_,rfl,rfl,hw⟩
    · subst ht; obtain ⟨s,rfl,_,hs⟩ := DataW.trod_string hu h; exact ⟨_,rfl,by unfold maxLen at hs; exact hs⟩
def flatFrom (P : Program) : Nat → List Field → Option (List (Nat × IntKind))
  | _,[] => some []
  | j,f :: fs => if f.offset = j ∧ P.cellsOf f.type = 1 then match tagOf P f.type,flatFrom P (j + 1) fs with
    | some g,some gs => some (g :: gs)
    | _,_ => none
    else none
def flat (P : Program) (t : TypeId) : Option (List (Nat × IntKind)) := match P.underlying t with
  | some (.struct fs) => if P.cellsOf t = fs.size then flatFrom P 0 fs.toList else none
  | _ => none
theorem wfVs_cons {g : Nat × IntKind} {gs : List (Nat × IntKind)} {cs : List Value} (h : wfVs (g :: gs) cs) : ∃ v vs,cs = v :: vs ∧ wfV g v ∧ wfVs gs vs := by
  cases cs with
  | nil => exact h.elim
  | cons v vs => exact ⟨v,vs,rfl,h.1,h.2⟩
theorem wfVs_nil {cs : List Value} (h : wfVs [] cs) : cs = [] := by
  cases cs with
  | nil => rfl
  | cons v vs => exact h.elim
theorem wfV_int {k : IntKind} {v : Value} (h : wfV (0,k) v) : ∃ n,v = .int k n ∧ (Lit.int k n).wf = true := by
  cases v <;> simp only [wfV] at h
  obtain ⟨rfl,h⟩ := h; exact ⟨_,rfl,h⟩
theorem wfV_bool {k : IntKind} {v : Value} (h : wfV (1,k) v) : ∃ b,v = .bool b := by
  cases v <;> simp only [wfV] at h
  exact ⟨_,rfl⟩
theorem wfV_str {k : IntKind} {v : Value} (h : wfV (2,k) v) : ∃ s,v = .string s ∧ s.size ≤ 9223372036854775807 := by
  cases v <;> simp only [wfV] at h
  exact ⟨_,rfl,h⟩
theorem open_i64 {r : Reach} {b0 : Nat} {t : TypeId} {v : Value} {d : DataW H} {ps : List MemPlace} (ht : tagOf P t = some (0,.i64)) (h : DataW.Trod enc P w base spare held t v d ps) (hv : Value.okWide P w r b0 t v) : ∃ n,v = .int .i64 n ∧ -9223372036854775808 ≤ n ∧ n ≤ 9223372036854775807 := by
  have hu : P.underlying t = some (.int .i64) := by
    unfold tagOf at ht
    cases hd : P.underlying t with
    | none => rw [hd] at ht; cases ht
    | some q => rw [hd] at ht; cases q <;> simp at ht <;> rw [ht]
  obtain ⟨n,rfl,_,_,hw⟩ := open_int hu hv h
  exact ⟨n,rfl,bounds_i64 hw⟩
def allV (W : World) : Vw := fun b => W.heap[b]?
theorem St.all (W : World) : St W [] (allV W) (allV W) [] W :=
  ⟨rfl,rfl,rfl,Nat.le_refl _,fun _ _ _ => rfl,fun _ _ h => (by cases h),List.nodup_nil,fun _ h => (by cases h),Vw.le_refl _,fun _ _ h => h,fun _ _ _ h => (by cases h),fun _ _ h => .inl h⟩
theorem St.below {W W' : World} {V : Vw} {H : Hp} (h : St W [] (allV W) V H W') : Below W.heap.size W W' := ⟨h.os,h.tape,h.output,h.size,fun b hb => h.fr b hb (by simp)⟩
theorem trodAll_below (hl : laidOutB P = true) {W W' : World} (hb : Below W.heap.size W W') : ∀ {ts : List TypeId} {vs : List Value} {ds : List (DataW H)} {ps : List MemPlace},(ts.all fun t => P.readableRec t && decide (t < P.types.size)) = true →
    DataW.TrodAll enc P W 0 (fun _ => true) true ts vs ds ps → (∀ x ∈ ps,x.block < W.heap.size) → DataW.TrodAll enc P W' 0 (fun b => decide (b < W.heap.size)) true ts vs ds ps
  | [],_,_,_,_,h,_ => by obtain ⟨rfl,rfl,rfl⟩ := trodAll_nil h; exact trodAll_mk0
  | t :: ts,_,_,_,hr,h,hlt => by
    obtain ⟨v,vs,d,ds,p,q,rfl,rfl,rfl,h0,r0⟩ := trodAll_cons h
    simp only [List.all_cons,Bool.and_eq_true,decide_eq_true_eq] at hr
    exact trodAll_cons_mk (Below.trod hl hr.1.1 hr.1.2 h0 hb (fun x hx => hlt x (List.mem_append_left _ hx))) (trodAll_below hl hb hr.2 r0 (fun x hx => hlt x (List.mem_append_right _ hx)))
theorem trodAll_len : ∀ {ts : List TypeId} {vs : List Value} {ds : List (DataW H)} {ps : List MemPlace},DataW.TrodAll enc P w base spare held ts vs ds ps → ds.length = ts.length
  | [],_,_,_,h => by obtain ⟨_,rfl,_⟩ := trodAll_nil h; rfl
  | t :: ts,_,_,_,h => by
    obtain ⟨v,vs,d,ds,p,q,rfl,rfl,rfl,h0,r0⟩ := trodAll_cons h
    simp [trodAll_len r0]
theorem law_lifted {a : Assume} {C : Checked} {os : Os} {f : FuncId} {fn : Func} {s : ChangeSpec} {conds : List PathCond} {apart : Bool} {tb : TypeId} (own : ownKnob C.prog.godebug = none) (started : os.Started) (noInit : C.prog.inits.idxOf? f = none) (hfn : C.prog.funcs[f]? = some fn)
    (witness : ∃ (w : World) (tape : Tape) (i : Input),w.os = os ∧ (w.forCall tape i).Shaped C.prog ∧ i.vars = [] ∧ Input.okWide C.prog (w.forCall tape i) .any w.heap.size f i ∧
      s.pre6 enc C.prog fn conds apart (w.forCall tape i).memory i.args ∧ a.holds C.prog (lone (Frame.enter C.prog f i.args .normal) [] (w.forCall tape i)))
    (hl : laidOutB C.prog = true) (hpar : (fn.params.toList.all fun t => C.prog.readableRec t && decide (t < C.prog.types.size)) = true) (hvars : s.vars = []) (hres : fn.resultTypes = #[tb]) (htb : C.prog.underlying tb = some .bool)
    (hspec : ∀ ds : List (DataW H),ds.length = fn.params.toList.length → s.fn H ds = { results := [.lit (.bool true)],args := ds })
    (walk : ∀ (W : World) (base : Nat) (args : Array Value) (ds : List (DataW H)) (ps : List MemPlace),(∀ (j : Nat) t v,fn.params[j]? = some t → args[j]? = some v → Value.okWide C.prog W .any base t v) → DataW.TrodAll enc C.prog W 0 (fun _ => true) true fn.params.toList args.toList ds ps →
      Does C.prog f args.toList (allV W) [] (fun v _ _ => v = .bool true)) :
    ReturnsInHanded a C os f .any (s.pre6 enc C.prog fn conds apart) (s.post enc C.prog fn apart true false false) := by
  refine returnsInHanded_of_change own started noInit hfn witness ?_
  intro W base args ds gs before hval hW _ _
  have hW' := hW
  have hlt := fun x hx => hW.lt x hx
  obtain ⟨p,q,hA,hV,hbef,hfz,hnd⟩ := hW
  rw [hvars] at hV
  obtain ⟨rfl,rfl⟩ := trodVars_none hV
  rw [List.append_nil] at hbef
  subst hbef
  have := (walk W base args ds before hval hA).2 W (St.all W)
  rw [Array.toArray_toList] at this
  refine this.mono fun e W' ⟨v,V',H',he,hv,hst⟩ => ⟨v,he,?_⟩
  subst hv
  have hb := St.below hst
  have hsp := hspec ds (trodAll_len hA)
  refine ⟨ds,[],before,[],before,[],hW',?_,?_,?_,hb.frame _,fun h => by cases h⟩
  · rw [List.append_nil,hsp,hres]; exact trodAll_mk1 (shut_bool htb true)
  · rw [List.append_nil,hsp]; exact trodAll_below hl hb hpar hA hlt
  · rw [List.append_nil,hsp,hvars]; rfl
end
end Go.K
namespace Go.K
section
variable {P : Program} {w : World}
end
section
variable {C : Cx} {V : Vw} {H : Hp} {L : Sl} {Q : Exit → Act → World → Prop} {ops : Array Oper} {os : List Oper}
variable {ty : TypeId} {pos : String} {aft : Array Edge} {d : Nat}
theorem Run.buildSlice0 {t et : TypeId} {z : Nat} (ht : elemS C.P t = some (et,z)) (hd : d < C.n)
    (k : ∀ b,Run C ops V ([(b,.cells #[] et)] :: H) ((d,.slice (some ⟨b,0,none⟩) 0 0) :: L) os Q) :
    Run C ops V H L (⟨some d,.buildSlice t 0 #[],ty,pos,aft,none⟩ :: os) Q :=
  Run.step (p := fun v V' H' => ∃ b,v = .slice (some ⟨b,0,none⟩) 0 0 ∧ V' = V ∧ H' = [(b,.cells #[] et)] :: H) hd
    (fun a w i => by
      have hu := (under_elemS ht).1
      have hs := run_sizeOf (w := w) (under_elemS ht).2
      refine ⟨_,_,V,_,?_,⟨_,rfl,rfl,rfl⟩,i.2.alloc _⟩
      simp [execOp,Instr.buildSlice,run_underlying hu,hs,Instr.fill,newRow]
      rw [show Array.range 0 = #[] from by simp,Array.map_empty])
    (fun v V' H' ⟨b,h1,h2,h3⟩ => by subst h1 h2 h3; exact k b)
end
end Go.K
namespace Go.K
open Go.ChangeShapes Go.WideShapes Go.ChangeAt Go.RowKit
section
variable {H : Type} {enc : TypeId × Value → H} {P : Program} {w : World} {held : Bool}
end
end Go.K
namespace Go.K
section
variable {C : Cx} {V : Vw} {H : Hp} {L : Sl} {ty : TypeId}
def ptrT (P : Program) (t : TypeId) : Bool := match P.underlying t with
  | some (.pointer _) => true
  | _ => false
theorem run_equal_nil {P : Program} {w : World} {t : TypeId} (ht : ptrT P t = true) (p : Option Addr) : (Op.equal t (.pointer p) (.pointer none)).run P w = .ok p.isNone w := by
  have hu : ∃ e,P.underlying t = some (.pointer e) := by
    unfold ptrT at ht; split at ht
    · exact ⟨_,‹_›⟩
    · cases ht
  obtain ⟨e,hu⟩ := hu
  unfold Op.equal
  rw [show Op.maxDepth = 9999 + 1 from rfl,Op.equalIn]
  cases p <;> simp [run_underlying hu]
theorem Y.eqNil {x y : Operand} {t t' : TypeId} {p : Option Addr} (hx : ev L x = some (.pointer p)) (hy : ev L y = some (.pointer none)) (ht : ptrT C.P t = true) : Yl C V H L (.binOp .eql t x y t') ty (.bool p.isNone) := (fun V2 a w hle i o ho hty => by
  have hg : (eqGuard .eql t x y (.pointer p) (.pointer none)).run C.P w = .ok () w := rfl
  simp only [execOp,ho,i.1.ev hx,i.1.ev hy,Sem.run_bind,hg,Result.andThen_ok,binOp,run_equal_nil ht,Sem.run_pure])
theorem Y.eqI_t {x y : Operand} {k : IntKind} {m : Int} {t t' : TypeId} (hx : ev L x = some (.int k m)) (hy : ev L y = some (.int k m)) : Yl C V H L (.binOp .eql t x y t') ty (.bool true) := Y.int hx hy (by simp [intRes])
theorem Y.eqB_t {x y : Operand} {b : Bool} {t t' : TypeId} (hx : ev L x = some (.bool b)) (hy : ev L y = some (.bool b)) (ht : tagOf C.P t = some (1,.i64)) : Yl C V H L (.binOp .eql t x y t') ty (.bool true) := by
  have := Y.eqB (C := C) (V := V) (H := H) (ty := ty) (t' := t') hx hy ht
  rw [beq_self_eq_true] at this; exact this
end
section
variable {C : Cx} {V : Vw} {H : Hp} {L : Sl} {Q : Exit → Act → World → Prop} {ops : Array Oper} {os : List Oper} {K : Act → World → Prop}
theorem Run.off_u {o : Oper} {j : Nat} {t : Bool} {d dd : Nat} (hg : o.guard = some (j,t)) (hj : ((ops[j]?).bind (·.dst)) = some d) (hb : L.lookup d = some undef) (hd : o.dst = some dd) (hn : dd < C.n)
    (k : Run C ops V H ((dd,undef) :: L) os Q) : Run C ops V H L (o :: os) Q := fun a w i => by
  have hw : Region.wanted o (yielded ops a.tmps) = false := by
    simp only [Region.wanted,hg,yielded,hj,Option.bind_some,i.1.lk d _ hb]; cases t <;> rfl
  unfold wpList
  rw [if_neg (by simp [hw]),hd]
  exact k _ _ ⟨i.1.put hn _,i.2⟩
end
section
variable {L : Sl} {V : Vw} {H : Hp}
variable {fn : Func} {B : World} {S : List Nat} {U : Vw} {P : Program} {n : Nat} {R : Value → Vw → Hp → Prop}
theorem Ex.retCellT {t ad b off z : Nat} {c : Array Value} {e : TypeId} {fz : Nat × Nat} {vs : List Value} {H0 : Hp} (m : Nat) (hr : fn.results = #[.cell ad t]) (hv : L.lookup ad = some (.pointer (some ⟨b,off,none⟩))) (ht : aggsz P t = some z) (hk : Kn V H b (.cells c e fz)) (hc : cellsAt c off z = some vs)
    (h0 : H = H.take m ++ H0) (hR : R (.agg vs.toArray) V H0) : Ex ⟨P,n,B,S,U,[]⟩ V H L (bodyPost P fn fun e w' => ∃ v V' H',e = .returned v ∧ R v V' H' ∧ St B S U V' H' w') .ret := fun a w i => by
  refine ⟨i.1.df,.agg vs.toArray,?_,_,V,H0,rfl,hR,?_⟩
  · have h1 := run_isAgg_agg (w := w) ht
    have h2 : a.tmps[ad]?.getD undef = .pointer (some ⟨b,off,none⟩) := by rw [i.1.lk _ _ hv]; rfl
    have h3 := run_loadCells (P := P) (hk.st i.2) off z 0 vs #[] hc
    simp [results,hr,Array.getD_eq_getD_getElem?,h2,asAddr,loadVar,h1.1,h1.2,loadCells,h3]
  · have := i.2; rw [h0] at this; exact this.drop
end
end Go.K
namespace Go.K
open Go.ChangeShapes Go.WideShapes Go.ChangeAt Go.RowKit
section
variable {H : Type} {enc : TypeId × Value → H} {P : Program} {w : World} {base : Nat} {spare : Nat → Bool} {held : Bool}
def flatFields (F : TypeId → Option (List (Nat × IntKind))) (P : Program) : Nat → List Field → Option (List (Nat × IntKind))
  | _,[] => some []
  | j,f :: fs => if f.offset = j then match F f.type with
    | some g => if g.length = P.cellsOf f.type then match flatFields F P (j + g.length) fs with
      | some gs => some (g ++ gs)
      | none => none
      else none
    | none => none
    else none
def flatN (P : Program) : Nat → TypeId → Option (List (Nat × IntKind))
  | 0,_ => none
  | d + 1,t => match tagOf P t with
    | some g => if P.cellsOf t = 1 then some [g] else none
    | none => match P.underlying t with
      | some (.struct fs) => match flatFields (flatN P d) P 0 fs.toList with
        | some gs => if gs.length = P.cellsOf t then some gs else none
        | none => none
      | some (.array n e) => match flatN P d e with
        | some gs => if gs.length = P.cellsOf e ∧ n * gs.length = P.cellsOf t then some (List.replicate n gs).flatten else none
        | none => none
      | _ => none
theorem wfVs_append : ∀ {gs hs : List (Nat × IntKind)} {xs ys : List Value},wfVs gs xs → wfVs hs ys → wfVs (gs ++ hs) (xs ++ ys)
  | [],_,[],_,_,h => h
  | [],_,_ :: _,_,h,_ => h.elim
  | _ :: _,_,[],_,h,_ => h.elim
  | _ :: _,_,_ :: _,_,h,k => ⟨h.1,wfVs_append h.2 k⟩
theorem wfVs_len : ∀ {gs : List (Nat × IntKind)} {xs : List Value},wfVs gs xs → xs.length = gs.length
  | [],[],_ => rfl
  | [],_ :: _,h => h.elim
  | _ :: _,[],h => h.elim
  | _ :: _,_ :: _,h => by simp [wfVs_len h.2]
theorem wfVs_fields {F : TypeId → Option (List (Nat × IntKind))} {cs : List Value} : ∀ (l : List Field) (j : Nat) (gs : List (Nat × IntKind)),flatFields F P j l = some gs → cs.length = j + gs.length →
    (∀ (f : Field),f ∈ l → ∀ g,F f.type = some g → wfVs g ((cs.drop f.offset).take (P.cellsOf f.type))) → wfVs gs (cs.drop j)
  | [],j,gs,hf,hl,_ => by
    cases hf
    rw [List.drop_eq_nil_of_le (by simpa using Nat.le_of_eq hl)]; trivial
  | f :: fs,j,gs,hf,hl,hc => by
    unfold flatFields at hf
    split at hf
    · rename_i ho
      split at hf
      · rename_i g hg
        split at hf
        · rename_i hlen
          split at hf
          · rename_i gs' h2
            cases hf
            have h1 := hc f (List.mem_cons_self ..) g hg
            rw [ho,← hlen] at h1
            have h3 := wfVs_fields fs (j + g.length) gs' h2 (by rw [hl,List.length_append]; omega) (fun f' hf' => hc f' (List.mem_cons_of_mem _ hf'))
            have e : cs.drop j = (cs.drop j).take g.length ++ cs.drop (j + g.length) := by rw [← List.drop_drop,List.take_append_drop]
            rw [e]
            exact wfVs_append h1 h3
          · cases hf
        · cases hf
      · cases hf
    · cases hf
theorem wfVs_rep {gs : List (Nat × IntKind)} : ∀ (n : Nat) (cs : List Value),cs.length = n * gs.length → (∀ i,i < n → wfVs gs ((cs.drop (i * gs.length)).take gs.length)) → wfVs (List.replicate n gs).flatten cs
  | 0,cs,hl,_ => by
    have : cs = [] := List.length_eq_zero_iff.1 (by simpa using hl)
    subst this; trivial
  | n + 1,cs,hl,h => by
    rw [List.replicate_succ,List.flatten_cons,← List.take_append_drop gs.length cs]
    refine wfVs_append (by simpa using h 0 (by omega)) (wfVs_rep n _ (by rw [List.length_drop,hl,Nat.succ_mul]; omega) fun i hi => ?_)
    have := h (i + 1) (by omega)
    rw [List.drop_drop,show gs.length + i * gs.length = (i + 1) * gs.length from by rw [Nat.succ_mul]; omega]
    exact this
theorem trod_flatN : ∀ (d : Nat) {t : TypeId} {gs : List (Nat × IntKind)} {fuel : Nat} {cs : List Value} {x : DataW H × List MemPlace},flatN P d t = some gs → DataW.trod enc P w base spare held fuel t cs = some x → wfVs gs cs
  | 0,_,_,_,_,_,h,_ => by cases h
  | d + 1,t,gs,fuel,cs,x,h,hd => by
    unfold flatN at h
    split at h
    · rename_i g hg
      split at h
      · cases h
        obtain ⟨v,rfl,hw⟩ := trod_tag hg hd
        exact ⟨hw,trivial⟩
      · cases h
    · split at h
      · rename_i fs hu
        split at h
        · rename_i gs' hf
          split at h
          · rename_i hsz
            cases h
            obtain ⟨xs,n,rfl,rfl,hlen,hxl,hfl⟩ := DataW.trod_struct hu hd
            have := wfVs_fields (P := P) (cs := cs) fs.toList 0 gs hf (by rw [hlen,hsz]; simp) (fun f hm g hg => by
              obtain ⟨i,hi⟩ := List.mem_iff_getElem?.1 hm
              have hi' : fs[i]? = some f := by simpa using hi
              have hlt : i < fs.size := (Array.getElem?_eq_some_iff.1 hi').1
              have h1 := hfl i f hi'
              rw [List.getElem?_eq_getElem (by omega)] at h1
              exact trod_flatN d hg h1)
            simpa using this
          · cases h
        · cases h
      · rename_i n e hu
        split at h
        · rename_i gs' hf
          split at h
          · rename_i hsz
            cases h
            obtain ⟨xs,m,_,_,hlen,hxl,hel⟩ := DataW.trod_array hu hd
            refine wfVs_rep n cs (by rw [hlen,hsz.2]) fun i hi => ?_
            have h1 := hel i hi
            rw [List.getElem?_eq_getElem (by omega)] at h1
            have h2 := trod_flatN d hf h1
            rw [hsz.1]; exact h2
          · cases h
        · cases h
      · cases h
theorem flatten_at {z : Nat} : ∀ (rows : List (List Value)) (i o : Nat),(∀ r,r ∈ rows → r.length = z) → o < z → rows.flatten[i * z + o]? = (rows[i]?).bind (·[o]?)
  | [],i,o,_,_ => by simp
  | r :: rows,0,o,h,ho => by
    have hr := h r (List.mem_cons_self ..)
    simp only [List.flatten_cons,Nat.zero_mul,Nat.zero_add,List.getElem?_cons_zero,Option.bind_some]
    rw [List.getElem?_append_left (by omega)]
  | r :: rows,i + 1,o,h,ho => by
    have hr := h r (List.mem_cons_self ..)
    simp only [List.flatten_cons,List.getElem?_cons_succ]
    rw [List.getElem?_append_right (by rw [hr,Nat.succ_mul]; omega),hr,show (i + 1) * z + o - z = i * z + o from by rw [Nat.succ_mul]; omega]
    exact flatten_at rows i o (fun r' h' => h r' (List.mem_cons_of_mem _ h')) ho
theorem open_rows {r : Reach} {b0 : Nat} {t e : TypeId} {z d : Nat} {gs : List (Nat × IntKind)} {v : Value} {dd : DataW H} {ps : List MemPlace} (ht : elemS P t = some (e,z)) (hg : flatN P d e = some gs) (hc : P.cellsOf e = z) (hz : gs.length = z) (hz0 : 0 < z)
    (hv : Value.okWide P w r b0 t v) (h : DataW.Trod enc P w base spare held t v dd ps) : ∃ rows : List (List Value),Rd (allV w) [] z v rows.length rows.flatten ∧ rows.length ≤ 9223372036854775807 ∧ ∀ q,q ∈ rows → wfVs gs q := by
  have hu := (under_elemS ht).1
  obtain ⟨a0,len,cap,rfl⟩ := okWide_slice hu hv
  obtain ⟨fuel,hf⟩ := h
  rcases DataW.trod_slice hu (by simpa [Value.cells] using hf) with ⟨hcs,_⟩ | ⟨a,len',cap',elems,rest,n,_,hcs,_,hb,hl,hm,hlen,hel,_,_⟩
  · simp only [List.cons.injEq,and_true] at hcs
    cases hcs
    exact ⟨[],⟨by simp,none,0,rfl,Nat.le_refl _,.inl rfl⟩,by simp,fun q hq => by cases hq⟩
  · simp only [List.cons.injEq,and_true] at hcs
    cases hcs
    rw [hc] at hel
    have each : ∀ i,i < len → ∃ cs,w.cells? base (a.add (i * z)) z = some cs ∧ wfVs gs cs := fun i hi => by
      have h1 := hel i hi
      rw [List.getElem?_eq_getElem (by omega)] at h1
      cases hq : w.cells? base (a.add (i * z)) z with
      | none => rw [hq] at h1; cases h1
      | some cs => rw [hq] at h1; exact ⟨cs,rfl,trod_flatN d hg h1⟩
    let rows : List (List Value) := (List.range len).map fun i => (w.cells? base (a.add (i * z)) z).getD []
    have hrl : rows.length = len := by simp [rows]
    have hrow : ∀ i,i < len → ∃ cs,rows[i]? = some cs ∧ w.cells? base (a.add (i * z)) z = some cs ∧ wfVs gs cs := fun i hi => by
      obtain ⟨cs,h1,h2⟩ := each i hi
      exact ⟨cs,by simp [rows,List.getElem?_map,List.getElem?_range,hi,h1],h1,h2⟩
    have hall : ∀ q,q ∈ rows → wfVs gs q := fun q hq => by
      obtain ⟨i,hi⟩ := List.mem_iff_getElem?.1 hq
      have hlt : i < len := by rw [← hrl]; exact (List.getElem?_eq_some_iff.1 hi).1
      obtain ⟨cs,h1,_,h3⟩ := hrow i hlt
      rw [hi] at h1; cases h1; exact h3
    have hlens : ∀ q,q ∈ rows → q.length = z := fun q hq => by rw [wfVs_len (hall q hq),hz]
    refine ⟨rows,?_,by rw [hrl]; unfold maxLen at hm; omega,hall⟩
    refine ⟨?_,some a,cap,by rw [hrl],by rw [hrl]; exact hl,?_⟩
    · clear hel each hrow hall
      have : ∀ (l : List (List Value)),(∀ q,q ∈ l → q.length = z) → l.flatten.length = l.length * z := fun l => by
        induction l with
        | nil => intro _; simp
        | cons q l ih => intro hh; rw [List.flatten_cons,List.length_append,ih (fun q' h' => hh q' (List.mem_cons_of_mem _ h')),hh q (List.mem_cons_self ..),List.length_cons,Nat.succ_mul]; omega
      exact this rows hlens
    · rw [hrl]
      by_cases h0 : len = 0
      · exact .inl h0
      · right
        have cell : ∀ i o,i < len → o < z → ∃ u,w.cell? (a.add (i * z + o)) = some u ∧ rows.flatten[i * z + o]? = some u := fun i o hi ho => by
          obtain ⟨cs,h1,h2,h3⟩ := hrow i hi
          obtain ⟨_,hl2,hcell⟩ := World.cells?_some h2
          have h4 := hcell o ho
          rw [flatten_at rows i o hlens ho,h1]
          have h5 : o < cs.length := by rw [wfVs_len h3,hz]; exact ho
          rw [List.getElem?_eq_getElem h5] at h4
          refine ⟨cs[o],?_,by simp [List.getElem?_eq_getElem h5]⟩
          rw [← h4]; congr 1
          unfold Addr.add
          by_cases k1 : i * z = 0 <;> by_cases k2 : o = 0 <;> simp_all [Nat.add_assoc]
        obtain ⟨b,off,spot⟩ := a
        obtain ⟨u,hu0,_⟩ := cell 0 0 (by omega) hz0
        have hspot : spot = none := by simpa [Addr.add] using World.cell?_spot hu0
        subst hspot
        unfold World.cell? at hu0
        rw [Addr.add_plain] at hu0
        simp only at hu0
        cases hb : w.heap[b]? with
        | none => rw [hb] at hu0; cases hu0
        | some o =>
          rw [hb] at hu0
          cases o <;> simp only [reduceCtorEq] at hu0
          rename_i cs e' fz
          refine ⟨b,off,cs,e',fz,rfl,.inl hb,fun j hj => ?_⟩
          have hi : j / z < len := Nat.div_lt_of_lt_mul (by rw [Nat.mul_comm]; exact hj)
          have ho : j % z < z := Nat.mod_lt _ hz0
          obtain ⟨u,h1,h2⟩ := cell (j / z) (j % z) hi ho
          have ej : j / z * z + j % z = j := by rw [Nat.mul_comm]; exact Nat.div_add_mod j z
          rw [ej] at h1 h2
          unfold World.cell? at h1
          rw [Addr.add_plain] at h1
          simp only [hb] at h1
          simp only [Option.isSome_none,Bool.false_eq_true,if_false] at h1
          rw [h1,h2]
end
theorem rows_of {α : Type} (f : α → List Value) (Q : α → Prop) : ∀ {rows : List (List Value)},(∀ q,q ∈ rows → ∃ x,q = f x ∧ Q x) → ∃ l : List α,rows = l.map f ∧ ∀ x,x ∈ l → Q x
  | [],_ => ⟨[],rfl,fun _ h => by cases h⟩
  | q :: rows,h => by
    obtain ⟨x,rfl,hx⟩ := h q (List.mem_cons_self ..)
    obtain ⟨l,rfl,hl⟩ := rows_of f Q (fun q' h' => h q' (List.mem_cons_of_mem _ h'))
    exact ⟨x :: l,rfl,fun y hy => by rcases List.mem_cons.1 hy with rfl | hy; exact hx; exact hl y hy⟩
theorem cellsAt_of {c : Array Value} : ∀ (vs : List Value) (off : Nat),(∀ o,o < vs.length → c[off + o]? = vs[o]?) → cellsAt c off vs.length = some vs
  | [],_,_ => rfl
  | v :: vs,off,h => by
    have h0 := h 0 (by simp)
    have h1 := cellsAt_of vs (off + 1) (fun o ho => by have := h (o + 1) (by simp; omega); rw [show off + 1 + o = off + (o + 1) from by omega]; simpa using this)
    simp only [List.length_cons,cellsAt]
    rw [show c[off]? = some v from by simpa using h0,h1]
end Go.K
namespace Go.K
open Go.ChangeShapes Go.WideShapes Go.ChangeAt Go.RowKit
section
variable {H : Type} {enc : TypeId × Value → H} {P : Program} {w : World} {base : Nat} {spare : Nat → Bool} {held : Bool}
end
end Go.K
namespace Go.K
section
variable {L : Sl} {V : Vw} {H : Hp}
variable {fn : Func} {B : World} {S : List Nat} {U : Vw} {P : Program} {n : Nat} {R : Value → Vw → Hp → Prop}
end
end Go.K
namespace Go.K
open Go.ChangeShapes Go.WideShapes Go.ChangeAt Go.RowKit
section
variable {H : Type} {enc : TypeId × Value → H} {P : Program} {w : World} {base : Nat} {spare : Nat → Bool} {held : Bool}
end
end Go.K
namespace Go.K
section
variable {P : Program} {ops : Array Oper} {Q : Exit → Act → World → Prop} {md : Region.Mode} {D : World → Prop}
def anyL (P : Program) (md : Region.Mode) (ops : Array Oper) (D : World → Prop) (z : Nat) (Q : Exit → Act → World → Prop) : Nat → Array Bool → Act → World → Prop
  | 0,listed,a,w => Region.ready md ops listed = [] ∧ Q .normal a w
  | f + 1,listed,a,w => (Region.ready md ops listed = [] → Q .normal a w) ∧ ∀ i,i ∈ Region.ready md ops listed → wpOp P ops Q i (fun a' w' => (i ≠ z → D w') ∧ anyL P md ops D z Q f (listed.setIfInBounds i true) a' w') a w
theorem any_of_anyL {z : Nat} : ∀ (f : Nat) (listed : Array Bool) (a : Act) (w : World),anyL P md ops D z Q f listed a w → wpAny P md ops Q f listed a w
  | 0,_,_,_,h => h
  | f + 1,_,_,_,h => ⟨h.1,fun i hi => wpOp_mono (fun a' w' h' => any_of_anyL f _ a' w' h'.2) (h.2 i hi)⟩
def waits (md : Region.Mode) (ops : Array Oper) (z i : Nat) : Bool := match ops[z]? with
  | some o => o.after.any fun e => Region.binds md e && Nat.beq e.on i
  | none => false
theorem waits_spec {z i : Nat} (h : waits md ops z i = true) : ∃ o e,ops[z]? = some o ∧ e ∈ o.after ∧ Region.binds md e = true ∧ e.on = i := by
  unfold waits at h
  split at h
  · rename_i o ho
    obtain ⟨e,he,h2⟩ := Array.any_eq_true'.1 h
    simp only [Bool.and_eq_true] at h2
    exact ⟨o,e,ho,he,h2.1,Nat.eq_of_beq_eq_true h2.2⟩
  · cases h
theorem anyL_take {z i : Nat} {oi : Oper} {v : Value} (hi : ops[i]? = some oi) (hsel : ∀ (j : Nat) (o : Oper) cs b,ops[j]? = some o → o.op ≠ .select cs b) (hQ : ∀ c a w,Q (.panic c) (a.put oi.dst v) w → Q (.panic c) a w) (hz : waits md ops z i = true) (f : Nat) :
    ∀ (listed : Array Bool) (a : Act) (w : World),(∀ j oj,ops[j]? = some oj → j ≠ i → listed.getD j true = false → (∀ e,e ∈ oj.after → Region.binds md e = true → e.on ≠ i) → oi.apart ops oj = true) →
      i ∈ Region.ready md ops listed → D w → YieldsD P ops D oi v a → anyL P md ops D z Q f (listed.setIfInBounds i true) (a.put oi.dst v) w → anyL P md ops D z Q (f + 1) listed a w := by
  induction f with
  | zero =>
    intro listed a w _ hr hw hy hh
    refine ⟨fun h => (by rw [h] at hr; cases hr),fun j hj => ?_⟩
    by_cases e : j = i
    · subst e; exact hy.wpOp hi hw ⟨fun _ => hw,hh⟩
    · have := ready_mono hj e
      rw [hh.1] at this; cases this
  | succ f ih =>
    intro listed a w hfree hr hw hy hh
    refine ⟨fun h => (by rw [h] at hr; cases hr),fun j hj => ?_⟩
    by_cases e : j = i
    · subst e; exact hy.wpOp hi hw ⟨fun _ => hw,hh⟩
    · obtain ⟨hju,oj,hoj,hdeps⟩ := mem_ready.1 hj
      have hjz : j ≠ z := fun q => by
        obtain ⟨oz,ed,h1,h2,h3,h4⟩ := waits_spec hz
        rw [q,h1] at hoj; cases hoj
        have h5 := hdeps ed h2 h3
        rw [h4,getD_both (mem_ready.1 hr).1] at h5
        cases h5
      have hno : ∀ ed,ed ∈ oj.after → Region.binds md ed = true → ed.on ≠ i := fun ed he hb heq => by
        have h1 := hdeps ed he hb
        rw [heq,getD_both (mem_ready.1 hr).1] at h1
        cases h1
      have h2 := wpOp_apart hoj (hfree j oj hoj e hju hno) (fun cs b => hsel i oi cs b hi) (fun cs b => hsel j oj cs b hoj) hQ hy (hh.2 j (ready_mono hj e))
      refine wpOp_mono (fun a' w' ⟨h3,h4',h5⟩ => have h4 := h4' hjz; ⟨fun _ => h4,ih (listed.setIfInBounds j true) a' w' (fun k ok hk hki hku hkn => hfree k ok hk hki ?_ hkn) (ready_mono hr fun q => e q.symm) h4 h3 ?_⟩) h2
      · by_cases q : j = k
        · subst q; exact hju
        · rw [getD_set_ne true q] at hku; exact hku
      · rw [Array.setIfInBounds_comm _ _ e]; exact h5
end
section
variable {C : Cx} {V : Vw} {H : Hp} {L : Sl} {Q : Exit → Act → World → Prop} {ops : Array Oper} {os : List Oper}
variable {ty : TypeId} {pos : String} {aft : Array Edge} {d : Nat}
def RunL (C : Cx) (ops : Array Oper) (S0 : Sg) (z g : Nat) (listed : Array Bool) (V : Vw) (H : Hp) (L : Sl) (Q : Exit → Act → World → Prop) : Prop := ∀ a w,Is C V H L a w → anyL C.P .any ops (DK S0) z Q g listed a w
theorem Tr.anyL {id : Nat} {l : List Oper} (S0 : Sg) (z : Nat) (hm : C.P.follows .mixedOrders = true) (h : RunL C l.toArray S0 z l.toArray.size (Array.replicate l.toArray.size false) V H L Q) : Tr C V H L (.region id l.toArray true) Q :=
  fun a w i => wp_region_any hm (any_of_anyL _ _ _ _ (h a _ ⟨i.1,i.2.drew⟩))
variable {S0 : Sg} {z : Nat}
theorem RunL.done {g : Nat} {listed : Array Bool} (hr : Region.ready .any ops listed = []) (h : Ex C V H L Q .normal) : RunL C ops S0 z g listed V H L Q := fun a w i => by
  cases g with
  | zero => exact ⟨hr,h a w i⟩
  | succ g => exact ⟨fun _ => h a w i,fun j hj => by rw [hr] at hj; cases hj⟩
theorem RunL.one {g i : Nat} {o : Oper} {listed : Array Bool} (hr : Region.ready .any ops listed = [i]) (ho : ops[i]? = some o)
    (h : Run C ops V H L [o] (Exit.then (fun a' w' => (i ≠ z → DK S0 w') ∧ K.anyL C.P .any ops (DK S0) z Q g (listed.setIfInBounds i true) a' w') Q)) : RunL C ops S0 z (g + 1) listed V H L Q := fun a w q =>
  ⟨fun h0 => (by rw [hr] at h0; cases h0),fun j hj => by rw [hr,List.mem_singleton] at hj; subst hj; exact wpOp_of_run ho (h a w q)⟩
theorem RunL.two {g i j : Nat} {o o' : Oper} {listed : Array Bool} (hr : Region.ready .any ops listed = [i,j]) (ho : ops[i]? = some o) (ho' : ops[j]? = some o')
    (h : Run C ops V H L [o] (Exit.then (fun a' w' => (i ≠ z → DK S0 w') ∧ K.anyL C.P .any ops (DK S0) z Q g (listed.setIfInBounds i true) a' w') Q))
    (h' : Run C ops V H L [o'] (Exit.then (fun a' w' => (j ≠ z → DK S0 w') ∧ K.anyL C.P .any ops (DK S0) z Q g (listed.setIfInBounds j true) a' w') Q)) : RunL C ops S0 z (g + 1) listed V H L Q := fun a w q =>
  ⟨fun h0 => (by rw [hr] at h0; cases h0),fun k hk => by
    rw [hr] at hk
    rcases List.mem_cons.1 hk with rfl | hk
    · exact wpOp_of_run ho (h a w q)
    · rw [List.mem_singleton] at hk; subst hk; exact wpOp_of_run ho' (h' a w q)⟩
theorem Ex.anyL {i g : Nat} {listed : Array Bool} (hk : KnAll V H S0) (h : RunL C ops S0 z g listed V H L Q) : Ex C V H L (Exit.then (fun a' w' => (i ≠ z → DK S0 w') ∧ K.anyL C.P .any ops (DK S0) z Q g listed a' w') Q)   .normal := fun a w q => ⟨fun _ b o hb => (hk b o hb).st q.2,h a w q⟩
theorem RunL.take {g i : Nat} {op : Op} {v : Value} {listed : Array Bool} {b : Nat} {o : Obj} (m : Nat) (hm : S0[m]? = some (b,o)) (ho : ops[i]? = some ⟨some d,op,ty,pos,aft,none⟩) (hs : Region.noSelect ops = true) (hf : Region.free .any ops listed i = true)
    (hr : (Region.ready .any ops listed).contains i = true) (hz : waits .any ops z i = true) (hQ : ∀ c a w,Q (.panic c) (a.put (some d) v) w → Q (.panic c) a w) (hd : d < C.n) (hk : KnAll V H S0) (hy : ∀ B,Yl (CK C [(b,o)] B) (VK [(b,o)]) [] L op ty v)
    (h : RunL C ops S0 z g (listed.setIfInBounds i true) V H ((d,v) :: L) Q) : RunL C ops S0 z (g + 1) listed V H L Q := fun a w q =>
  anyL_take ho (Region.noSelect_spec hs) hQ hz g listed a w (Region.free_spec ho hf) (by simpa using hr) (fun b o hb => (hk b o hb).st q.2)
    (.inl ⟨by simp [Region.wanted],fun w' hw' => hy w' _ a w' (Vw.le_refl _) ⟨q.1,stK fun c oc hc => by rw [List.mem_singleton] at hc; cases hc; exact hw' b o (List.mem_of_getElem? hm)⟩ _ rfl rfl⟩) (h _ w ⟨q.1.put hd v,q.2⟩)
theorem RunL.pure {g i : Nat} {op : Op} {v : Value} {listed : Array Bool} (ho : ops[i]? = some ⟨some d,op,ty,pos,aft,none⟩) (hs : Region.noSelect ops = true) (hf : Region.free .any ops listed i = true)
    (hr : (Region.ready .any ops listed).contains i = true) (hz : waits .any ops z i = true) (hQ : ∀ c a w,Q (.panic c) (a.put (some d) v) w → Q (.panic c) a w) (hd : d < C.n) (hk : KnAll V H S0) (hy : ∀ B,Yl (CK C [] B) (VK []) [] L op ty v)
    (h : RunL C ops S0 z g (listed.setIfInBounds i true) V H ((d,v) :: L) Q) : RunL C ops S0 z (g + 1) listed V H L Q := fun a w q =>
  anyL_take ho (Region.noSelect_spec hs) hQ hz g listed a w (Region.free_spec ho hf) (by simpa using hr) (fun b o hb => (hk b o hb).st q.2)
    (.inl ⟨by simp [Region.wanted],fun w' _ => hy w' _ a w' (Vw.le_refl _) ⟨q.1,stK fun c oc hc => by cases hc⟩ _ rfl rfl⟩) (h _ w ⟨q.1.put hd v,q.2⟩)
theorem Ex.anyLz {i g : Nat} {listed : Array Bool} (he : i = z) (h : RunL C ops S0 z g listed V H L Q) : Ex C V H L (Exit.then (fun a' w' => (i ≠ z → DK S0 w') ∧ K.anyL C.P .any ops (DK S0) z Q g listed a' w') Q) .normal := fun a w q => ⟨fun hn => absurd he hn,h a w q⟩
end
end Go.K
namespace Go.K
section
variable {V : Vw} {H : Hp}
theorem Kn.of_nil {b : Nat} {o : Obj} (h : Kn V [] b o) : Kn V H b o := h.imp id (fun h => by cases h)
theorem Ow.open {e : TypeId} {k : Nat} {v : Value} {n : Nat} {xs : List Value} {s : Sg} (h : Ow e k v n xs s) (hn : 0 < n) : ∃ b cap cur,v = .slice (some ⟨b,0,none⟩) n cap ∧ s = [(b,.cells cur e (0,0))] ∧ n ≤ cap ∧ ∀ j,j < n * k → cur[0 + j]? = xs[j]? := by
  obtain ⟨_,⟨_,h2,_⟩ | ⟨b,cap,cur,h1,h2,h3,_,_,h4⟩⟩ := h
  · omega
  · exact ⟨b,cap,cur,h1,h2,h3,fun j hj => by rw [Nat.zero_add]; exact h4 j hj⟩
end
section
variable {C : Cx} {V : Vw} {H : Hp} {L : Sl} {Q : Exit → Act → World → Prop} {ops : Array Oper} {os : List Oper}
theorem Run.show {s : Sg} (k : ∀ V2 : Vw,V.le V2 → (∀ b o,s.lookup b = some o → V2 b = some o) → Run C ops V2 H L os Q) : Run C ops V (s :: H) L os Q := fun a w i =>
  k (fun c => match s.lookup c with | some o => some o | none => V c) (fun b o h => by
    have hn := i.2.vd b o h
    have hl : s.lookup b = none := by
      cases hl : s.lookup b with
      | none => rfl
      | some o' => exact absurd (mem_keys (H := s :: H) (o := o') (by rw [List.flatten_cons]; exact List.mem_append_left _ (lookup_mem hl))) hn
    simp only [hl]; exact h) (fun b o h => by simp only [h]) a w ⟨i.1,i.2.leak⟩
theorem Ow.show {e : TypeId} {k : Nat} {v : Value} {n : Nat} {xs : List Value} {s : Sg} {V2 : Vw} (h : Ow e k v n xs s) (hs : ∀ b o,s.lookup b = some o → V2 b = some o) : Rd V2 H k v n xs := by
  obtain ⟨h1,h2⟩ := h
  refine ⟨h1,?_⟩
  rcases h2 with ⟨rfl,rfl,rfl⟩ | ⟨b,cap,cur,rfl,rfl,h3,h4,h5,h6⟩
  · exact ⟨none,0,rfl,Nat.le_refl _,.inl rfl⟩
  · exact ⟨_,cap,rfl,h3,.inr ⟨b,0,cur,e,(0,0),rfl,.inl (hs b _ (by simp [List.lookup])),fun j hj => by rw [Nat.zero_add]; exact h6 j hj⟩⟩
end
end Go.K
namespace Go.K
def Shows (k : Nat) (v : Value) (n : Nat) (xs : List Value) (s : Sg) : Prop := ∀ V2 : Vw,(∀ b o,s.lookup b = some o → V2 b = some o) → Rd V2 [] k v n xs
theorem Ow.shows {e k : Nat} {v : Value} {n : Nat} {xs : List Value} {s : Sg} (h : Ow e k v n xs s) : Shows k v n xs s := fun V2 hs => h.show hs
section
variable {C : Cx} {V : Vw} {H : Hp} {L : Sl} {Q : Exit → Act → World → Prop} {ops : Array Oper} {os : List Oper}
variable {ty : TypeId} {pos : String} {aft : Array Edge} {d : Nat}
theorem Ex.show {e : Exit} {s : Sg} (k : ∀ V2 : Vw,V.le V2 → (∀ b o,s.lookup b = some o → V2 b = some o) → Ex C V2 H L Q e) : Ex C V (s :: H) L Q e := fun a w i =>
  k (fun c => match s.lookup c with | some o => some o | none => V c) (fun b o h => by
    have hn := i.2.vd b o h
    have hl : s.lookup b = none := by
      cases hl : s.lookup b with
      | none => rfl
      | some o' => exact absurd (mem_keys (H := s :: H) (o := o') (by rw [List.flatten_cons]; exact List.mem_append_left _ (lookup_mem hl))) hn
    simp only [hl]; exact h) (fun b o h => by simp only [h]) a w ⟨i.1,i.2.leak⟩
theorem Ex.keepTo {e : Exit} {H' : Hp} (is : List Nat) (h : (pull is H).2 = H') (k : Ex C V H' L Q e) : Ex C V H L Q e := Ex.keep is (by rw [h]; exact k)
theorem Run.keepTo {H' : Hp} (is : List Nat) (h : (pull is H).2 = H') (k : Run C ops V H' L os Q) : Run C ops V H L os Q := Run.keep is (by rw [h]; exact k)
theorem Run.heapTo {H' : Hp} (h : H = H') (k : Run C ops V H' L os Q) : Run C ops V H L os Q := by subst h; exact k
end
end Go.K
namespace Go.K
section
variable {P : Program} {ops : Array Oper} {Q : Exit → Act → World → Prop} {md : Region.Mode} {D : World → Prop}
def preZ (ops : Array Oper) (z : Nat) (listed : Array Bool) : Prop := ∀ j,z ≤ j → j < ops.size → listed.getD j true = false
theorem preZ.less {z i : Nat} {listed : Array Bool} (h : preZ ops z (listed.setIfInBounds i true)) : preZ ops z listed := fun j hz hj => by
  have := h j hz hj
  by_cases e : i = j
  · subst e; simp only [Array.getD_eq_getD_getElem?,Array.getElem?_setIfInBounds] at this; exfalso; revert this; rw [if_pos trivial]; split <;> simp
  · rwa [getD_set_ne true e] at this
theorem preZ.more {z i : Nat} {listed : Array Bool} (h : preZ ops z listed) (hi : i < z) : preZ ops z (listed.setIfInBounds i true) := fun j hz hj => by
  rw [getD_set_ne true (show i ≠ j by omega)]; exact h j hz hj
def anyT (P : Program) (md : Region.Mode) (ops : Array Oper) (D : World → Prop) (z : Nat) (Q : Exit → Act → World → Prop) : Nat → Array Bool → Act → World → Prop
  | 0,listed,a,w => Region.ready md ops listed = [] ∧ Q .normal a w
  | f + 1,listed,a,w => (Region.ready md ops listed = [] → Q .normal a w) ∧ ∀ i,i ∈ Region.ready md ops listed → wpOp P ops Q i (fun a' w' => (preZ ops z (listed.setIfInBounds i true) → D w') ∧ anyT P md ops D z Q f (listed.setIfInBounds i true) a' w') a w
theorem any_of_anyT {z : Nat} : ∀ (f : Nat) (listed : Array Bool) (a : Act) (w : World),anyT P md ops D z Q f listed a w → wpAny P md ops Q f listed a w
  | 0,_,_,_,h => h
  | f + 1,_,_,_,h => ⟨h.1,fun i hi => wpOp_mono (fun a' w' h' => any_of_anyT f _ a' w' h'.2) (h.2 i hi)⟩
def waitsT (md : Region.Mode) (ops : Array Oper) (z i : Nat) : Bool := match ops[z]? with
  | some o => o.after.any fun e => Region.binds md e && Nat.beq e.on i
  | none => false
theorem waitsT_spec {z i : Nat} (h : waitsT md ops z i = true) : ∃ o e,ops[z]? = some o ∧ e ∈ o.after ∧ Region.binds md e = true ∧ e.on = i := by
  unfold waitsT at h
  split at h
  · rename_i o ho
    obtain ⟨e,he,h2⟩ := Array.any_eq_true'.1 h
    simp only [Bool.and_eq_true] at h2
    exact ⟨o,e,ho,he,h2.1,Nat.eq_of_beq_eq_true h2.2⟩
  · cases h
def waitsAll (md : Region.Mode) (ops : Array Oper) (z i : Nat) : Bool := (List.range ops.size).all fun j => Nat.blt j z || waitsT md ops j i
theorem waitsAll_spec {z i j : Nat} (h : waitsAll md ops z i = true) (hj : j < ops.size) (hz : z ≤ j) : waitsT md ops j i = true := by
  unfold waitsAll at h
  have := List.all_eq_true.1 h j (List.mem_range.2 hj)
  have hb : Nat.blt j z = false := by rw [Bool.eq_false_iff]; intro hc; rw [Nat.blt_eq] at hc; omega
  simpa [hb] using this
theorem anyT_take {z i : Nat} {oi : Oper} {v : Value} (hi : ops[i]? = some oi) (hsel : ∀ (j : Nat) (o : Oper) cs b,ops[j]? = some o → o.op ≠ .select cs b) (hQ : ∀ c a w,Q (.panic c) (a.put oi.dst v) w → Q (.panic c) a w) (hz : waitsAll md ops z i = true) (hiz : i < z) (f : Nat) :
    ∀ (listed : Array Bool) (a : Act) (w : World),(∀ j oj,ops[j]? = some oj → j ≠ i → listed.getD j true = false → (∀ e,e ∈ oj.after → Region.binds md e = true → e.on ≠ i) → oi.apart ops oj = true) →
      i ∈ Region.ready md ops listed → preZ ops z listed → D w → YieldsD P ops D oi v a → anyT P md ops D z Q f (listed.setIfInBounds i true) (a.put oi.dst v) w → anyT P md ops D z Q (f + 1) listed a w := by
  induction f with
  | zero =>
    intro listed a w _ hr hp hw hy hh
    refine ⟨fun h => (by rw [h] at hr; cases hr),fun j hj => ?_⟩
    by_cases e : j = i
    · subst e; exact hy.wpOp hi hw ⟨fun _ => hw,hh⟩
    · have := ready_mono hj e
      rw [hh.1] at this; cases this
  | succ f ih =>
    intro listed a w hfree hr hp hw hy hh
    refine ⟨fun h => (by rw [h] at hr; cases hr),fun j hj => ?_⟩
    by_cases e : j = i
    · subst e; exact hy.wpOp hi hw ⟨fun _ => hw,hh⟩
    · obtain ⟨hju,oj,hoj,hdeps⟩ := mem_ready.1 hj
      have hjz : j < z := Nat.lt_of_not_le fun q => by
        obtain ⟨oz,ed,h1,h2,h3,h4⟩ := waitsT_spec (waitsAll_spec hz (Array.getElem?_eq_some_iff.1 hoj).1 q)
        rw [h1] at hoj; cases hoj
        have h5 := hdeps ed h2 h3
        rw [h4,getD_both (mem_ready.1 hr).1] at h5
        cases h5
      have hno : ∀ ed,ed ∈ oj.after → Region.binds md ed = true → ed.on ≠ i := fun ed he hb heq => by
        have h1 := hdeps ed he hb
        rw [heq,getD_both (mem_ready.1 hr).1] at h1
        cases h1
      have h2 := wpOp_apart hoj (hfree j oj hoj e hju hno) (fun cs b => hsel i oi cs b hi) (fun cs b => hsel j oj cs b hoj) hQ hy (hh.2 j (ready_mono hj e))
      refine wpOp_mono (fun a' w' ⟨h3,h4',h5⟩ => have h4 := h4' ((hp.more hiz).more hjz); ⟨fun _ => h4,ih (listed.setIfInBounds j true) a' w' (fun k ok hk hki hku hkn => hfree k ok hk hki ?_ hkn) (ready_mono hr fun q => e q.symm) (hp.more hjz) h4 h3 ?_⟩) h2
      · by_cases q : j = k
        · subst q; exact hju
        · rw [getD_set_ne true q] at hku; exact hku
      · rw [Array.setIfInBounds_comm _ _ e]; exact h5
theorem anyT_pure {z i : Nat} {oi : Oper} {v : Value} (hi : ops[i]? = some oi) (hsel : ∀ (j : Nat) (o : Oper) cs b,ops[j]? = some o → o.op ≠ .select cs b) (hQ : ∀ c a w,Q (.panic c) (a.put oi.dst v) w → Q (.panic c) a w) (hiz : i < z) (f : Nat) :
    ∀ (listed : Array Bool) (a : Act) (w : World),(∀ j oj,ops[j]? = some oj → j ≠ i → listed.getD j true = false → (∀ e,e ∈ oj.after → Region.binds md e = true → e.on ≠ i) → oi.apart ops oj = true) →
      i ∈ Region.ready md ops listed → (preZ ops z listed → D w) → YieldsD P ops (fun _ => True) oi v a → anyT P md ops D z Q f (listed.setIfInBounds i true) (a.put oi.dst v) w → anyT P md ops D z Q (f + 1) listed a w := by
  induction f with
  | zero =>
    intro listed a w _ hr hw hy hh
    refine ⟨fun h => (by rw [h] at hr; cases hr),fun j hj => ?_⟩
    by_cases e : j = i
    · subst e; exact hy.wpOp hi trivial ⟨fun h => hw h.less,hh⟩
    · have := ready_mono hj e
      rw [hh.1] at this; cases this
  | succ f ih =>
    intro listed a w hfree hr hw hy hh
    refine ⟨fun h => (by rw [h] at hr; cases hr),fun j hj => ?_⟩
    by_cases e : j = i
    · subst e; exact hy.wpOp hi trivial ⟨fun h => hw h.less,hh⟩
    · obtain ⟨hju,oj,hoj,hdeps⟩ := mem_ready.1 hj
      have hno : ∀ ed,ed ∈ oj.after → Region.binds md ed = true → ed.on ≠ i := fun ed he hb heq => by
        have h1 := hdeps ed he hb
        rw [heq,getD_both (mem_ready.1 hr).1] at h1
        cases h1
      have h2 := wpOp_apart hoj (hfree j oj hoj e hju hno) (fun cs b => hsel i oi cs b hi) (fun cs b => hsel j oj cs b hoj) hQ hy (hh.2 j (ready_mono hj e))
      have hm : preZ ops z (listed.setIfInBounds j true) → preZ ops z ((listed.setIfInBounds i true).setIfInBounds j true) := fun h => by
        rw [Array.setIfInBounds_comm _ _ (fun q => e q.symm)]; exact h.more hiz
      refine wpOp_mono (fun a' w' ⟨h3,h4',h5⟩ => ⟨fun h => h4' (hm h),ih (listed.setIfInBounds j true) a' w' (fun k ok hk hki hku hkn => hfree k ok hk hki ?_ hkn) (ready_mono hr fun q => e q.symm) (fun h => h4' (hm h)) h3 ?_⟩) h2
      · by_cases q : j = k
        · subst q; exact hju
        · rw [getD_set_ne true q] at hku; exact hku
      · rw [Array.setIfInBounds_comm _ _ e]; exact h5
end
section
variable {C : Cx} {V : Vw} {H : Hp} {L : Sl} {Q : Exit → Act → World → Prop} {ops : Array Oper} {os : List Oper}
variable {ty : TypeId} {pos : String} {aft : Array Edge} {d : Nat}
def RunT (C : Cx) (ops : Array Oper) (S0 : Sg) (z g : Nat) (listed : Array Bool) (V : Vw) (H : Hp) (L : Sl) (Q : Exit → Act → World → Prop) : Prop := ∀ a w,Is C V H L a w → anyT C.P .any ops (DK S0) z Q g listed a w
theorem Tr.anyT {id : Nat} {l : List Oper} (S0 : Sg) (z : Nat) (hm : C.P.follows .mixedOrders = true) (h : RunT C l.toArray S0 z l.toArray.size (Array.replicate l.toArray.size false) V H L Q) : Tr C V H L (.region id l.toArray true) Q :=
  fun a w i => wp_region_any hm (any_of_anyT _ _ _ _ (h a _ ⟨i.1,i.2.drew⟩))
variable {S0 : Sg} {z : Nat}
theorem RunT.done {g : Nat} {listed : Array Bool} (hr : Region.ready .any ops listed = []) (h : Ex C V H L Q .normal) : RunT C ops S0 z g listed V H L Q := fun a w i => by
  cases g with
  | zero => exact ⟨hr,h a w i⟩
  | succ g => exact ⟨fun _ => h a w i,fun j hj => by rw [hr] at hj; cases hj⟩
theorem RunT.one {g i : Nat} {o : Oper} {listed : Array Bool} (hr : Region.ready .any ops listed = [i]) (ho : ops[i]? = some o)
    (h : Run C ops V H L [o] (Exit.then (fun a' w' => (preZ ops z (listed.setIfInBounds i true) → DK S0 w') ∧ K.anyT C.P .any ops (DK S0) z Q g (listed.setIfInBounds i true) a' w') Q)) : RunT C ops S0 z (g + 1) listed V H L Q := fun a w q =>
  ⟨fun h0 => (by rw [hr] at h0; cases h0),fun j hj => by rw [hr,List.mem_singleton] at hj; subst hj; exact wpOp_of_run ho (h a w q)⟩
theorem Ex.anyTz {i g : Nat} {listed : Array Bool} (he : listed.getD i false = true) (hz : Nat.ble z i = true) (hi : Nat.blt i ops.size = true) (h : RunT C ops S0 z g listed V H L Q) : Ex C V H L (Exit.then (fun a' w' => (preZ ops z listed → DK S0 w') ∧ K.anyT C.P .any ops (DK S0) z Q g listed a' w') Q) .normal := fun a w q =>
  ⟨fun hn => by
    have h1 := hn i (Nat.le_of_ble_eq_true hz) (by rw [Nat.blt_eq] at hi; exact hi)
    rw [Array.getD_eq_getD_getElem?] at he h1
    cases h2 : listed[i]? with
    | none => rw [h2] at he; cases he
    | some x => rw [h2] at he h1; simp at he h1; rw [he] at h1; exact absurd h1 (by simp),h a w q⟩
def noneZ (ops : Array Oper) (z : Nat) (listed : Array Bool) : Bool := (List.range ops.size).all fun j => Nat.blt j z || !(listed.getD j true)
theorem noneZ_spec {listed : Array Bool} (h : noneZ ops z listed = true) : preZ ops z listed := fun j hz hj => by
  have := List.all_eq_true.1 h j (List.mem_range.2 hj)
  have hb : Nat.blt j z = false := by rw [Bool.eq_false_iff]; intro hc; rw [Nat.blt_eq] at hc; omega
  simpa [hb] using this
theorem RunT.take {g i : Nat} {op : Op} {v : Value} {listed : Array Bool} {b : Nat} {o : Obj} (m : Nat) (hm : S0[m]? = some (b,o)) (ho : ops[i]? = some ⟨some d,op,ty,pos,aft,none⟩) (hs : Region.noSelect ops = true) (hf : Region.free .any ops listed i = true)
    (hr : (Region.ready .any ops listed).contains i = true) (hz : (waitsAll .any ops z i && noneZ ops z listed && Nat.blt i z) = true) (hQ : ∀ c a w,Q (.panic c) (a.put (some d) v) w → Q (.panic c) a w) (hd : d < C.n) (hk : KnAll V H S0) (hy : ∀ B,Yl (CK C [(b,o)] B) (VK [(b,o)]) [] L op ty v)
    (h : RunT C ops S0 z g (listed.setIfInBounds i true) V H ((d,v) :: L) Q) : RunT C ops S0 z (g + 1) listed V H L Q := fun a w q => by
  simp only [Bool.and_eq_true,Nat.blt_eq] at hz
  exact anyT_take ho (Region.noSelect_spec hs) hQ hz.1.1 hz.2 g listed a w (Region.free_spec ho hf) (by simpa using hr) (noneZ_spec hz.1.2) (fun b o hb => (hk b o hb).st q.2)
    (.inl ⟨by simp [Region.wanted],fun w' hw' => hy w' _ a w' (Vw.le_refl _) ⟨q.1,stK fun c oc hc => by rw [List.mem_singleton] at hc; cases hc; exact hw' b o (List.mem_of_getElem? hm)⟩ _ rfl rfl⟩) (h _ w ⟨q.1.put hd v,q.2⟩)
theorem RunT.pure {g i : Nat} {op : Op} {v : Value} {listed : Array Bool} (ho : ops[i]? = some ⟨some d,op,ty,pos,aft,none⟩) (hs : Region.noSelect ops = true) (hf : Region.free .any ops listed i = true)
    (hr : (Region.ready .any ops listed).contains i = true) (hz : Nat.blt i z = true) (hQ : ∀ c a w,Q (.panic c) (a.put (some d) v) w → Q (.panic c) a w) (hd : d < C.n) (hk : KnAll V H S0) (hy : ∀ B,Yl (CK C [] B) (VK []) [] L op ty v)
    (h : RunT C ops S0 z g (listed.setIfInBounds i true) V H ((d,v) :: L) Q) : RunT C ops S0 z (g + 1) listed V H L Q := fun a w q =>
  anyT_pure ho (Region.noSelect_spec hs) hQ (by rw [Nat.blt_eq] at hz; exact hz) g listed a w (Region.free_spec ho hf) (by simpa using hr) (fun _ b o hb => (hk b o hb).st q.2)
    (.inl ⟨by simp [Region.wanted],fun w' _ => hy w' _ a w' (Vw.le_refl _) ⟨q.1,stK fun c oc hc => by cases hc⟩ _ rfl rfl⟩) (h _ w ⟨q.1.put hd v,q.2⟩)
end
end Go.K
namespace Go.K
open Go.ChangeShapes Go.WideShapes Go.ChangeAt Go.RowKit
inductive Sh where
  | tag (g : Nat × IntKind)
  | sl (e : TypeId) (z : Nat)
section
variable {H : Type} {enc : TypeId × Value → H} {P : Program} {w : World} {base : Nat} {spare : Nat → Bool} {held : Bool}
end
end Go.K
namespace Go.K
open Go.ChangeShapes Go.WideShapes Go.ChangeAt Go.RowKit
end Go.K
