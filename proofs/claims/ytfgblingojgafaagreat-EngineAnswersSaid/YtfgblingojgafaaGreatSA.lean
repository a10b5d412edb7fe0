/- More rules of the walks: an array's element by value; equal strings; a row's argument is a plain value.
Conditions: none; nothing here speaks of a program. -/
import Derived.Test.YtfgblingojgafaaGreatKA
import Derived.WalkKit
import Derived.ProofKit
import Derived.OpenShut
import Derived.Laws.FloatArith
import Derived.Sort.LotA
import Derived.Sort.LotB
import Derived.Sort.LotC
import Derived.Sort.LotD3
set_option linter.unusedSimpArgs false
set_option linter.unusedVariables false
set_option linter.unusedSectionVars false
namespace Go.K
section
variable {C : Cx} {V : Vw} {H : Hp} {L : Sl} {ty : TypeId}
def arrS (P : Program) (t : TypeId) : Option Nat := match P.underlying t with
  | some (.array n e) => if scal P e && (sizeT P e == some 1) then some n else none
  | _ => none
theorem Y.idxAgg {x y : Operand} {t : TypeId} {n : Nat} {cs : Array Value} {k : IntKind} {j : Int} {v : Value} (hx : ev L x = some (.agg cs)) (hy : ev L y = some (.int k j)) (ht : arrS C.P t = some n) (h0 : 0 <= j) (h1 : j.toNat < n) (hv : cs[j.toNat]? = some v) :
    Yl C V H L (.index t x y) ty v := (fun V2 a w hle i o ho hty => by
  unfold arrS at ht
  cases hu : C.P.underlying t with
  | none => rw [hu] at ht; cases ht
  | some u =>
    rw [hu] at ht
    cases u <;> simp only [reduceCtorEq] at ht
    rename_i n' e
    split at ht
    · rename_i hse
      cases ht
      rw [Bool.and_eq_true,beq_iff_eq] at hse
      have hs' := run_sizeOf (w := w) hse.2
      have hp := run_part (P := C.P) (w := w) (cs := cs) hse.1 hv
      have hj : 0 <= j /\ j < (n : Int) := ⟨h0,by omega⟩
      simp [execOp,ho,i.1.ev hx,i.1.ev hy,Instr.index,asIntOf,run_underlying hu,hs',hj,hp]
    · cases ht)
end
end Go.K
namespace Go.K
open Go.ChangeShapes Go.WideShapes Go.ChangeAt Go.RowKit
section
variable {H : Type} {enc : TypeId × Value -> H} {P : Program} {w : World} {base : Nat} {spare : Nat -> Bool} {held : Bool}
def wfV : Nat × IntKind -> Value -> Prop
  | (0,k),.int k' n => k' = k /\ (Lit.int k n).wf = true
  | (1,_),.bool _ => True
  | (2,_),.string s => s.size <= 9223372036854775807
  | _,_ => False
def wfVs : List (Nat × IntKind) -> List Value -> Prop
  | [],[] => True
  | g :: gs,v :: vs => wfV g v /\ wfVs gs vs
  | _,_ => False
theorem trod_tag {t : TypeId} {g : Nat × IntKind} {fuel : Nat} {cs : List Value} {x : DataW H × List MemPlace} (ht : tagOf P t = some g) (h : DataW.trod enc P w base spare held fuel t cs = some x) : ∃ v,cs = [v] /\ wfV g v := by
  unfold tagOf at ht
  cases hu : P.underlying t with
  | none => rw [hu] at ht; cases ht
  | some u =>
    rw [hu] at ht
    cases u <;> simp only [reduceCtorEq,Option.some.injEq] at ht
    · subst ht; obtain ⟨b,rfl,_⟩ := DataW.trod_bool hu h; exact ⟨_,rfl,trivial⟩
    · subst ht; obtain ⟨n,rfl,_,hw⟩ := DataW.trod_int hu h; exact ⟨_,rfl,rfl,hw⟩
    · subst ht; obtain ⟨s,rfl,_,hs⟩ := DataW.trod_string hu h; exact ⟨_,rfl,by unfold maxLen at hs; exact hs⟩
def flatFrom (P : Program) : Nat -> List Field -> Option (List (Nat × IntKind))
  | _,[] => some []
  | j,f :: fs => if f.offset = j /\ P.cellsOf f.type = 1 then match tagOf P f.type,flatFrom P (j + 1) fs with
    | some g,some gs => some (g :: gs)
    | _,_ => none
    else none
def flat (P : Program) (t : TypeId) : Option (List (Nat × IntKind)) := match P.underlying t with
  | some (.struct fs) => if P.cellsOf t = fs.size then flatFrom P 0 fs.toList else none
  | _ => none
theorem wfVs_cons {g : Nat × IntKind} {gs : List (Nat × IntKind)} {cs : List Value} (h : wfVs (g :: gs) cs) : ∃ v vs,cs = v :: vs /\ wfV g v /\ wfVs gs vs := by
  cases cs with
  | nil => exact h.elim
  | cons v vs => exact ⟨v,vs,rfl,h.1,h.2⟩
theorem wfVs_nil {cs : List Value} (h : wfVs [] cs) : cs = [] := by
  cases cs with
  | nil => rfl
  | cons v vs => exact h.elim
theorem wfV_int {k : IntKind} {v : Value} (h : wfV (0,k) v) : ∃ n,v = .int k n /\ (Lit.int k n).wf = true := by
  cases v <;> simp only [wfV] at h
  obtain ⟨rfl,h⟩ := h; exact ⟨_,rfl,h⟩
theorem wfV_bool {k : IntKind} {v : Value} (h : wfV (1,k) v) : ∃ b,v = .bool b := by
  cases v <;> simp only [wfV] at h
  exact ⟨_,rfl⟩
theorem wfV_str {k : IntKind} {v : Value} (h : wfV (2,k) v) : ∃ s,v = .string s /\ s.size <= 9223372036854775807 := by
  cases v <;> simp only [wfV] at h
  exact ⟨_,rfl,h⟩
def allV (W : World) : Vw := fun b => W.heap[b]?
theorem St.all (W : World) : St W [] (allV W) (allV W) [] W :=
  ⟨rfl,rfl,rfl,Nat.le_refl _,fun _ _ _ => rfl,fun _ _ h => (by cases h),List.nodup_nil,fun _ h => (by cases h),Vw.le_refl _,fun _ _ h => h,fun _ _ _ h => (by cases h),fun _ _ h => .inl h⟩
theorem St.below {W W' : World} {V : Vw} {H : Hp} (h : St W [] (allV W) V H W') : Below W.heap.size W W' := ⟨h.os,h.tape,h.output,h.size,fun b hb => h.fr b hb (by simp)⟩
theorem trodAll_below (hl : laidOutB P = true) {W W' : World} (hb : Below W.heap.size W W') : ∀ {ts : List TypeId} {vs : List Value} {ds : List (DataW H)} {ps : List MemPlace},(ts.all fun t => P.readableRec t && decide (t < P.types.size)) = true ->
    DataW.TrodAll enc P W 0 (fun _ => true) true ts vs ds ps -> (∀ x ∈ ps,x.block < W.heap.size) -> DataW.TrodAll enc P W' 0 (fun b => decide (b < W.heap.size)) true ts vs ds ps
  | [],_,_,_,_,h,_ => by obtain ⟨rfl,rfl,rfl⟩ := trodAll_nil h; exact trodAll_mk0
  | t :: ts,_,_,_,hr,h,hlt => by
    obtain ⟨v,vs,d,ds,p,q,rfl,rfl,rfl,h0,r0⟩ := trodAll_cons h
    simp only [List.all_cons,Bool.and_eq_true,decide_eq_true_eq] at hr
    exact trodAll_cons_mk (Below.trod hl hr.1.1 hr.1.2 h0 hb (fun x hx => hlt x (List.mem_append_left _ hx))) (trodAll_below hl hb hr.2 r0 (fun x hx => hlt x (List.mem_append_right _ hx)))
theorem trodAll_len : ∀ {ts : List TypeId} {vs : List Value} {ds : List (DataW H)} {ps : List MemPlace},DataW.TrodAll enc P w base spare held ts vs ds ps -> ds.length = ts.length
  | [],_,_,_,h => by obtain ⟨_,rfl,_⟩ := trodAll_nil h; rfl
  | t :: ts,_,_,_,h => by
    obtain ⟨v,vs,d,ds,p,q,rfl,rfl,rfl,h0,r0⟩ := trodAll_cons h
    simp [trodAll_len r0]
theorem law_lifted {a : Assume} {C : Checked} {os : Os} {f : FuncId} {fn : Func} {s : ChangeSpec} {conds : List PathCond} {apart : Bool} {tb : TypeId} (own : ownKnob C.prog.godebug = none) (started : os.Started) (noInit : C.prog.inits.idxOf? f = none) (hfn : C.prog.funcs[f]? = some fn)
    (witness : ∃ (w : World) (tape : Tape) (i : Input),w.os = os /\ (w.forCall tape i).Shaped C.prog /\ i.vars = [] /\ Input.okWide C.prog (w.forCall tape i) .any w.heap.size f i /\
      s.pre6 enc C.prog fn conds apart (w.forCall tape i).memory i.args /\ a.holds C.prog (lone (Frame.enter C.prog f i.args .normal) [] (w.forCall tape i)))
    (hl : laidOutB C.prog = true) (hpar : (fn.params.toList.all fun t => C.prog.readableRec t && decide (t < C.prog.types.size)) = true) (hvars : s.vars = []) (hres : fn.resultTypes = #[tb]) (htb : C.prog.underlying tb = some .bool)
    (hspec : ∀ ds : List (DataW H),ds.length = fn.params.toList.length -> s.fn H ds = { results := [.lit (.bool true)],args := ds })
    (walk : ∀ (W : World) (base : Nat) (args : Array Value) (ds : List (DataW H)) (ps : List MemPlace),(∀ (j : Nat) t v,fn.params[j]? = some t -> args[j]? = some v -> Value.okWide C.prog W .any base t v) -> DataW.TrodAll enc C.prog W 0 (fun _ => true) true fn.params.toList args.toList ds ps ->
      Does C.prog f args.toList (allV W) [] (fun v _ _ => v = .bool true)) :
    ReturnsInHanded a C os f .any (s.pre6 enc C.prog fn conds apart) (s.post enc C.prog fn apart true false false) := by
  refine returnsInHanded_of_change own started noInit hfn witness ?_
  intro W base args ds gs before hval hW _ _
  have hW' := hW
  have hlt := fun x hx => hW.lt x hx
  obtain ⟨p,q,hA,hV,hbef,hfz,hnd⟩ := hW
  rw [hvars] at hV
  obtain ⟨rfl,rfl⟩ := trodVars_none hV
  rw [List.append_nil] at hbef
  subst hbef
  have := (walk W base args ds before hval hA).2 W (St.all W)
  rw [Array.toArray_toList] at this
  refine this.mono fun e W' ⟨v,V',H',he,hv,hst⟩ => ⟨v,he,?_⟩
  subst hv
  have hb := St.below hst
  have hsp := hspec ds (trodAll_len hA)
  refine ⟨ds,[],before,[],before,[],hW',?_,?_,?_,hb.frame _,fun h => by cases h⟩
  · rw [List.append_nil,hsp,hres]; exact trodAll_mk1 (shut_bool htb true)
  · rw [List.append_nil,hsp]; exact trodAll_below hl hb hpar hA hlt
  · rw [List.append_nil,hsp,hvars]; rfl
end
end Go.K
namespace Go.K
section
variable {P : Program} {w : World}
end
section
variable {C : Cx} {V : Vw} {H : Hp} {L : Sl} {Q : Exit -> Act -> World -> Prop} {ops : Array Oper} {os : List Oper}
variable {ty : TypeId} {pos : String} {aft : Array Edge} {d : Nat}
theorem Run.buildSlice0 {t et : TypeId} {z : Nat} (ht : elemS C.P t = some (et,z)) (hd : d < C.n)
    (k : ∀ b,Run C ops V ([(b,.cells #[] et)] :: H) ((d,.slice (some ⟨b,0,none⟩) 0 0) :: L) os Q) :
    Run C ops V H L (⟨some d,.buildSlice t 0 #[],ty,pos,aft,none⟩ :: os) Q :=
  Run.step (p := fun v V' H' => ∃ b,v = .slice (some ⟨b,0,none⟩) 0 0 /\ V' = V /\ H' = [(b,.cells #[] et)] :: H) hd
    (fun a w i => by
      have hu := (under_elemS ht).1
      have hs := run_sizeOf (w := w) (under_elemS ht).2
      refine ⟨_,_,V,_,?_,⟨_,rfl,rfl,rfl⟩,i.2.alloc _⟩
      simp [execOp,Instr.buildSlice,run_underlying hu,hs,Instr.fill,newRow]
      rw [show Array.range 0 = #[] from by simp,Array.map_empty])
    (fun v V' H' ⟨b,h1,h2,h3⟩ => by subst h1 h2 h3; exact k b)
end
end Go.K
namespace Go.K
open Go.ChangeShapes Go.WideShapes Go.ChangeAt Go.RowKit
section
variable {H : Type} {enc : TypeId × Value -> H} {P : Program} {w : World} {held : Bool}
end
end Go.K
namespace Go.K
section
variable {C : Cx} {V : Vw} {H : Hp} {L : Sl} {ty : TypeId}
def ptrT (P : Program) (t : TypeId) : Bool := match P.underlying t with
  | some (.pointer _) => true
  | _ => false
theorem run_equal_nil {P : Program} {w : World} {t : TypeId} (ht : ptrT P t = true) (p : Option Addr) : (Op.equal t (.pointer p) (.pointer none)).run P w = .ok p.isNone w := by
  have hu : ∃ e,P.underlying t = some (.pointer e) := by
    unfold ptrT at ht; split at ht
    · exact ⟨_,‹_›⟩
    · cases ht
  obtain ⟨e,hu⟩ := hu
  unfold Op.equal
  rw [show Op.maxDepth = 9999 + 1 from rfl,Op.equalIn]
  cases p <;> simp [run_underlying hu]
theorem Y.eqNil {x y : Operand} {t t' : TypeId} {p : Option Addr} (hx : ev L x = some (.pointer p)) (hy : ev L y = some (.pointer none)) (ht : ptrT C.P t = true) : Yl C V H L (.binOp .eql t x y t') ty (.bool p.isNone) := (fun V2 a w hle i o ho hty => by
  have hg : (eqGuard .eql t x y (.pointer p) (.pointer none)).run C.P w = .ok () w := rfl
  simp only [execOp,ho,i.1.ev hx,i.1.ev hy,Sem.run_bind,hg,Result.andThen_ok,binOp,run_equal_nil ht,Sem.run_pure])
theorem Y.neNil {x y : Operand} {t t' : TypeId} {p : Option Addr} (hx : ev L x = some (.pointer p)) (hy : ev L y = some (.pointer none)) (ht : ptrT C.P t = true) : Yl C V H L (.binOp .neq t x y t') ty (.bool (!p.isNone)) := (fun V2 a w hle i o ho hty => by
  have hg : (eqGuard .neq t x y (.pointer p) (.pointer none)).run C.P w = .ok () w := rfl
  simp only [execOp,ho,i.1.ev hx,i.1.ev hy,Sem.run_bind,hg,Result.andThen_ok,binOp,run_equal_nil ht,Sem.run_pure])
theorem Y.eqI_t {x y : Operand} {k : IntKind} {m : Int} {t t' : TypeId} (hx : ev L x = some (.int k m)) (hy : ev L y = some (.int k m)) : Yl C V H L (.binOp .eql t x y t') ty (.bool true) := Y.int hx hy (by simp [intRes])
theorem Y.eqB_t {x y : Operand} {b : Bool} {t t' : TypeId} (hx : ev L x = some (.bool b)) (hy : ev L y = some (.bool b)) (ht : tagOf C.P t = some (1,.i64)) : Yl C V H L (.binOp .eql t x y t') ty (.bool true) := by
  have := Y.eqB (C := C) (V := V) (H := H) (ty := ty) (t' := t') hx hy ht
  rw [beq_self_eq_true] at this; exact this
end
section
variable {C : Cx} {V : Vw} {H : Hp} {L : Sl} {Q : Exit -> Act -> World -> Prop} {ops : Array Oper} {os : List Oper} {K : Act -> World -> Prop}
theorem Run.off_u {o : Oper} {j : Nat} {t : Bool} {d dd : Nat} (hg : o.guard = some (j,t)) (hj : ((ops[j]?).bind (·.dst)) = some d) (hb : L.lookup d = some undef) (hd : o.dst = some dd) (hn : dd < C.n)
    (k : Run C ops V H ((dd,undef) :: L) os Q) : Run C ops V H L (o :: os) Q := fun a w i => by
  have hw : Region.wanted o (yielded ops a.tmps) = false := by
    simp only [Region.wanted,hg,yielded,hj,Option.bind_some,i.1.lk d _ hb]; cases t <;> rfl
  unfold wpList
  rw [if_neg (by simp [hw]),hd]
  exact k _ _ ⟨i.1.put hn _,i.2⟩
end
section
variable {L : Sl} {V : Vw} {H : Hp}
variable {fn : Func} {B : World} {S : List Nat} {U : Vw} {P : Program} {n : Nat} {R : Value -> Vw -> Hp -> Prop}
theorem Ex.retCellT {t ad b off z : Nat} {c : Array Value} {e : TypeId} {fz : Nat × Nat} {vs : List Value} {H0 : Hp} (m : Nat) (hr : fn.results = #[.cell ad t]) (hv : L.lookup ad = some (.pointer (some ⟨b,off,none⟩))) (ht : aggsz P t = some z) (hk : Kn V H b (.cells c e fz)) (hc : cellsAt c off z = some vs)
    (h0 : H = H.take m ++ H0) (hR : R (.agg vs.toArray) V H0) : Ex ⟨P,n,B,S,U,[]⟩ V H L (bodyPost P fn fun e w' => ∃ v V' H',e = .returned v /\ R v V' H' /\ St B S U V' H' w') .ret := fun a w i => by
  refine ⟨i.1.df,.agg vs.toArray,?_,_,V,H0,rfl,hR,?_⟩
  · have h1 := run_isAgg_agg (w := w) ht
    have h2 : a.tmps[ad]?.getD undef = .pointer (some ⟨b,off,none⟩) := by rw [i.1.lk _ _ hv]; rfl
    have h3 := run_loadCells (P := P) (hk.st i.2) off z 0 vs #[] hc
    simp [results,hr,Array.getD_eq_getD_getElem?,h2,asAddr,loadVar,h1.1,h1.2,loadCells,h3]
  · have := i.2; rw [h0] at this; exact this.drop
end
end Go.K
namespace Go.K
open Go.ChangeShapes Go.WideShapes Go.ChangeAt Go.RowKit
section
variable {H : Type} {enc : TypeId × Value -> H} {P : Program} {w : World} {base : Nat} {spare : Nat -> Bool} {held : Bool}
def flatFields (F : TypeId -> Option (List (Nat × IntKind))) (P : Program) : Nat -> List Field -> Option (List (Nat × IntKind))
  | _,[] => some []
  | j,f :: fs => if f.offset = j then match F f.type with
    | some g => if g.length = P.cellsOf f.type then match flatFields F P (j + g.length) fs with
      | some gs => some (g ++ gs)
      | none => none
      else none
    | none => none
    else none
def flatN (P : Program) : Nat -> TypeId -> Option (List (Nat × IntKind))
  | 0,_ => none
  | d + 1,t => match tagOf P t with
    | some g => if P.cellsOf t = 1 then some [g] else none
    | none => match P.underlying t with
      | some (.struct fs) => match flatFields (flatN P d) P 0 fs.toList with
        | some gs => if gs.length = P.cellsOf t then some gs else none
        | none => none
      | some (.array n e) => match flatN P d e with
        | some gs => if gs.length = P.cellsOf e /\ n * gs.length = P.cellsOf t then some (List.replicate n gs).flatten else none
        | none => none
      | _ => none
theorem wfVs_append : ∀ {gs hs : List (Nat × IntKind)} {xs ys : List Value},wfVs gs xs -> wfVs hs ys -> wfVs (gs ++ hs) (xs ++ ys)
  | [],_,[],_,_,h => h
  | [],_,_ :: _,_,h,_ => h.elim
  | _ :: _,_,[],_,h,_ => h.elim
  | _ :: _,_,_ :: _,_,h,k => ⟨h.1,wfVs_append h.2 k⟩
theorem wfVs_len : ∀ {gs : List (Nat × IntKind)} {xs : List Value},wfVs gs xs -> xs.length = gs.length
  | [],[],_ => rfl
  | [],_ :: _,h => h.elim
  | _ :: _,[],h => h.elim
  | _ :: _,_ :: _,h => by simp [wfVs_len h.2]
theorem wfVs_fields {F : TypeId -> Option (List (Nat × IntKind))} {cs : List Value} : ∀ (l : List Field) (j : Nat) (gs : List (Nat × IntKind)),flatFields F P j l = some gs -> cs.length = j + gs.length ->
    (∀ (f : Field),f ∈ l -> ∀ g,F f.type = some g -> wfVs g ((cs.drop f.offset).take (P.cellsOf f.type))) -> wfVs gs (cs.drop j)
  | [],j,gs,hf,hl,_ => by
    cases hf
    rw [List.drop_eq_nil_of_le (by simpa using Nat.le_of_eq hl)]; trivial
  | f :: fs,j,gs,hf,hl,hc => by
    unfold flatFields at hf
    split at hf
    · rename_i ho
      split at hf
      · rename_i g hg
        split at hf
        · rename_i hlen
          split at hf
          · rename_i gs' h2
            cases hf
            have h1 := hc f (List.mem_cons_self ..) g hg
            rw [ho,<- hlen] at h1
            have h3 := wfVs_fields fs (j + g.length) gs' h2 (by rw [hl,List.length_append]; omega) (fun f' hf' => hc f' (List.mem_cons_of_mem _ hf'))
            have e : cs.drop j = (cs.drop j).take g.length ++ cs.drop (j + g.length) := by rw [<- List.drop_drop,List.take_append_drop]
            rw [e]
            exact wfVs_append h1 h3
          · cases hf
        · cases hf
      · cases hf
    · cases hf
theorem wfVs_rep {gs : List (Nat × IntKind)} : ∀ (n : Nat) (cs : List Value),cs.length = n * gs.length -> (∀ i,i < n -> wfVs gs ((cs.drop (i * gs.length)).take gs.length)) -> wfVs (List.replicate n gs).flatten cs
  | 0,cs,hl,_ => by
    have : cs = [] := List.length_eq_zero_iff.1 (by simpa using hl)
    subst this; trivial
  | n + 1,cs,hl,h => by
    rw [List.replicate_succ,List.flatten_cons,<- List.take_append_drop gs.length cs]
    refine wfVs_append (by simpa using h 0 (by omega)) (wfVs_rep n _ (by rw [List.length_drop,hl,Nat.succ_mul]; omega) fun i hi => ?_)
    have := h (i + 1) (by omega)
    rw [List.drop_drop,show gs.length + i * gs.length = (i + 1) * gs.length from by rw [Nat.succ_mul]; omega]
    exact this
theorem trod_flatN : ∀ (d : Nat) {t : TypeId} {gs : List (Nat × IntKind)} {fuel : Nat} {cs : List Value} {x : DataW H × List MemPlace},flatN P d t = some gs -> DataW.trod enc P w base spare held fuel t cs = some x -> wfVs gs cs
  | 0,_,_,_,_,_,h,_ => by cases h
  | d + 1,t,gs,fuel,cs,x,h,hd => by
    unfold flatN at h
    split at h
    · rename_i g hg
      split at h
      · cases h
        obtain ⟨v,rfl,hw⟩ := trod_tag hg hd
        exact ⟨hw,trivial⟩
      · cases h
    · split at h
      · rename_i fs hu
        split at h
        · rename_i gs' hf
          split at h
          · rename_i hsz
            cases h
            obtain ⟨xs,n,rfl,rfl,hlen,hxl,hfl⟩ := DataW.trod_struct hu hd
            have := wfVs_fields (P := P) (cs := cs) fs.toList 0 gs hf (by rw [hlen,hsz]; simp) (fun f hm g hg => by
              obtain ⟨i,hi⟩ := List.mem_iff_getElem?.1 hm
              have hi' : fs[i]? = some f := by simpa using hi
              have hlt : i < fs.size := (Array.getElem?_eq_some_iff.1 hi').1
              have h1 := hfl i f hi'
              rw [List.getElem?_eq_getElem (by omega)] at h1
              exact trod_flatN d hg h1)
            simpa using this
          · cases h
        · cases h
      · rename_i n e hu
        split at h
        · rename_i gs' hf
          split at h
          · rename_i hsz
            cases h
            obtain ⟨xs,m,_,_,hlen,hxl,hel⟩ := DataW.trod_array hu hd
            refine wfVs_rep n cs (by rw [hlen,hsz.2]) fun i hi => ?_
            have h1 := hel i hi
            rw [List.getElem?_eq_getElem (by omega)] at h1
            have h2 := trod_flatN d hf h1
            rw [hsz.1]; exact h2
          · cases h
        · cases h
      · cases h
theorem flatten_at {z : Nat} : ∀ (rows : List (List Value)) (i o : Nat),(∀ r,r ∈ rows -> r.length = z) -> o < z -> rows.flatten[i * z + o]? = (rows[i]?).bind (·[o]?)
  | [],i,o,_,_ => by simp
  | r :: rows,0,o,h,ho => by
    have hr := h r (List.mem_cons_self ..)
    simp only [List.flatten_cons,Nat.zero_mul,Nat.zero_add,List.getElem?_cons_zero,Option.bind_some]
    rw [List.getElem?_append_left (by omega)]
  | r :: rows,i + 1,o,h,ho => by
    have hr := h r (List.mem_cons_self ..)
    simp only [List.flatten_cons,List.getElem?_cons_succ]
    rw [List.getElem?_append_right (by rw [hr,Nat.succ_mul]; omega),hr,show (i + 1) * z + o - z = i * z + o from by rw [Nat.succ_mul]; omega]
    exact flatten_at rows i o (fun r' h' => h r' (List.mem_cons_of_mem _ h')) ho
theorem open_rows {r : Reach} {b0 : Nat} {t e : TypeId} {z d : Nat} {gs : List (Nat × IntKind)} {v : Value} {dd : DataW H} {ps : List MemPlace} (ht : elemS P t = some (e,z)) (hg : flatN P d e = some gs) (hc : P.cellsOf e = z) (hz : gs.length = z) (hz0 : 0 < z)
    (hv : Value.okWide P w r b0 t v) (h : DataW.Trod enc P w base spare held t v dd ps) : ∃ rows : List (List Value),Rd (allV w) [] z v rows.length rows.flatten /\ rows.length <= 9223372036854775807 /\ ∀ q,q ∈ rows -> wfVs gs q := by
  have hu := (under_elemS ht).1
  obtain ⟨a0,len,cap,rfl⟩ := okWide_slice hu hv
  obtain ⟨fuel,hf⟩ := h
  rcases DataW.trod_slice hu (by simpa [Value.cells] using hf) with ⟨hcs,_⟩ | ⟨a,len',cap',elems,rest,n,_,hcs,_,hb,hl,hm,hlen,hel,_,_⟩
  · simp only [List.cons.injEq,and_true] at hcs
    cases hcs
    exact ⟨[],⟨by simp,none,0,rfl,Nat.le_refl _,.inl rfl⟩,by simp,fun q hq => by cases hq⟩
  · simp only [List.cons.injEq,and_true] at hcs
    cases hcs
    rw [hc] at hel
    have each : ∀ i,i < len -> ∃ cs,w.cells? base (a.add (i * z)) z = some cs /\ wfVs gs cs := fun i hi => by
      have h1 := hel i hi
      rw [List.getElem?_eq_getElem (by omega)] at h1
      cases hq : w.cells? base (a.add (i * z)) z with
      | none => rw [hq] at h1; cases h1
      | some cs => rw [hq] at h1; exact ⟨cs,rfl,trod_flatN d hg h1⟩
    let rows : List (List Value) := (List.range len).map fun i => (w.cells? base (a.add (i * z)) z).getD []
    have hrl : rows.length = len := by simp [rows]
    have hrow : ∀ i,i < len -> ∃ cs,rows[i]? = some cs /\ w.cells? base (a.add (i * z)) z = some cs /\ wfVs gs cs := fun i hi => by
      obtain ⟨cs,h1,h2⟩ := each i hi
      exact ⟨cs,by simp [rows,List.getElem?_map,List.getElem?_range,hi,h1],h1,h2⟩
    have hall : ∀ q,q ∈ rows -> wfVs gs q := fun q hq => by
      obtain ⟨i,hi⟩ := List.mem_iff_getElem?.1 hq
      have hlt : i < len := by rw [<- hrl]; exact (List.getElem?_eq_some_iff.1 hi).1
      obtain ⟨cs,h1,_,h3⟩ := hrow i hlt
      rw [hi] at h1; cases h1; exact h3
    have hlens : ∀ q,q ∈ rows -> q.length = z := fun q hq => by rw [wfVs_len (hall q hq),hz]
    refine ⟨rows,?_,by rw [hrl]; unfold maxLen at hm; omega,hall⟩
    refine ⟨?_,some a,cap,by rw [hrl],by rw [hrl]; exact hl,?_⟩
    · clear hel each hrow hall
      have : ∀ (l : List (List Value)),(∀ q,q ∈ l -> q.length = z) -> l.flatten.length = l.length * z := fun l => by
        induction l with
        | nil => intro _; simp
        | cons q l ih => intro hh; rw [List.flatten_cons,List.length_append,ih (fun q' h' => hh q' (List.mem_cons_of_mem _ h')),hh q (List.mem_cons_self ..),List.length_cons,Nat.succ_mul]; omega
      exact this rows hlens
    · rw [hrl]
      by_cases h0 : len = 0
      · exact .inl h0
      · right
        have cell : ∀ i o,i < len -> o < z -> ∃ u,w.cell? (a.add (i * z + o)) = some u /\ rows.flatten[i * z + o]? = some u := fun i o hi ho => by
          obtain ⟨cs,h1,h2,h3⟩ := hrow i hi
          obtain ⟨_,hl2,hcell⟩ := World.cells?_some h2
          have h4 := hcell o ho
          rw [flatten_at rows i o hlens ho,h1]
          have h5 : o < cs.length := by rw [wfVs_len h3,hz]; exact ho
          rw [List.getElem?_eq_getElem h5] at h4
          refine ⟨cs[o],?_,by simp [List.getElem?_eq_getElem h5]⟩
          rw [<- h4]; congr 1
          unfold Addr.add
          by_cases k1 : i * z = 0 <;> by_cases k2 : o = 0 <;> simp_all [Nat.add_assoc]
        obtain ⟨b,off,spot⟩ := a
        obtain ⟨u,hu0,_⟩ := cell 0 0 (by omega) hz0
        have hspot : spot = none := by simpa [Addr.add] using World.cell?_spot hu0
        subst hspot
        unfold World.cell? at hu0
        rw [Addr.add_plain] at hu0
        simp only at hu0
        cases hb : w.heap[b]? with
        | none => rw [hb] at hu0; cases hu0
        | some o =>
          rw [hb] at hu0
          cases o <;> simp only [reduceCtorEq] at hu0
          rename_i cs e' fz
          refine ⟨b,off,cs,e',fz,rfl,.inl hb,fun j hj => ?_⟩
          have hi : j / z < len := Nat.div_lt_of_lt_mul (by rw [Nat.mul_comm]; exact hj)
          have ho : j % z < z := Nat.mod_lt _ hz0
          obtain ⟨u,h1,h2⟩ := cell (j / z) (j % z) hi ho
          have ej : j / z * z + j % z = j := by rw [Nat.mul_comm]; exact Nat.div_add_mod j z
          rw [ej] at h1 h2
          unfold World.cell? at h1
          rw [Addr.add_plain] at h1
          simp only [hb] at h1
          simp only [Option.isSome_none,Bool.false_eq_true,if_false] at h1
          rw [h1,h2]
end
theorem rows_of {α : Type} (f : α -> List Value) (Q : α -> Prop) : ∀ {rows : List (List Value)},(∀ q,q ∈ rows -> ∃ x,q = f x /\ Q x) -> ∃ l : List α,rows = l.map f /\ ∀ x,x ∈ l -> Q x
  | [],_ => ⟨[],rfl,fun _ h => by cases h⟩
  | q :: rows,h => by
    obtain ⟨x,rfl,hx⟩ := h q (List.mem_cons_self ..)
    obtain ⟨l,rfl,hl⟩ := rows_of f Q (fun q' h' => h q' (List.mem_cons_of_mem _ h'))
    exact ⟨x :: l,rfl,fun y hy => by rcases List.mem_cons.1 hy with rfl | hy; exact hx; exact hl y hy⟩
theorem cellsAt_of {c : Array Value} : ∀ (vs : List Value) (off : Nat),(∀ o,o < vs.length -> c[off + o]? = vs[o]?) -> cellsAt c off vs.length = some vs
  | [],_,_ => rfl
  | v :: vs,off,h => by
    have h0 := h 0 (by simp)
    have h1 := cellsAt_of vs (off + 1) (fun o ho => by have := h (o + 1) (by simp; omega); rw [show off + 1 + o = off + (o + 1) from by omega]; simpa using this)
    simp only [List.length_cons,cellsAt]
    rw [show c[off]? = some v from by simpa using h0,h1]
theorem row_at {α : Type} {f : α -> List Value} {z n off : Nat} {cs : Array Value} {l : List α} (hz : ∀ x,(f x).length = z) (h : ∀ j,j < n * z -> cs[off + j]? = (l.map f).flatten[j]?) {i : Nat} (hi : i < l.length) (hn : l.length <= n) (d : α) :
    ∀ o,o < z -> cs[off + (i : Int).toNat * z + o]? = (f (l.getD i d))[o]? := fun o ho => by
  have h1 : i * z + o < n * z := by
    have : (i + 1) * z <= n * z := Nat.mul_le_mul_right _ (by omega)
    rw [Nat.succ_mul] at this; omega
  rw [Int.toNat_natCast,Nat.add_assoc,h _ h1,flatten_at (z := z) _ i o (fun r hr => by obtain ⟨x,_,rfl⟩ := List.mem_map.1 hr; exact hz x) ho]
  rw [List.getElem?_map,List.getElem?_eq_getElem hi]
  simp [List.getD_eq_getElem?_getD,List.getElem?_eq_getElem hi]
end Go.K
namespace Go.K
open Go.ChangeShapes Go.WideShapes Go.ChangeAt Go.RowKit
section
variable {H : Type} {enc : TypeId × Value -> H} {P : Program} {w : World} {base : Nat} {spare : Nat -> Bool} {held : Bool}
end
end Go.K
namespace Go.K
section
variable {L : Sl} {V : Vw} {H : Hp}
variable {fn : Func} {B : World} {S : List Nat} {U : Vw} {P : Program} {n : Nat} {R : Value -> Vw -> Hp -> Prop}
end
end Go.K
namespace Go.K
open Go.ChangeShapes Go.WideShapes Go.ChangeAt Go.RowKit
section
variable {H : Type} {enc : TypeId × Value -> H} {P : Program} {w : World} {base : Nat} {spare : Nat -> Bool} {held : Bool}
theorem trod_float {t : TypeId} {k : FloatKind} {fuel : Nat} {cs : List Value} {x : DataW H × List MemPlace} (ht : P.underlying t = some (.float k)) (h : DataW.trod enc P w base spare held fuel t cs = some x) : ∃ b,cs = [.float k b] /\ x = (.lit (.float k b),[]) /\ (Lit.float k b).wf = true := by
  cases fuel with
  | zero => simp [DataW.trod] at h
  | succ n =>
    unfold DataW.trod at h
    rw [ht] at h
    split at h <;> simp_all
end
end Go.K
namespace Go.K
section
variable {P : Program} {ops : Array Oper} {Q : Exit -> Act -> World -> Prop} {md : Region.Mode} {D : World -> Prop}
def anyL (P : Program) (md : Region.Mode) (ops : Array Oper) (D : World -> Prop) (z : Nat) (Q : Exit -> Act -> World -> Prop) : Nat -> Array Bool -> Act -> World -> Prop
  | 0,listed,a,w => Region.ready md ops listed = [] /\ Q .normal a w
  | f + 1,listed,a,w => (Region.ready md ops listed = [] -> Q .normal a w) /\ ∀ i,i ∈ Region.ready md ops listed -> wpOp P ops Q i (fun a' w' => (i ≠ z -> D w') /\ anyL P md ops D z Q f (listed.setIfInBounds i true) a' w') a w
theorem any_of_anyL {z : Nat} : ∀ (f : Nat) (listed : Array Bool) (a : Act) (w : World),anyL P md ops D z Q f listed a w -> wpAny P md ops Q f listed a w
  | 0,_,_,_,h => h
  | f + 1,_,_,_,h => ⟨h.1,fun i hi => wpOp_mono (fun a' w' h' => any_of_anyL f _ a' w' h'.2) (h.2 i hi)⟩
def waits (md : Region.Mode) (ops : Array Oper) (z i : Nat) : Bool := match ops[z]? with
  | some o => o.after.any fun e => Region.binds md e && Nat.beq e.on i
  | none => false
theorem waits_spec {z i : Nat} (h : waits md ops z i = true) : ∃ o e,ops[z]? = some o /\ e ∈ o.after /\ Region.binds md e = true /\ e.on = i := by
  unfold waits at h
  split at h
  · rename_i o ho
    obtain ⟨e,he,h2⟩ := Array.any_eq_true'.1 h
    simp only [Bool.and_eq_true] at h2
    exact ⟨o,e,ho,he,h2.1,Nat.eq_of_beq_eq_true h2.2⟩
  · cases h
theorem anyL_take {z i : Nat} {oi : Oper} {v : Value} (hi : ops[i]? = some oi) (hsel : ∀ (j : Nat) (o : Oper) cs b,ops[j]? = some o -> o.op ≠ .select cs b) (hQ : ∀ c a w,Q (.panic c) (a.put oi.dst v) w -> Q (.panic c) a w) (hz : waits md ops z i = true) (f : Nat) :
    ∀ (listed : Array Bool) (a : Act) (w : World),(∀ j oj,ops[j]? = some oj -> j ≠ i -> listed.getD j true = false -> (∀ e,e ∈ oj.after -> Region.binds md e = true -> e.on ≠ i) -> oi.apart ops oj = true) ->
      i ∈ Region.ready md ops listed -> D w -> YieldsD P ops D oi v a -> anyL P md ops D z Q f (listed.setIfInBounds i true) (a.put oi.dst v) w -> anyL P md ops D z Q (f + 1) listed a w := by
  induction f with
  | zero =>
    intro listed a w _ hr hw hy hh
    refine ⟨fun h => (by rw [h] at hr; cases hr),fun j hj => ?_⟩
    by_cases e : j = i
    · subst e; exact hy.wpOp hi hw ⟨fun _ => hw,hh⟩
    · have := ready_mono hj e
      rw [hh.1] at this; cases this
  | succ f ih =>
    intro listed a w hfree hr hw hy hh
    refine ⟨fun h => (by rw [h] at hr; cases hr),fun j hj => ?_⟩
    by_cases e : j = i
    · subst e; exact hy.wpOp hi hw ⟨fun _ => hw,hh⟩
    · obtain ⟨hju,oj,hoj,hdeps⟩ := mem_ready.1 hj
      have hjz : j ≠ z := fun q => by
        obtain ⟨oz,ed,h1,h2,h3,h4⟩ := waits_spec hz
        rw [q,h1] at hoj; cases hoj
        have h5 := hdeps ed h2 h3
        rw [h4,getD_both (mem_ready.1 hr).1] at h5
        cases h5
      have hno : ∀ ed,ed ∈ oj.after -> Region.binds md ed = true -> ed.on ≠ i := fun ed he hb heq => by
        have h1 := hdeps ed he hb
        rw [heq,getD_both (mem_ready.1 hr).1] at h1
        cases h1
      have h2 := wpOp_apart hoj (hfree j oj hoj e hju hno) (fun cs b => hsel i oi cs b hi) (fun cs b => hsel j oj cs b hoj) hQ hy (hh.2 j (ready_mono hj e))
      refine wpOp_mono (fun a' w' ⟨h3,h4',h5⟩ => have h4 := h4' hjz; ⟨fun _ => h4,ih (listed.setIfInBounds j true) a' w' (fun k ok hk hki hku hkn => hfree k ok hk hki ?_ hkn) (ready_mono hr fun q => e q.symm) h4 h3 ?_⟩) h2
      · by_cases q : j = k
        · subst q; exact hju
        · rw [getD_set_ne true q] at hku; exact hku
      · rw [Array.setIfInBounds_comm _ _ e]; exact h5
end
section
variable {C : Cx} {V : Vw} {H : Hp} {L : Sl} {Q : Exit -> Act -> World -> Prop} {ops : Array Oper} {os : List Oper}
variable {ty : TypeId} {pos : String} {aft : Array Edge} {d : Nat}
def RunL (C : Cx) (ops : Array Oper) (S0 : Sg) (z g : Nat) (listed : Array Bool) (V : Vw) (H : Hp) (L : Sl) (Q : Exit -> Act -> World -> Prop) : Prop := ∀ a w,Is C V H L a w -> anyL C.P .any ops (DK S0) z Q g listed a w
theorem Tr.anyL {id : Nat} {l : List Oper} (S0 : Sg) (z : Nat) (hm : C.P.follows .mixedOrders = true) (h : RunL C l.toArray S0 z l.toArray.size (Array.replicate l.toArray.size false) V H L Q) : Tr C V H L (.region id l.toArray true) Q :=
  fun a w i => wp_region_any hm (any_of_anyL _ _ _ _ (h a _ ⟨i.1,i.2.drew⟩))
variable {S0 : Sg} {z : Nat}
theorem RunL.done {g : Nat} {listed : Array Bool} (hr : Region.ready .any ops listed = []) (h : Ex C V H L Q .normal) : RunL C ops S0 z g listed V H L Q := fun a w i => by
  cases g with
  | zero => exact ⟨hr,h a w i⟩
  | succ g => exact ⟨fun _ => h a w i,fun j hj => by rw [hr] at hj; cases hj⟩
theorem RunL.one {g i : Nat} {o : Oper} {listed : Array Bool} (hr : Region.ready .any ops listed = [i]) (ho : ops[i]? = some o)
    (h : Run C ops V H L [o] (Exit.then (fun a' w' => (i ≠ z -> DK S0 w') /\ K.anyL C.P .any ops (DK S0) z Q g (listed.setIfInBounds i true) a' w') Q)) : RunL C ops S0 z (g + 1) listed V H L Q := fun a w q =>
  ⟨fun h0 => (by rw [hr] at h0; cases h0),fun j hj => by rw [hr,List.mem_singleton] at hj; subst hj; exact wpOp_of_run ho (h a w q)⟩
theorem RunL.two {g i j : Nat} {o o' : Oper} {listed : Array Bool} (hr : Region.ready .any ops listed = [i,j]) (ho : ops[i]? = some o) (ho' : ops[j]? = some o')
    (h : Run C ops V H L [o] (Exit.then (fun a' w' => (i ≠ z -> DK S0 w') /\ K.anyL C.P .any ops (DK S0) z Q g (listed.setIfInBounds i true) a' w') Q))
    (h' : Run C ops V H L [o'] (Exit.then (fun a' w' => (j ≠ z -> DK S0 w') /\ K.anyL C.P .any ops (DK S0) z Q g (listed.setIfInBounds j true) a' w') Q)) : RunL C ops S0 z (g + 1) listed V H L Q := fun a w q =>
  ⟨fun h0 => (by rw [hr] at h0; cases h0),fun k hk => by
    rw [hr] at hk
    rcases List.mem_cons.1 hk with rfl | hk
    · exact wpOp_of_run ho (h a w q)
    · rw [List.mem_singleton] at hk; subst hk; exact wpOp_of_run ho' (h' a w q)⟩
theorem Ex.anyL {i g : Nat} {listed : Array Bool} (hk : KnAll V H S0) (h : RunL C ops S0 z g listed V H L Q) : Ex C V H L (Exit.then (fun a' w' => (i ≠ z -> DK S0 w') /\ K.anyL C.P .any ops (DK S0) z Q g listed a' w') Q)   .normal := fun a w q => ⟨fun _ b o hb => (hk b o hb).st q.2,h a w q⟩
theorem RunL.take {g i : Nat} {op : Op} {v : Value} {listed : Array Bool} {b : Nat} {o : Obj} (m : Nat) (hm : S0[m]? = some (b,o)) (ho : ops[i]? = some ⟨some d,op,ty,pos,aft,none⟩) (hs : Region.noSelect ops = true) (hf : Region.free .any ops listed i = true)
    (hr : (Region.ready .any ops listed).contains i = true) (hz : waits .any ops z i = true) (hQ : ∀ c a w,Q (.panic c) (a.put (some d) v) w -> Q (.panic c) a w) (hd : d < C.n) (hk : KnAll V H S0) (hy : ∀ B,Yl (CK C [(b,o)] B) (VK [(b,o)]) [] L op ty v)
    (h : RunL C ops S0 z g (listed.setIfInBounds i true) V H ((d,v) :: L) Q) : RunL C ops S0 z (g + 1) listed V H L Q := fun a w q =>
  anyL_take ho (Region.noSelect_spec hs) hQ hz g listed a w (Region.free_spec ho hf) (by simpa using hr) (fun b o hb => (hk b o hb).st q.2)
    (.inl ⟨by simp [Region.wanted],fun w' hw' => hy w' _ a w' (Vw.le_refl _) ⟨q.1,stK fun c oc hc => by rw [List.mem_singleton] at hc; cases hc; exact hw' b o (List.mem_of_getElem? hm)⟩ _ rfl rfl⟩) (h _ w ⟨q.1.put hd v,q.2⟩)
theorem RunL.pure {g i : Nat} {op : Op} {v : Value} {listed : Array Bool} (ho : ops[i]? = some ⟨some d,op,ty,pos,aft,none⟩) (hs : Region.noSelect ops = true) (hf : Region.free .any ops listed i = true)
    (hr : (Region.ready .any ops listed).contains i = true) (hz : waits .any ops z i = true) (hQ : ∀ c a w,Q (.panic c) (a.put (some d) v) w -> Q (.panic c) a w) (hd : d < C.n) (hk : KnAll V H S0) (hy : ∀ B,Yl (CK C [] B) (VK []) [] L op ty v)
    (h : RunL C ops S0 z g (listed.setIfInBounds i true) V H ((d,v) :: L) Q) : RunL C ops S0 z (g + 1) listed V H L Q := fun a w q =>
  anyL_take ho (Region.noSelect_spec hs) hQ hz g listed a w (Region.free_spec ho hf) (by simpa using hr) (fun b o hb => (hk b o hb).st q.2)
    (.inl ⟨by simp [Region.wanted],fun w' _ => hy w' _ a w' (Vw.le_refl _) ⟨q.1,stK fun c oc hc => by cases hc⟩ _ rfl rfl⟩) (h _ w ⟨q.1.put hd v,q.2⟩)
theorem Ex.anyLz {i g : Nat} {listed : Array Bool} (he : i = z) (h : RunL C ops S0 z g listed V H L Q) : Ex C V H L (Exit.then (fun a' w' => (i ≠ z -> DK S0 w') /\ K.anyL C.P .any ops (DK S0) z Q g listed a' w') Q) .normal := fun a w q => ⟨fun hn => absurd he hn,h a w q⟩
end
end Go.K
namespace Go.K
section
variable {V : Vw} {H : Hp}
theorem Kn.of_nil {b : Nat} {o : Obj} (h : Kn V [] b o) : Kn V H b o := h.imp id (fun h => by cases h)
theorem Ow.open {e : TypeId} {k : Nat} {v : Value} {n : Nat} {xs : List Value} {s : Sg} (h : Ow e k v n xs s) (hn : 0 < n) : ∃ b cap cur,v = .slice (some ⟨b,0,none⟩) n cap /\ s = [(b,.cells cur e (0,0))] /\ n <= cap /\ ∀ j,j < n * k -> cur[0 + j]? = xs[j]? := by
  obtain ⟨_,⟨_,h2,_⟩ | ⟨b,cap,cur,h1,h2,h3,_,_,h4⟩⟩ := h
  · omega
  · exact ⟨b,cap,cur,h1,h2,h3,fun j hj => by rw [Nat.zero_add]; exact h4 j hj⟩
end
section
variable {C : Cx} {V : Vw} {H : Hp} {L : Sl} {Q : Exit -> Act -> World -> Prop} {ops : Array Oper} {os : List Oper}
theorem Run.show {s : Sg} (k : ∀ V2 : Vw,V.le V2 -> (∀ b o,s.lookup b = some o -> V2 b = some o) -> Run C ops V2 H L os Q) : Run C ops V (s :: H) L os Q := fun a w i =>
  k (fun c => match s.lookup c with | some o => some o | none => V c) (fun b o h => by
    have hn := i.2.vd b o h
    have hl : s.lookup b = none := by
      cases hl : s.lookup b with
      | none => rfl
      | some o' => exact absurd (mem_keys (H := s :: H) (o := o') (by rw [List.flatten_cons]; exact List.mem_append_left _ (lookup_mem hl))) hn
    simp only [hl]; exact h) (fun b o h => by simp only [h]) a w ⟨i.1,i.2.leak⟩
theorem Ow.show {e : TypeId} {k : Nat} {v : Value} {n : Nat} {xs : List Value} {s : Sg} {V2 : Vw} (h : Ow e k v n xs s) (hs : ∀ b o,s.lookup b = some o -> V2 b = some o) : Rd V2 H k v n xs := by
  obtain ⟨h1,h2⟩ := h
  refine ⟨h1,?_⟩
  rcases h2 with ⟨rfl,rfl,rfl⟩ | ⟨b,cap,cur,rfl,rfl,h3,h4,h5,h6⟩
  · exact ⟨none,0,rfl,Nat.le_refl _,.inl rfl⟩
  · exact ⟨_,cap,rfl,h3,.inr ⟨b,0,cur,e,(0,0),rfl,.inl (hs b _ (by simp [List.lookup])),fun j hj => by rw [Nat.zero_add]; exact h6 j hj⟩⟩
end
end Go.K
namespace Go.K
def Shows (k : Nat) (v : Value) (n : Nat) (xs : List Value) (s : Sg) : Prop := ∀ V2 : Vw,(∀ b o,s.lookup b = some o -> V2 b = some o) -> Rd V2 [] k v n xs
theorem Ow.shows {e k : Nat} {v : Value} {n : Nat} {xs : List Value} {s : Sg} (h : Ow e k v n xs s) : Shows k v n xs s := fun V2 hs => h.show hs
section
variable {C : Cx} {V : Vw} {H : Hp} {L : Sl} {Q : Exit -> Act -> World -> Prop} {ops : Array Oper} {os : List Oper}
variable {ty : TypeId} {pos : String} {aft : Array Edge} {d : Nat}
theorem Ex.show {e : Exit} {s : Sg} (k : ∀ V2 : Vw,V.le V2 -> (∀ b o,s.lookup b = some o -> V2 b = some o) -> Ex C V2 H L Q e) : Ex C V (s :: H) L Q e := fun a w i =>
  k (fun c => match s.lookup c with | some o => some o | none => V c) (fun b o h => by
    have hn := i.2.vd b o h
    have hl : s.lookup b = none := by
      cases hl : s.lookup b with
      | none => rfl
      | some o' => exact absurd (mem_keys (H := s :: H) (o := o') (by rw [List.flatten_cons]; exact List.mem_append_left _ (lookup_mem hl))) hn
    simp only [hl]; exact h) (fun b o h => by simp only [h]) a w ⟨i.1,i.2.leak⟩
theorem Ex.keepTo {e : Exit} {H' : Hp} (is : List Nat) (h : (pull is H).2 = H') (k : Ex C V H' L Q e) : Ex C V H L Q e := Ex.keep is (by rw [h]; exact k)
theorem Run.keepTo {H' : Hp} (is : List Nat) (h : (pull is H).2 = H') (k : Run C ops V H' L os Q) : Run C ops V H L os Q := Run.keep is (by rw [h]; exact k)
theorem Run.heapTo {H' : Hp} (h : H = H') (k : Run C ops V H' L os Q) : Run C ops V H L os Q := by subst h; exact k
end
end Go.K
namespace Go.K
section
variable {P : Program} {ops : Array Oper} {Q : Exit -> Act -> World -> Prop} {md : Region.Mode} {D : World -> Prop}
def preZ (ops : Array Oper) (z : Nat) (listed : Array Bool) : Prop := ∀ j,z <= j -> j < ops.size -> listed.getD j true = false
theorem preZ.less {z i : Nat} {listed : Array Bool} (h : preZ ops z (listed.setIfInBounds i true)) : preZ ops z listed := fun j hz hj => by
  have := h j hz hj
  by_cases e : i = j
  · subst e; simp only [Array.getD_eq_getD_getElem?,Array.getElem?_setIfInBounds] at this; exfalso; revert this; rw [if_pos trivial]; split <;> simp
  · rwa [getD_set_ne true e] at this
theorem preZ.more {z i : Nat} {listed : Array Bool} (h : preZ ops z listed) (hi : i < z) : preZ ops z (listed.setIfInBounds i true) := fun j hz hj => by
  rw [getD_set_ne true (show i ≠ j by omega)]; exact h j hz hj
def anyT (P : Program) (md : Region.Mode) (ops : Array Oper) (D : World -> Prop) (z : Nat) (Q : Exit -> Act -> World -> Prop) : Nat -> Array Bool -> Act -> World -> Prop
  | 0,listed,a,w => Region.ready md ops listed = [] /\ Q .normal a w
  | f + 1,listed,a,w => (Region.ready md ops listed = [] -> Q .normal a w) /\ ∀ i,i ∈ Region.ready md ops listed -> wpOp P ops Q i (fun a' w' => (preZ ops z (listed.setIfInBounds i true) -> D w') /\ anyT P md ops D z Q f (listed.setIfInBounds i true) a' w') a w
theorem any_of_anyT {z : Nat} : ∀ (f : Nat) (listed : Array Bool) (a : Act) (w : World),anyT P md ops D z Q f listed a w -> wpAny P md ops Q f listed a w
  | 0,_,_,_,h => h
  | f + 1,_,_,_,h => ⟨h.1,fun i hi => wpOp_mono (fun a' w' h' => any_of_anyT f _ a' w' h'.2) (h.2 i hi)⟩
def waitsT (md : Region.Mode) (ops : Array Oper) (z i : Nat) : Bool := match ops[z]? with
  | some o => o.after.any fun e => Region.binds md e && Nat.beq e.on i
  | none => false
theorem waitsT_spec {z i : Nat} (h : waitsT md ops z i = true) : ∃ o e,ops[z]? = some o /\ e ∈ o.after /\ Region.binds md e = true /\ e.on = i := by
  unfold waitsT at h
  split at h
  · rename_i o ho
    obtain ⟨e,he,h2⟩ := Array.any_eq_true'.1 h
    simp only [Bool.and_eq_true] at h2
    exact ⟨o,e,ho,he,h2.1,Nat.eq_of_beq_eq_true h2.2⟩
  · cases h
def waitsAll (md : Region.Mode) (ops : Array Oper) (z i : Nat) : Bool := (List.range ops.size).all fun j => Nat.blt j z || waitsT md ops j i
theorem waitsAll_spec {z i j : Nat} (h : waitsAll md ops z i = true) (hj : j < ops.size) (hz : z <= j) : waitsT md ops j i = true := by
  unfold waitsAll at h
  have := List.all_eq_true.1 h j (List.mem_range.2 hj)
  have hb : Nat.blt j z = false := by rw [Bool.eq_false_iff]; intro hc; rw [Nat.blt_eq] at hc; omega
  simpa [hb] using this
theorem anyT_take {z i : Nat} {oi : Oper} {v : Value} (hi : ops[i]? = some oi) (hsel : ∀ (j : Nat) (o : Oper) cs b,ops[j]? = some o -> o.op ≠ .select cs b) (hQ : ∀ c a w,Q (.panic c) (a.put oi.dst v) w -> Q (.panic c) a w) (hz : waitsAll md ops z i = true) (hiz : i < z) (f : Nat) :
    ∀ (listed : Array Bool) (a : Act) (w : World),(∀ j oj,ops[j]? = some oj -> j ≠ i -> listed.getD j true = false -> (∀ e,e ∈ oj.after -> Region.binds md e = true -> e.on ≠ i) -> oi.apart ops oj = true) ->
      i ∈ Region.ready md ops listed -> preZ ops z listed -> D w -> YieldsD P ops D oi v a -> anyT P md ops D z Q f (listed.setIfInBounds i true) (a.put oi.dst v) w -> anyT P md ops D z Q (f + 1) listed a w := by
  induction f with
  | zero =>
    intro listed a w _ hr hp hw hy hh
    refine ⟨fun h => (by rw [h] at hr; cases hr),fun j hj => ?_⟩
    by_cases e : j = i
    · subst e; exact hy.wpOp hi hw ⟨fun _ => hw,hh⟩
    · have := ready_mono hj e
      rw [hh.1] at this; cases this
  | succ f ih =>
    intro listed a w hfree hr hp hw hy hh
    refine ⟨fun h => (by rw [h] at hr; cases hr),fun j hj => ?_⟩
    by_cases e : j = i
    · subst e; exact hy.wpOp hi hw ⟨fun _ => hw,hh⟩
    · obtain ⟨hju,oj,hoj,hdeps⟩ := mem_ready.1 hj
      have hjz : j < z := Nat.lt_of_not_le fun q => by
        obtain ⟨oz,ed,h1,h2,h3,h4⟩ := waitsT_spec (waitsAll_spec hz (Array.getElem?_eq_some_iff.1 hoj).1 q)
        rw [h1] at hoj; cases hoj
        have h5 := hdeps ed h2 h3
        rw [h4,getD_both (mem_ready.1 hr).1] at h5
        cases h5
      have hno : ∀ ed,ed ∈ oj.after -> Region.binds md ed = true -> ed.on ≠ i := fun ed he hb heq => by
        have h1 := hdeps ed he hb
        rw [heq,getD_both (mem_ready.1 hr).1] at h1
        cases h1
      have h2 := wpOp_apart hoj (hfree j oj hoj e hju hno) (fun cs b => hsel i oi cs b hi) (fun cs b => hsel j oj cs b hoj) hQ hy (hh.2 j (ready_mono hj e))
      refine wpOp_mono (fun a' w' ⟨h3,h4',h5⟩ => have h4 := h4' ((hp.more hiz).more hjz); ⟨fun _ => h4,ih (listed.setIfInBounds j true) a' w' (fun k ok hk hki hku hkn => hfree k ok hk hki ?_ hkn) (ready_mono hr fun q => e q.symm) (hp.more hjz) h4 h3 ?_⟩) h2
      · by_cases q : j = k
        · subst q; exact hju
        · rw [getD_set_ne true q] at hku; exact hku
      · rw [Array.setIfInBounds_comm _ _ e]; exact h5
theorem anyT_pure {z i : Nat} {oi : Oper} {v : Value} (hi : ops[i]? = some oi) (hsel : ∀ (j : Nat) (o : Oper) cs b,ops[j]? = some o -> o.op ≠ .select cs b) (hQ : ∀ c a w,Q (.panic c) (a.put oi.dst v) w -> Q (.panic c) a w) (hiz : i < z) (f : Nat) :
    ∀ (listed : Array Bool) (a : Act) (w : World),(∀ j oj,ops[j]? = some oj -> j ≠ i -> listed.getD j true = false -> (∀ e,e ∈ oj.after -> Region.binds md e = true -> e.on ≠ i) -> oi.apart ops oj = true) ->
      i ∈ Region.ready md ops listed -> (preZ ops z listed -> D w) -> YieldsD P ops (fun _ => True) oi v a -> anyT P md ops D z Q f (listed.setIfInBounds i true) (a.put oi.dst v) w -> anyT P md ops D z Q (f + 1) listed a w := by
  induction f with
  | zero =>
    intro listed a w _ hr hw hy hh
    refine ⟨fun h => (by rw [h] at hr; cases hr),fun j hj => ?_⟩
    by_cases e : j = i
    · subst e; exact hy.wpOp hi trivial ⟨fun h => hw h.less,hh⟩
    · have := ready_mono hj e
      rw [hh.1] at this; cases this
  | succ f ih =>
    intro listed a w hfree hr hw hy hh
    refine ⟨fun h => (by rw [h] at hr; cases hr),fun j hj => ?_⟩
    by_cases e : j = i
    · subst e; exact hy.wpOp hi trivial ⟨fun h => hw h.less,hh⟩
    · obtain ⟨hju,oj,hoj,hdeps⟩ := mem_ready.1 hj
      have hno : ∀ ed,ed ∈ oj.after -> Region.binds md ed = true -> ed.on ≠ i := fun ed he hb heq => by
        have h1 := hdeps ed he hb
        rw [heq,getD_both (mem_ready.1 hr).1] at h1
        cases h1
      have h2 := wpOp_apart hoj (hfree j oj hoj e hju hno) (fun cs b => hsel i oi cs b hi) (fun cs b => hsel j oj cs b hoj) hQ hy (hh.2 j (ready_mono hj e))
      have hm : preZ ops z (listed.setIfInBounds j true) -> preZ ops z ((listed.setIfInBounds i true).setIfInBounds j true) := fun h => by
        rw [Array.setIfInBounds_comm _ _ (fun q => e q.symm)]; exact h.more hiz
      refine wpOp_mono (fun a' w' ⟨h3,h4',h5⟩ => ⟨fun h => h4' (hm h),ih (listed.setIfInBounds j true) a' w' (fun k ok hk hki hku hkn => hfree k ok hk hki ?_ hkn) (ready_mono hr fun q => e q.symm) (fun h => h4' (hm h)) h3 ?_⟩) h2
      · by_cases q : j = k
        · subst q; exact hju
        · rw [getD_set_ne true q] at hku; exact hku
      · rw [Array.setIfInBounds_comm _ _ e]; exact h5
end
section
variable {C : Cx} {V : Vw} {H : Hp} {L : Sl} {Q : Exit -> Act -> World -> Prop} {ops : Array Oper} {os : List Oper}
variable {ty : TypeId} {pos : String} {aft : Array Edge} {d : Nat}
def RunT (C : Cx) (ops : Array Oper) (S0 : Sg) (z g : Nat) (listed : Array Bool) (V : Vw) (H : Hp) (L : Sl) (Q : Exit -> Act -> World -> Prop) : Prop := ∀ a w,Is C V H L a w -> anyT C.P .any ops (DK S0) z Q g listed a w
theorem Tr.anyT {id : Nat} {l : List Oper} (S0 : Sg) (z : Nat) (hm : C.P.follows .mixedOrders = true) (h : RunT C l.toArray S0 z l.toArray.size (Array.replicate l.toArray.size false) V H L Q) : Tr C V H L (.region id l.toArray true) Q :=
  fun a w i => wp_region_any hm (any_of_anyT _ _ _ _ (h a _ ⟨i.1,i.2.drew⟩))
variable {S0 : Sg} {z : Nat}
theorem RunT.done {g : Nat} {listed : Array Bool} (hr : Region.ready .any ops listed = []) (h : Ex C V H L Q .normal) : RunT C ops S0 z g listed V H L Q := fun a w i => by
  cases g with
  | zero => exact ⟨hr,h a w i⟩
  | succ g => exact ⟨fun _ => h a w i,fun j hj => by rw [hr] at hj; cases hj⟩
theorem RunT.one {g i : Nat} {o : Oper} {listed : Array Bool} (hr : Region.ready .any ops listed = [i]) (ho : ops[i]? = some o)
    (h : Run C ops V H L [o] (Exit.then (fun a' w' => (preZ ops z (listed.setIfInBounds i true) -> DK S0 w') /\ K.anyT C.P .any ops (DK S0) z Q g (listed.setIfInBounds i true) a' w') Q)) : RunT C ops S0 z (g + 1) listed V H L Q := fun a w q =>
  ⟨fun h0 => (by rw [hr] at h0; cases h0),fun j hj => by rw [hr,List.mem_singleton] at hj; subst hj; exact wpOp_of_run ho (h a w q)⟩
theorem Ex.anyTz {i g : Nat} {listed : Array Bool} (he : listed.getD i false = true) (hz : Nat.ble z i = true) (hi : Nat.blt i ops.size = true) (h : RunT C ops S0 z g listed V H L Q) : Ex C V H L (Exit.then (fun a' w' => (preZ ops z listed -> DK S0 w') /\ K.anyT C.P .any ops (DK S0) z Q g listed a' w') Q) .normal := fun a w q =>
  ⟨fun hn => by
    have h1 := hn i (Nat.le_of_ble_eq_true hz) (by rw [Nat.blt_eq] at hi; exact hi)
    rw [Array.getD_eq_getD_getElem?] at he h1
    cases h2 : listed[i]? with
    | none => rw [h2] at he; cases he
    | some x => rw [h2] at he h1; simp at he h1; rw [he] at h1; exact absurd h1 (by simp),h a w q⟩
def noneZ (ops : Array Oper) (z : Nat) (listed : Array Bool) : Bool := (List.range ops.size).all fun j => Nat.blt j z || !(listed.getD j true)
theorem noneZ_spec {listed : Array Bool} (h : noneZ ops z listed = true) : preZ ops z listed := fun j hz hj => by
  have := List.all_eq_true.1 h j (List.mem_range.2 hj)
  have hb : Nat.blt j z = false := by rw [Bool.eq_false_iff]; intro hc; rw [Nat.blt_eq] at hc; omega
  simpa [hb] using this
theorem RunT.take {g i : Nat} {op : Op} {v : Value} {listed : Array Bool} {b : Nat} {o : Obj} (m : Nat) (hm : S0[m]? = some (b,o)) (ho : ops[i]? = some ⟨some d,op,ty,pos,aft,none⟩) (hs : Region.noSelect ops = true) (hf : Region.free .any ops listed i = true)
    (hr : (Region.ready .any ops listed).contains i = true) (hz : (waitsAll .any ops z i && noneZ ops z listed && Nat.blt i z) = true) (hQ : ∀ c a w,Q (.panic c) (a.put (some d) v) w -> Q (.panic c) a w) (hd : d < C.n) (hk : KnAll V H S0) (hy : ∀ B,Yl (CK C [(b,o)] B) (VK [(b,o)]) [] L op ty v)
    (h : RunT C ops S0 z g (listed.setIfInBounds i true) V H ((d,v) :: L) Q) : RunT C ops S0 z (g + 1) listed V H L Q := fun a w q => by
  simp only [Bool.and_eq_true,Nat.blt_eq] at hz
  exact anyT_take ho (Region.noSelect_spec hs) hQ hz.1.1 hz.2 g listed a w (Region.free_spec ho hf) (by simpa using hr) (noneZ_spec hz.1.2) (fun b o hb => (hk b o hb).st q.2)
    (.inl ⟨by simp [Region.wanted],fun w' hw' => hy w' _ a w' (Vw.le_refl _) ⟨q.1,stK fun c oc hc => by rw [List.mem_singleton] at hc; cases hc; exact hw' b o (List.mem_of_getElem? hm)⟩ _ rfl rfl⟩) (h _ w ⟨q.1.put hd v,q.2⟩)
theorem RunT.pure {g i : Nat} {op : Op} {v : Value} {listed : Array Bool} (ho : ops[i]? = some ⟨some d,op,ty,pos,aft,none⟩) (hs : Region.noSelect ops = true) (hf : Region.free .any ops listed i = true)
    (hr : (Region.ready .any ops listed).contains i = true) (hz : Nat.blt i z = true) (hQ : ∀ c a w,Q (.panic c) (a.put (some d) v) w -> Q (.panic c) a w) (hd : d < C.n) (hk : KnAll V H S0) (hy : ∀ B,Yl (CK C [] B) (VK []) [] L op ty v)
    (h : RunT C ops S0 z g (listed.setIfInBounds i true) V H ((d,v) :: L) Q) : RunT C ops S0 z (g + 1) listed V H L Q := fun a w q =>
  anyT_pure ho (Region.noSelect_spec hs) hQ (by rw [Nat.blt_eq] at hz; exact hz) g listed a w (Region.free_spec ho hf) (by simpa using hr) (fun _ b o hb => (hk b o hb).st q.2)
    (.inl ⟨by simp [Region.wanted],fun w' _ => hy w' _ a w' (Vw.le_refl _) ⟨q.1,stK fun c oc hc => by cases hc⟩ _ rfl rfl⟩) (h _ w ⟨q.1.put hd v,q.2⟩)
end
end Go.K
namespace Go.K
open Go.ChangeShapes Go.WideShapes Go.ChangeAt Go.RowKit
inductive Sh where
  | tag (g : Nat × IntKind)
  | sl (e : TypeId) (z : Nat)
  | fl (k : FloatKind)
def shFields (F : TypeId -> Option (List Sh)) (P : Program) : Nat -> List Field -> Option (List Sh)
  | _,[] => some []
  | j,f :: fs => if f.offset = j then match F f.type with
    | some g => if g.length = P.cellsOf f.type then match shFields F P (j + g.length) fs with
      | some gs => some (g ++ gs)
      | none => none
      else none
    | none => none
    else none
def shN (P : Program) : Nat -> TypeId -> Option (List Sh)
  | 0,_ => none
  | d + 1,t => match tagOf P t with
    | some g => if P.cellsOf t = 1 then some [.tag g] else none
    | none => match P.underlying t with
      | some (.struct fs) => match shFields (shN P d) P 0 fs.toList with
        | some gs => if gs.length = P.cellsOf t then some gs else none
        | none => none
      | some (.slice e) => if P.cellsOf t = 1 /\ 0 < P.cellsOf e then some [.sl e (P.cellsOf e)] else none
      | some (.float k) => if P.cellsOf t = 1 then some [.fl k] else none
      | _ => none
section
variable {H : Type} {enc : TypeId × Value -> H} {P : Program} {w : World} {base : Nat} {spare : Nat -> Bool} {held : Bool}
def shV (enc : TypeId × Value -> H) (P : Program) (w : World) (base : Nat) (spare : Nat -> Bool) (held : Bool) : Sh -> Value -> Prop
  | .tag g,v => wfV g v
  | .fl k,v => ∃ z,v = .float k z
  | .sl e z,v => ∃ rows : List (List Value),Rd (allV w) [] z v rows.length rows.flatten /\ rows.length <= 9223372036854775807 /\ ∀ q,q ∈ rows -> ∃ fuel x,DataW.trod enc P w base spare held fuel e q = some x
def shVs (enc : TypeId × Value -> H) (P : Program) (w : World) (base : Nat) (spare : Nat -> Bool) (held : Bool) : List Sh -> List Value -> Prop
  | [],[] => True
  | g :: gs,v :: vs => shV enc P w base spare held g v /\ shVs enc P w base spare held gs vs
  | _,_ => False
theorem shVs_append : ∀ {gs hs : List Sh} {xs ys : List Value},shVs enc P w base spare held gs xs -> shVs enc P w base spare held hs ys -> shVs enc P w base spare held (gs ++ hs) (xs ++ ys)
  | [],_,[],_,_,h => h
  | [],_,_ :: _,_,h,_ => h.elim
  | _ :: _,_,[],_,h,_ => h.elim
  | _ :: _,_,_ :: _,_,h,k => ⟨h.1,shVs_append h.2 k⟩
theorem shVs_cons {g : Sh} {gs : List Sh} {cs : List Value} (h : shVs enc P w base spare held (g :: gs) cs) : ∃ v vs,cs = v :: vs /\ shV enc P w base spare held g v /\ shVs enc P w base spare held gs vs := by
  match cs,h with
  | v :: vs,h => exact ⟨v,vs,rfl,h.1,h.2⟩
theorem shVs_nil {cs : List Value} (h : shVs enc P w base spare held [] cs) : cs = [] := by
  match cs,h with
  | [],_ => rfl
theorem shVs_fields {F : TypeId -> Option (List Sh)} {cs : List Value} : ∀ (l : List Field) (j : Nat) (gs : List Sh),shFields F P j l = some gs -> cs.length = j + gs.length ->
    (∀ (f : Field),f ∈ l -> ∀ g,F f.type = some g -> shVs enc P w base spare held g ((cs.drop f.offset).take (P.cellsOf f.type))) -> shVs enc P w base spare held gs (cs.drop j)
  | [],j,gs,hf,hl,_ => by
    cases hf
    rw [List.drop_eq_nil_of_le (by simpa using Nat.le_of_eq hl)]; trivial
  | f :: fs,j,gs,hf,hl,hc => by
    unfold shFields at hf
    split at hf
    · rename_i ho
      split at hf
      · rename_i g hg
        split at hf
        · rename_i hlen
          split at hf
          · rename_i gs' h2
            cases hf
            have h1 := hc f (List.mem_cons_self ..) g hg
            rw [ho,<- hlen] at h1
            have h3 := shVs_fields fs (j + g.length) gs' h2 (by rw [hl,List.length_append]; omega) (fun f' hf' => hc f' (List.mem_cons_of_mem _ hf'))
            have e : cs.drop j = (cs.drop j).take g.length ++ cs.drop (j + g.length) := by rw [<- List.drop_drop,List.take_append_drop]
            rw [e]
            exact shVs_append h1 h3
          · cases hf
        · cases hf
      · cases hf
    · cases hf
theorem trod_rows {t e : TypeId} {z fuel : Nat} {cs : List Value} {x : DataW H × List MemPlace} (hu : P.underlying t = some (.slice e)) (hc : P.cellsOf e = z) (hz0 : 0 < z) (hd : DataW.trod enc P w base spare held fuel t cs = some x) :
    ∃ v,cs = [v] /\ shV enc P w base spare held (.sl e z) v := by
  rcases DataW.trod_slice hu hd with ⟨hcs,_⟩ | ⟨a,len,cap,elems,rest,n,_,hcs,_,hb,hl,hm,hlen,hel,_,_⟩
  · exact ⟨_,hcs,[],⟨by simp,none,0,rfl,Nat.le_refl _,.inl rfl⟩,by simp,fun q hq => by cases hq⟩
  · refine ⟨_,hcs,?_⟩
    rw [hc] at hel
    have each : ∀ i,i < len -> ∃ cs,w.cells? base (a.add (i * z)) z = some cs /\ ∃ fuel x,DataW.trod enc P w base spare held fuel e cs = some x := fun i hi => by
      have h1 := hel i hi
      rw [List.getElem?_eq_getElem (by omega)] at h1
      cases hq : w.cells? base (a.add (i * z)) z with
      | none => rw [hq] at h1; cases h1
      | some cs => rw [hq] at h1; exact ⟨cs,rfl,_,_,h1⟩
    let rows : List (List Value) := (List.range len).map fun i => (w.cells? base (a.add (i * z)) z).getD []
    have hrl : rows.length = len := by simp [rows]
    have hrow : ∀ i,i < len -> ∃ cs,rows[i]? = some cs /\ w.cells? base (a.add (i * z)) z = some cs /\ ∃ fuel x,DataW.trod enc P w base spare held fuel e cs = some x := fun i hi => by
      obtain ⟨cs,h1,h2⟩ := each i hi
      exact ⟨cs,by simp [rows,List.getElem?_map,List.getElem?_range,hi,h1],h1,h2⟩
    have hall : ∀ q,q ∈ rows -> q.length = z /\ ∃ fuel x,DataW.trod enc P w base spare held fuel e q = some x := fun q hq => by
      obtain ⟨i,hi⟩ := List.mem_iff_getElem?.1 hq
      have hlt : i < len := by rw [<- hrl]; exact (List.getElem?_eq_some_iff.1 hi).1
      obtain ⟨cs,h1,h2,h3⟩ := hrow i hlt
      rw [hi] at h1; cases h1
      obtain ⟨_,hl2,_⟩ := World.cells?_some h2
      exact ⟨hl2,h3⟩
    have hlens : ∀ q,q ∈ rows -> q.length = z := fun q hq => (hall q hq).1
    refine ⟨rows,?_,by rw [hrl]; unfold maxLen at hm; omega,fun q hq => (hall q hq).2⟩
    refine ⟨?_,some a,cap,by rw [hrl],by rw [hrl]; exact hl,?_⟩
    · clear hel each hrow hall
      have : ∀ (l : List (List Value)),(∀ q,q ∈ l -> q.length = z) -> l.flatten.length = l.length * z := fun l => by
        induction l with
        | nil => intro _; simp
        | cons q l ih => intro hh; rw [List.flatten_cons,List.length_append,ih (fun q' h' => hh q' (List.mem_cons_of_mem _ h')),hh q (List.mem_cons_self ..),List.length_cons,Nat.succ_mul]; omega
      exact this rows hlens
    · rw [hrl]
      by_cases h0 : len = 0
      · exact .inl h0
      · right
        have cell : ∀ i o,i < len -> o < z -> ∃ u,w.cell? (a.add (i * z + o)) = some u /\ rows.flatten[i * z + o]? = some u := fun i o hi ho => by
          obtain ⟨cs,h1,h2,h3⟩ := hrow i hi
          obtain ⟨_,hl2,hcell⟩ := World.cells?_some h2
          have h4 := hcell o ho
          rw [flatten_at rows i o hlens ho,h1]
          have h5 : o < cs.length := by rw [hl2]; exact ho
          rw [List.getElem?_eq_getElem h5] at h4
          refine ⟨cs[o],?_,by simp [List.getElem?_eq_getElem h5]⟩
          rw [<- h4]; congr 1
          unfold Addr.add
          by_cases k1 : i * z = 0 <;> by_cases k2 : o = 0 <;> simp_all [Nat.add_assoc]
        obtain ⟨b,off,spot⟩ := a
        obtain ⟨u,hu0,_⟩ := cell 0 0 (by omega) hz0
        have hspot : spot = none := by simpa [Addr.add] using World.cell?_spot hu0
        subst hspot
        unfold World.cell? at hu0
        rw [Addr.add_plain] at hu0
        simp only at hu0
        cases hb : w.heap[b]? with
        | none => rw [hb] at hu0; cases hu0
        | some o =>
          rw [hb] at hu0
          cases o <;> simp only [reduceCtorEq] at hu0
          rename_i cs e' fz
          refine ⟨b,off,cs,e',fz,rfl,.inl hb,fun j hj => ?_⟩
          have hi : j / z < len := Nat.div_lt_of_lt_mul (by rw [Nat.mul_comm]; exact hj)
          have ho : j % z < z := Nat.mod_lt _ hz0
          obtain ⟨u,h1,h2⟩ := cell (j / z) (j % z) hi ho
          have ej : j / z * z + j % z = j := by rw [Nat.mul_comm]; exact Nat.div_add_mod j z
          rw [ej] at h1 h2
          unfold World.cell? at h1
          rw [Addr.add_plain] at h1
          simp only [hb] at h1
          simp only [Option.isSome_none,Bool.false_eq_true,if_false] at h1
          rw [h1,h2]
theorem trod_sh : ∀ (d : Nat) {t : TypeId} {gs : List Sh} {fuel : Nat} {cs : List Value} {x : DataW H × List MemPlace},shN P d t = some gs -> DataW.trod enc P w base spare held fuel t cs = some x -> shVs enc P w base spare held gs cs
  | 0,_,_,_,_,_,h,_ => by cases h
  | d + 1,t,gs,fuel,cs,x,h,hd => by
    unfold shN at h
    split at h
    · rename_i g hg
      split at h
      · cases h
        obtain ⟨v,rfl,hw⟩ := trod_tag hg hd
        exact ⟨hw,trivial⟩
      · cases h
    · split at h
      · rename_i fs hu
        split at h
        · rename_i gs' hf
          split at h
          · rename_i hsz
            cases h
            obtain ⟨xs,n,rfl,rfl,hlen,hxl,hfl⟩ := DataW.trod_struct hu hd
            have := shVs_fields (enc := enc) (P := P) (w := w) (base := base) (spare := spare) (held := held) (cs := cs) fs.toList 0 gs hf (by rw [hlen,hsz]; simp) (fun f hm g hg => by
              obtain ⟨i,hi⟩ := List.mem_iff_getElem?.1 hm
              have hi' : fs[i]? = some f := by simpa using hi
              have hlt : i < fs.size := (Array.getElem?_eq_some_iff.1 hi').1
              have h1 := hfl i f hi'
              rw [List.getElem?_eq_getElem (by omega)] at h1
              exact trod_sh d hg h1)
            simpa using this
          · cases h
        · cases h
      · rename_i e hu
        split at h
        · rename_i hc
          cases h
          obtain ⟨v,rfl,hv⟩ := trod_rows hu rfl hc.2 hd
          exact ⟨hv,trivial⟩
        · cases h
      · rename_i k hu
        split at h
        · cases h
          obtain ⟨z,rfl,_⟩ := trod_float hu hd
          exact ⟨⟨z,rfl⟩,trivial⟩
        · cases h
      · cases h
theorem sh_bytes {e : TypeId} {v : Value} (he : tagOf P e = some (0,.u8)) (h : shV enc P w base spare held (.sl e 1) v) : ∃ bs : List UInt8,Rd (allV w) [] 1 v bs.length (bs.map byteV) := by
  obtain ⟨rows,hr,_,hq⟩ := h
  have all : ∀ (rows : List (List Value)),(∀ q,q ∈ rows -> ∃ fuel x,DataW.trod enc P w base spare held fuel e q = some x) -> ∃ bs : List UInt8,bs.length = rows.length /\ rows.flatten = bs.map byteV := fun rows => by
    induction rows with
    | nil => intro _; exact ⟨[],rfl,rfl⟩
    | cons q rows ih =>
      intro hh
      obtain ⟨bs,h1,h2⟩ := ih fun q' h' => hh q' (List.mem_cons_of_mem _ h')
      obtain ⟨fuel,x,hd⟩ := hh q (List.mem_cons_self ..)
      obtain ⟨u,rfl,hw⟩ := trod_tag he hd
      obtain ⟨n,rfl,hn⟩ := wfV_int hw
      have hb : 0 <= n /\ n <= 255 := Go.bounds_u8 hn
      exact ⟨UInt8.ofNat n.toNat :: bs,by simp [h1],by rw [List.flatten_cons,h2,List.map_cons,byteV_of hb]; rfl⟩
  obtain ⟨bs,h1,h2⟩ := all rows hq
  rw [h2,<- h1] at hr
  exact ⟨bs,hr⟩
end
end Go.K
namespace Go.K
open Go.ChangeShapes Go.WideShapes Go.ChangeAt Go.RowKit
end Go.K
namespace Go.K
open Go.Sort
def cel {α : Type} (enc : α -> List Value) (d : Array α) (rest : List Value) : List Value := d.toList.flatMap enc ++ rest
def sgD {α : Type} (enc : α -> List Value) (e : TypeId) (b : Nat) (rest : List Value) (d : Array α) : Sg := [(b,.cells (cel enc d rest).toArray e (0,0))]
structure Enc {α : Type} (enc : α -> List Value) (k : Nat) : Prop where
  len : ∀ x,(enc x).length = k
  one : ∀ x,(enc x).all one = true
theorem flat_len {α : Type} {enc : α -> List Value} {k : Nat} (h : Enc enc k) : ∀ l : List α,(l.flatMap enc).length = l.length * k
  | [] => by simp
  | x :: l => by rw [List.flatMap_cons,List.length_append,h.len,flat_len h l,List.length_cons,Nat.add_mul]; omega
theorem flat_at {α : Type} {enc : α -> List Value} {k : Nat} (h : Enc enc k) (r : List Value) : ∀ (l : List α) (i j : Nat) (x : α),l[i]? = some x -> j < k -> (l.flatMap enc ++ r)[i * k + j]? = (enc x)[j]?
  | [],i,j,x,hx,_ => by simp at hx
  | y :: l,0,j,x,hx,hj => by
    simp at hx; subst hx
    rw [List.flatMap_cons,List.append_assoc,List.getElem?_append_left (by rw [h.len]; omega)]; simp
  | y :: l,i + 1,j,x,hx,hj => by
    rw [List.flatMap_cons,List.append_assoc,List.getElem?_append_right (by rw [h.len,Nat.add_mul]; omega),h.len,show (i + 1) * k + j - k = i * k + j by rw [Nat.add_mul]; omega]
    exact flat_at h r l i j x (by simpa using hx) hj
theorem setL_append : ∀ (vs a b : List Value) (off : Nat),a.length <= off -> setL (a ++ b) off vs = a ++ setL b (off - a.length) vs
  | [],a,b,off,h => rfl
  | v :: vs,a,b,off,h => by
    rw [setL,setL,List.set_append_right _ _ h,setL_append vs a _ (off + 1) (by omega),show off + 1 - a.length = off - a.length + 1 by omega]
theorem setL_here : ∀ (vs p b : List Value),vs.length = p.length -> ∀ q,setL (q ++ (p ++ b)) q.length vs = q ++ (vs ++ b)
  | [], p, b, h, q => by cases p; · rfl
                         · simp at h
  | v :: vs,[],b,h,q => by simp at h
  | v :: vs,u :: p,b,h,q => by
    have e : (q ++ (u :: p ++ b)).set q.length v = (q ++ [v]) ++ (p ++ b) := by simp
    rw [setL,e,show q.length + 1 = (q ++ [v]).length by simp,setL_here vs p b (by simpa using h) (q ++ [v])]; simp
theorem flat_set {α : Type} {enc : α -> List Value} {k : Nat} (h : Enc enc k) (r : List Value) (x : α) : ∀ (l : List α) (i : Nat),i < l.length -> setL (l.flatMap enc ++ r) (i * k) (enc x) = (l.set i x).flatMap enc ++ r
  | [],i,hi => by simp at hi
  | y :: l,0,hi => by
    have := setL_here (enc x) (enc y) (l.flatMap enc ++ r) (by rw [h.len,h.len]) []
    simpa using this
  | y :: l,i + 1,hi => by
    rw [List.flatMap_cons,List.append_assoc,setL_append _ _ _ _ (by rw [h.len,Nat.add_mul]; omega),h.len,show (i + 1) * k - k = i * k by rw [Nat.add_mul]; omega,flat_set h r x l i (by simpa using hi)]
    simp [List.set_cons_succ]
section
variable {α : Type} [Inhabited α] {enc : α -> List Value} {k : Nat}
theorem cel_at (h : Enc enc k) {d : Array α} {rest : List Value} {i j : Nat} (hi : i < d.size) (hj : j < k) : (cel enc d rest).toArray[i * k + j]? = (enc d[i]!)[j]? := by
  rw [List.getElem?_toArray]
  exact flat_at h rest d.toList i j d[i]! (by rw [getElem!_pos d i hi]; simp [hi]) hj
theorem cellsAt_eq {c : Array Value} {off : Nat} : ∀ (l : List Value) (o : Nat),(∀ j,j < l.length -> c[off + o + j]? = l[j]?) -> cellsAt c (off + o) l.length = some l
  | [],o,_ => rfl
  | v :: l,o,h => by
    have h0 := h 0 (by simp)
    simp at h0
    show (match c[off + o]?,cellsAt c (off + o + 1) l.length with | some v,some vs => some (v :: vs) | _,_ => none) = _
    rw [h0,Nat.add_assoc,cellsAt_eq l (o + 1) (fun j hj => by have := h (j + 1) (by simpa using hj); rw [show off + (o + 1) + j = off + o + (j + 1) by omega]; simpa using this)]
theorem cel_cells (h : Enc enc k) {d : Array α} {rest : List Value} {i : Nat} (hi : i < d.size) : cellsAt (cel enc d rest).toArray (i * k) k = some (enc d[i]!) := by
  have := cellsAt_eq (c := (cel enc d rest).toArray) (off := i * k) (enc d[i]!) 0 (fun j hj => by rw [h.len] at hj; simpa using cel_at h hi hj)
  rw [h.len] at this; simpa using this
omit [Inhabited α] in
theorem cel_set (h : Enc enc k) {d : Array α} {rest : List Value} {i : Nat} (hi : i < d.size) (x : α) : setL (cel enc d rest) (i * k) (enc x) = cel enc (d.setIfInBounds i x) rest := by
  unfold cel; rw [flat_set h rest x d.toList i (by simpa using hi)]; simp
omit [Inhabited α] in
theorem cel_len (h : Enc enc k) {d : Array α} {rest : List Value} : (cel enc d rest).length = d.size * k + rest.length := by
  unfold cel; rw [List.length_append,flat_len h]; simp
end
section
variable {C : Cx} {V : Vw} {H : Hp} {L : Sl} {Q : Exit -> Act -> World -> Prop} {ops : Array Oper} {os : List Oper} {ty : TypeId} {pos : String} {aft : Array Edge}
variable {α : Type} [Inhabited α] {enc : α -> List Value} {k : Nat}
theorem Y.idxN {x y : Operand} {t e : TypeId} {z : Nat} {b n c : Nat} {kk : IntKind} {m : Int} (i : Nat) (hx : ev L x = some (.slice (some ⟨b,0,none⟩) n c)) (hy : ev L y = some (.int kk m)) (ht : elemS C.P t = some (e,z)) (hm : m = (i : Int)) (h1 : i < n) :
    Yl C V H L (.indexAddr t x y) ty (.pointer (some ⟨b,i * z,none⟩)) := by
  subst hm
  have := Y.idxAddr (C := C) (V := V) (H := H) (L := L) (ty := ty) hx hy ht (by omega) (by simpa using h1)
  simpa using this
theorem Y.ldA {x : Operand} {b e i z : Nat} {t : TypeId} {d : Array α} {rest : List Value} {vs : List Value} (hx : ev L x = some (.pointer (some ⟨b,i * z,none⟩))) (ht : aggsz C.P t = some z) (hk : Kn V H b (.cells (cel enc d rest).toArray e (0,0))) (he : Enc enc z) (hi : i < d.size) (hv : enc d[i]! = vs) :
    Yl C V H L (.load t x) ty (.agg vs.toArray) :=
  Y.loadAgg hx ht hk (by rw [cel_cells he hi,hv])
theorem Run.stD {x y : Operand} {b e i s z : Nat} {t : TypeId} {d : Array α} {rest : List Value} {v : Value} (u : α) (hx : ev L x = some (.pointer (some ⟨b,i * z,none⟩))) (hy : ev L y = some v) (ht : sizeT C.P t = some z) (hH : H[s]? = some (sgD enc e b rest d)) (he : Enc enc z) (hi : i < d.size) (hv : v.cells.toList = enc u)
    (kk : Run C ops V (H.set s (sgD enc e b rest (d.setIfInBounds i u))) L os Q) : Run C ops V H L (⟨none,.store t x y,ty,pos,aft,none⟩ :: os) Q :=
  Run.store hx hy ht hH (by rw [<- Array.length_toList,hv,he.len]) (by rw [cel_len he]; have := Nat.mul_le_mul_right z (show i + 1 <= d.size from hi); rw [Nat.add_mul] at this; omega) (by rw [hv]; exact he.one u)
    (by rw [hv,cel_set he hi]; rfl) kk
theorem Y.addN {x y : Operand} {m n : Int} {t t' : TypeId} (r : Int) (hx : ev L x = some (.int .i64 m)) (hy : ev L y = some (.int .i64 n)) (hr : m + n = r) (h : -9223372036854775808 <= r /\ r <= 9223372036854775807) : Yl C V H L (.binOp .add t x y t') ty (.int .i64 r) := by
  subst hr; exact Y.add hx hy h
theorem Y.subN {x y : Operand} {m n : Int} {t t' : TypeId} (r : Int) (hx : ev L x = some (.int .i64 m)) (hy : ev L y = some (.int .i64 n)) (hr : m - n = r) (h : -9223372036854775808 <= r /\ r <= 9223372036854775807) : Yl C V H L (.binOp .sub t x y t') ty (.int .i64 r) := by
  subst hr; exact Y.sub hx hy h
theorem Y.mulN {x y : Operand} {m n : Int} {t t' : TypeId} (r : Int) (hx : ev L x = some (.int .i64 m)) (hy : ev L y = some (.int .i64 n)) (hr : m * n = r) (h : -9223372036854775808 <= r /\ r <= 9223372036854775807) : Yl C V H L (.binOp .mul t x y t') ty (.int .i64 r) := by
  subst hr; exact Y.mul hx hy h
theorem Y.quoN {x y : Operand} {m n : Nat} {t t' : TypeId} (hx : ev L x = some (.int .i64 (m : Int))) (hy : ev L y = some (.int .i64 (n : Int))) (hn : 0 < n) (h : m <= 9223372036854775807) : Yl C V H L (.binOp .quo t x y t') ty (.int .i64 ((m / n : Nat) : Int)) :=
  Y.quo _ hx hy (by omega) (by
    have e : (m : Int).tdiv (n : Int) = ((m / n : Nat) : Int) := rfl
    rw [e]; have h2 := Nat.div_le_self m n; generalize m / n = q at *; exact wrap_i64 ⟨by omega,by omega⟩)
end
section
variable {α : Type} [Inhabited α] {lt : α -> α -> Bool}
theorem insInner_go {a j : Nat} {d : Array α} (h : a < j) (hl : lt d[j]! d[j - 1]! = true) : insInner lt a j d = insInner lt a (j - 1) (swp d j (j - 1)) := by
  obtain ⟨j,rfl⟩ : ∃ j',j = j' + 1 := ⟨j - 1,by omega⟩
  simp only [Nat.add_sub_cancel] at hl
  rw [insInner,if_pos (by simp [hl]; omega)]; rfl
theorem insInner_stop {a j : Nat} {d : Array α} (h : j <= a \/ lt d[j]! d[j - 1]! = false) : insInner lt a j d = d := by
  cases j with
  | zero => rfl
  | succ j =>
    simp only [Nat.add_sub_cancel] at h
    rw [insInner,if_neg]
    rcases h with h | h <;> simp [h] <;> omega
theorem insOuter_go {a b i : Nat} {d : Array α} (h : i < b) : insOuter lt a b i d = insOuter lt a b (i + 1) (insInner lt a i d) := by rw [insOuter,if_pos h]
theorem insOuter_stop {a b i : Nat} {d : Array α} (h : b <= i) : insOuter lt a b i d = d := by rw [insOuter,if_neg (by omega)]
end
end Go.K
namespace Go.K
open Go.Sort
section
variable {α : Type} [Inhabited α] {lt : α -> α -> Bool}
def up1 (lt : α -> α -> Bool) (d : Array α) (a j i : Nat) : Nat := scanUp (fun z => lt z d[a]!) d j i
def dn1 (lt : α -> α -> Bool) (d : Array α) (a i j : Nat) : Nat := scanDown (fun z => !lt z d[a]!) d i j
def up2 (lt : α -> α -> Bool) (d : Array α) (a j i : Nat) : Nat := scanUp (fun z => !lt d[a]! z) d j i
def dn2 (lt : α -> α -> Bool) (d : Array α) (a i j : Nat) : Nat := scanDown (fun z => lt d[a]! z) d i j
theorem scanUp_go {p : α -> Bool} {d : Array α} {j i : Nat} (h : i <= j) (hp : p d[i]! = true) : scanUp p d j (i + 1) = scanUp p d j i := by
  rw [scanUp.eq_def p d j i,if_pos (by simp [h,hp])]
theorem scanUp_stop {p : α -> Bool} {d : Array α} {j i : Nat} (h : j < i \/ p d[i]! = false) : scanUp p d j i = i := by
  rw [scanUp,if_neg]
  rcases h with h | h
  · simp; omega
  · simp [h]
theorem scanDown_go {p : α -> Bool} {d : Array α} {j i : Nat} (h : i <= j) (h1 : 1 <= j) (hp : p d[j]! = true) : scanDown p d i (j - 1) = scanDown p d i j := by
  obtain ⟨j,rfl⟩ : ∃ k,j = k + 1 := ⟨j - 1,by omega⟩
  rw [scanDown.eq_2,if_pos (by simp [h,hp])]; rfl
theorem scanDown_stop {p : α -> Bool} {d : Array α} {j i : Nat} (h1 : 1 <= i) (h : j < i \/ p d[j]! = false) : scanDown p d i j = j := by
  cases j with
  | zero => rfl
  | succ j =>
    rw [scanDown,if_neg]
    rcases h with h | h
    · simp; omega
    · simp [h]
section
variable {d : Array α} {a i j : Nat}
theorem up1_go (h : i <= j) (hl : lt d[i]! d[a]! = true) : up1 lt d a j (i + 1) = up1 lt d a j i := scanUp_go h hl
theorem up1_stop (h : j < i \/ lt d[i]! d[a]! = false) : up1 lt d a j i = i := scanUp_stop h
theorem dn1_go (h : i <= j) (h1 : 1 <= i) (hl : lt d[j]! d[a]! = false) : dn1 lt d a i (j - 1) = dn1 lt d a i j := scanDown_go h (by omega) (by simp [hl])
theorem dn1_stop (h1 : 1 <= i) (h : j < i \/ lt d[j]! d[a]! = true) : dn1 lt d a i j = j := scanDown_stop h1 (h.imp id fun e => by simp [e])
theorem up2_go (h : i <= j) (hl : lt d[a]! d[i]! = false) : up2 lt d a j (i + 1) = up2 lt d a j i := scanUp_go h (by simp [hl])
theorem up2_stop (h : j < i \/ lt d[a]! d[i]! = true) : up2 lt d a j i = i := scanUp_stop (h.imp id fun e => by simp [e])
theorem dn2_go (h : i <= j) (h1 : 1 <= i) (hl : lt d[a]! d[j]! = true) : dn2 lt d a i (j - 1) = dn2 lt d a i j := scanDown_go h (by omega) hl
theorem dn2_stop (h1 : 1 <= i) (h : j < i \/ lt d[a]! d[j]! = false) : dn2 lt d a i j = j := scanDown_stop h1 h
end
theorem up1_at {d : Array α} {a i j i1 : Nat} (h : up1 lt d a j i = i1) (h2 : i1 <= j) : lt d[i1]! d[a]! = false := by subst h; exact (scanUp_spec (fun z => lt z d[a]!) d j _ i rfl).2.2.2 h2
theorem dn1_at {d : Array α} {a i j j1 : Nat} (h : dn1 lt d a i j = j1) (h2 : i <= j1) (h3 : 0 < j1) : lt d[j1]! d[a]! = true := by
  unfold dn1 at h; subst h; have := (scanDown_spec (fun z => !lt z d[a]!) d i j).2.2.2 h2 h3; simpa using this
theorem cross1 {d : Array α} {a i j i1 j1 : Nat} (h : up1 lt d a j i = i1) (h2 : dn1 lt d a i1 j = j1) (h3 : ¬ j1 < i1) (h4 : 1 <= i1) (h5 : j1 <= j) : i1 < j1 := by
  rcases Nat.lt_or_ge i1 j1 with q | q
  · exact q
  · obtain rfl : i1 = j1 := by omega
    have e1 := up1_at h h5
    rw [dn1_at h2 (Nat.le_refl _) (by omega)] at e1; cases e1
theorem up2_at {d : Array α} {a i j i1 : Nat} (h : up2 lt d a j i = i1) (h2 : i1 <= j) : lt d[a]! d[i1]! = true := by
  unfold up2 at h; subst h; have := (scanUp_spec (fun z => !lt d[a]! z) d j _ i rfl).2.2.2 h2; simpa using this
theorem dn2_at {d : Array α} {a i j j1 : Nat} (h : dn2 lt d a i j = j1) (h2 : i <= j1) (h3 : 0 < j1) : lt d[a]! d[j1]! = false := by
  subst h; exact (scanDown_spec (fun z => lt d[a]! z) d i j).2.2.2 h2 h3
theorem cross2 {d : Array α} {a i j i1 j1 : Nat} (h : up2 lt d a j i = i1) (h2 : dn2 lt d a i1 j = j1) (h3 : ¬ j1 < i1) (h4 : 1 <= i1) (h5 : j1 <= j) : i1 < j1 := by
  rcases Nat.lt_or_ge i1 j1 with q | q
  · exact q
  · obtain rfl : i1 = j1 := by omega
    have e1 := up2_at h h5
    rw [dn2_at h2 (Nat.le_refl _) (by omega)] at e1; cases e1
theorem partLoop_end {a i j i1 j1 : Nat} {d : Array α} (hi : up1 lt d a j i = i1) (hj : dn1 lt d a i1 j = j1) (h : j1 < i1) : partLoop lt a i j d = (j1,d) := by
  subst hi; subst hj
  rw [partLoop_eq]; exact if_pos h
theorem partLoop_go {a i j i1 j1 : Nat} {d : Array α} (hi : up1 lt d a j i = i1) (hj : dn1 lt d a i1 j = j1) (h : ¬ j1 < i1) : partLoop lt a i j d = partLoop lt a (i1 + 1) (j1 - 1) (swp d i1 j1) := by
  subst hi; subst hj
  rw [partLoop_eq]; exact if_neg h
theorem partition_one {a b p i1 j1 : Nat} {d : Array α} (hi : up1 lt (swp d a p) a (b - 1) (a + 1) = i1) (hj : dn1 lt (swp d a p) a i1 (b - 1) = j1) (h : j1 < i1) : partition lt d a b p = (j1,true,swp (swp d a p) j1 a) := by
  subst hi; subst hj
  unfold partition; exact if_pos h
theorem partition_two {a b p i1 j1 j2 : Nat} {d d2 : Array α} (hi : up1 lt (swp d a p) a (b - 1) (a + 1) = i1) (hj : dn1 lt (swp d a p) a i1 (b - 1) = j1) (h : ¬ j1 < i1)
    (h2 : partLoop lt a (i1 + 1) (j1 - 1) (swp (swp d a p) i1 j1) = (j2,d2)) : partition lt d a b p = (j2,false,swp d2 j2 a) := by
  subst hi; subst hj
  have e : partition lt d a b p = ((partLoop lt a (up1 lt (swp d a p) a (b - 1) (a + 1) + 1) (dn1 lt (swp d a p) a (up1 lt (swp d a p) a (b - 1) (a + 1)) (b - 1) - 1) (swp (swp d a p) (up1 lt (swp d a p) a (b - 1) (a + 1)) (dn1 lt (swp d a p) a (up1 lt (swp d a p) a (b - 1) (a + 1)) (b - 1)))).1,false,
      swp (partLoop lt a (up1 lt (swp d a p) a (b - 1) (a + 1) + 1) (dn1 lt (swp d a p) a (up1 lt (swp d a p) a (b - 1) (a + 1)) (b - 1) - 1) (swp (swp d a p) (up1 lt (swp d a p) a (b - 1) (a + 1)) (dn1 lt (swp d a p) a (up1 lt (swp d a p) a (b - 1) (a + 1)) (b - 1)))).2
        (partLoop lt a (up1 lt (swp d a p) a (b - 1) (a + 1) + 1) (dn1 lt (swp d a p) a (up1 lt (swp d a p) a (b - 1) (a + 1)) (b - 1) - 1) (swp (swp d a p) (up1 lt (swp d a p) a (b - 1) (a + 1)) (dn1 lt (swp d a p) a (up1 lt (swp d a p) a (b - 1) (a + 1)) (b - 1)))).1 a) := by
    unfold partition; exact if_neg h
  rw [e,h2]
theorem partEqLoop_end {a i j i1 j1 : Nat} {d : Array α} (hi : up2 lt d a j i = i1) (hj : dn2 lt d a i1 j = j1) (h : j1 < i1) : partEqLoop lt a i j d = (i1,d) := by
  subst hi; subst hj
  rw [partEqLoop_eq]; exact if_pos h
theorem partEqLoop_go {a i j i1 j1 : Nat} {d : Array α} (hi : up2 lt d a j i = i1) (hj : dn2 lt d a i1 j = j1) (h : ¬ j1 < i1) : partEqLoop lt a i j d = partEqLoop lt a (i1 + 1) (j1 - 1) (swp d i1 j1) := by
  subst hi; subst hj
  rw [partEqLoop_eq]; exact if_neg h
section
variable {hi f r : Nat} {d : Array α}
theorem sift_end (h : hi <= 2 * r + 1) : siftDown lt hi f r d = d := by rw [siftDown,dif_pos h]
theorem sift_stop2 (h : 2 * r + 1 + 1 < hi) (h1 : lt d[f + (2 * r + 1)]! d[f + (2 * r + 1) + 1]! = true) (h2 : lt d[f + r]! d[f + (2 * r + 1 + 1)]! = false) : siftDown lt hi f r d = d := by
  rw [siftDown,dif_neg (by omega),if_pos (by simp [h,h1]),if_pos (by rw [h2]; rfl)]
theorem sift_go2 (h : 2 * r + 1 + 1 < hi) (h1 : lt d[f + (2 * r + 1)]! d[f + (2 * r + 1) + 1]! = true) (h2 : lt d[f + r]! d[f + (2 * r + 1 + 1)]! = true) : siftDown lt hi f r d = siftDown lt hi f (2 * r + 1 + 1) (swp d (f + r) (f + (2 * r + 1 + 1))) := by
  rw [siftDown.eq_def lt hi f r,dif_neg (by omega),if_pos (by simp [h,h1]),if_neg (by rw [h2]; decide),dif_pos h]
theorem sift_stop1 (h : 2 * r + 1 < hi) (h1 : ¬ 2 * r + 1 + 1 < hi \/ lt d[f + (2 * r + 1)]! d[f + (2 * r + 1) + 1]! = false) (h2 : lt d[f + r]! d[f + (2 * r + 1)]! = false) : siftDown lt hi f r d = d := by
  rw [siftDown,dif_neg (by omega),if_neg (by rcases h1 with h1 | h1 <;> simp [h1]),if_pos (by rw [h2]; rfl)]
theorem sift_go1 (h : 2 * r + 1 < hi) (h1 : ¬ 2 * r + 1 + 1 < hi \/ lt d[f + (2 * r + 1)]! d[f + (2 * r + 1) + 1]! = false) (h2 : lt d[f + r]! d[f + (2 * r + 1)]! = true) : siftDown lt hi f r d = siftDown lt hi f (2 * r + 1) (swp d (f + r) (f + (2 * r + 1))) := by
  rw [siftDown.eq_def lt hi f r,dif_neg (by omega),if_neg (by rcases h1 with h1 | h1 <;> simp [h1]),if_neg (by rw [h2]; decide)]
theorem sift_size : ∀ (n hi f r : Nat) (d : Array α),hi - r <= n -> (siftDown lt hi f r d).size = d.size := by
  intro n
  induction n with
  | zero => intro hi f r d h; rw [sift_end (by omega)]
  | succ n ih =>
    intro hi f r d h
    rw [siftDown]
    split
    · rfl
    · split
      · split
        · rfl
        · split
          · rw [ih _ _ _ _ (by omega),swp_size]
          · rfl
      · split
        · rfl
        · rw [ih _ _ _ _ (by omega),swp_size]
end
section
variable {b i j : Nat} {d : Array α}
theorem reverseLoop_go (h : i < j) : reverseLoop i j d = reverseLoop (i + 1) (j - 1) (swp d i j) := by rw [reverseLoop.eq_def i j d,if_pos h]
theorem reverseLoop_stop (h : j <= i) : reverseLoop i j d = d := by rw [reverseLoop,if_neg (by omega)]
theorem scanSorted_go (h : i < b) (hl : lt d[i]! d[i - 1]! = false) : scanSorted lt d b (i + 1) = scanSorted lt d b i := by rw [scanSorted.eq_def lt d b i,if_pos (by simp [h,hl])]
theorem scanSorted_stop (h : b <= i \/ lt d[i]! d[i - 1]! = true) : scanSorted lt d b i = i := by
  rw [scanSorted,if_neg]
  rcases h with h | h
  · simp; omega
  · simp [h]
theorem shiftDown_go (h : 1 <= j) (hl : lt d[j]! d[j - 1]! = true) : shiftDown lt (j - 1) (swp d j (j - 1)) = shiftDown lt j d := by
  obtain ⟨j,rfl⟩ : ∃ k,j = k + 1 := ⟨j - 1,by omega⟩
  simp only [Nat.add_sub_cancel] at hl ⊢
  rw [shiftDown.eq_2,if_neg (by simp [hl])]
theorem shiftDown_stop (h : j < 1 \/ lt d[j]! d[j - 1]! = false) : shiftDown lt j d = d := by
  cases j with
  | zero => rfl
  | succ j =>
    simp only [Nat.add_sub_cancel] at h
    rw [shiftDown,if_pos]
    rcases h with h | h
    · omega
    · simp [h]
theorem shiftUp_go (h : j < b) (hl : lt d[j]! d[j - 1]! = true) : shiftUp lt b (j + 1) (swp d j (j - 1)) = shiftUp lt b j d := by rw [shiftUp.eq_def lt b j,if_pos h,if_neg (by simp [hl])]
theorem shiftUp_stop (h : b <= j \/ lt d[j]! d[j - 1]! = false) : shiftUp lt b j d = d := by
  rw [shiftUp]
  by_cases hb : j < b
  · rw [if_pos hb,if_pos]
    rcases h with h | h
    · omega
    · simp [h]
  · rw [if_neg hb]
end
theorem sift_sz {hi f r : Nat} {d : Array α} : (siftDown lt hi f r d).size = d.size := sift_size _ hi f r d (Nat.le_refl _)
section
variable {a b s i i2 : Nat} {d : Array α}
theorem pins_done (h : s < 5) (hi : scanSorted lt d b i = i2) (he : i2 = b) : partialIns lt a b (5 - s) i d = (d,true) := by
  rw [show 5 - s = (4 - s) + 1 by omega,partialIns_succ,if_pos (hi.trans he)]
theorem pins_short (h : s < 5) (hi : scanSorted lt d b i = i2) (he : i2 ≠ b) (hl : b - a < 50) : partialIns lt a b (5 - s) i d = (d,false) := by
  rw [show 5 - s = (4 - s) + 1 by omega,partialIns_succ,hi,if_neg he,if_pos hl]
theorem pins_go (h : s < 5) (hi : scanSorted lt d b i = i2) (he : i2 ≠ b) (hl : ¬ b - a < 50) : partialIns lt a b (5 - s) i d = partialIns lt a b (5 - (s + 1)) i2 (fixUp lt b i2 (fixDown lt a i2 (swp d i2 (i2 - 1)))) := by
  rw [show 5 - s = (4 - s) + 1 by omega,partialIns_succ,hi,if_neg he,if_neg hl,show 5 - (s + 1) = 4 - s by omega]
theorem pins_end (h : 5 <= s) : partialIns lt a b (5 - s) i d = (d,false) := by rw [show 5 - s = 0 by omega]; rfl
end
structure PInv (lt : α -> α -> Bool) (x y n : Nat) (d0 : Array α) (a b : Nat) (d : Array α) : Prop where
  sz : d.size = n
  ab : a <= b
  bn : b <= n
  len : b - a <= y - x
  bel : Below lt a b d
  k : ∀ R,PermIn a b d R -> SortedIn lt a b R -> PermIn x y d0 R /\ SortedIn lt x y R
variable {x y n a b : Nat} {d0 d : Array α}
theorem PInv.new (hd : d.size = n) (h1 : x <= y) (h2 : y <= n) (h3 : Below lt x y d) : PInv lt x y n d x y d := ⟨hd,h1,h2,Nat.le_refl _,h3,fun _ h h' => ⟨h,h'⟩⟩
theorem PInv.perm {d' : Array α} (h : PInv lt x y n d0 a b d) (p : PermIn a b d d') : PInv lt x y n d0 a b d' :=
  ⟨p.1.trans h.sz,h.ab,h.bn,h.len,h.bel.perm (by rw [h.sz]; exact h.bn) p,fun R hR hs => h.k R (permIn_trans _ _ _ _ _ p hR) hs⟩
theorem PInv.eqs (hs : SWO lt) {pv mid : Nat} {d4 : Array α} (h : PInv lt x y n d0 a b d) (ha : 0 < a) (h1 : a <= pv) (h2 : pv < b) (hn : lt d[a - 1]! d[pv]! = false) (e : partitionEqual lt d a b pv = (mid,d4)) :
    a < mid /\ PInv lt x y n d0 mid b d4 := by
  obtain ⟨q1,q2,q3,q4,q5⟩ := round_eq hs (partitionEqual_holds lt) ha h1 h2 (by rw [h.sz]; exact h.bn) h.bel hn e
  have := h.len
  exact ⟨q1,q3.trans h.sz,q2,h.bn,by omega,q4,fun R hR hS => have := q5 R hR hS; h.k R this.1 this.2⟩
theorem PInv.part (hs : SWO lt) {pv mid : Nat} {ap : Bool} {d4 : Array α} (h : PInv lt x y n d0 a b d) (h1 : a <= pv) (h2 : pv < b) (e : partition lt d a b pv = (mid,ap,d4)) :
    a <= mid /\ mid < b /\ d4.size = n /\ Below lt a mid d4 /\ Below lt (mid + 1) b d4 /\ (∀ L,PermIn a mid d4 L -> SortedIn lt a mid L -> PInv lt x y n d0 (mid + 1) b L) /\ (∀ L,PermIn (mid + 1) b d4 L -> SortedIn lt (mid + 1) b L -> PInv lt x y n d0 a mid L) := by
  obtain ⟨q1,q2,q3,q4,q5,q6,q7⟩ := round_part hs (partition_holds lt) h1 h2 (by rw [h.sz]; exact h.bn) h.bel e
  have hl := h.len
  have hb := h.bn
  refine ⟨q1,q2,q3.trans h.sz,q4,q5,fun L hL hS => ?_,fun L hL hS => ?_⟩
  · obtain ⟨w1,w2⟩ := q6 L hL hS
    exact ⟨by rw [hL.1,q3,h.sz],by omega,h.bn,by omega,w1,fun R hR hS' => have := w2 R hR hS'; h.k R this.1 this.2⟩
  · obtain ⟨w1,w2⟩ := q7 L hL hS
    exact ⟨by rw [hL.1,q3,h.sz],q1,by omega,by omega,w1,fun R hR hS' => have := w2 R hR hS'; h.k R this.1 this.2⟩
end
end Go.K
namespace Go.K
theorem wrap_u64_mod (n : Int) : IntKind.u64.wrap n = n % 18446744073709551616 := by
  unfold IntKind.wrap
  have h : IntKind.u64.signed = false := rfl
  have hb : (2 : Int) ^ IntKind.u64.bits = 18446744073709551616 := by decide
  simp only [h,hb,Bool.false_and,Bool.false_eq_true,if_false]
theorem wrap_u64 {n : Int} (h : 0 <= n /\ n <= 18446744073709551615) : IntKind.u64.wrap n = n := by rw [wrap_u64_mod]; omega
def xorU (a b : Int) : Int := IntKind.u64.wrap ((BitVec.ofInt IntKind.u64.bits a ^^^ BitVec.ofInt IntKind.u64.bits b).toNat)
def andU (a b : Int) : Int := IntKind.u64.wrap ((BitVec.ofInt IntKind.u64.bits a &&& BitVec.ofInt IntKind.u64.bits b).toNat)
def shlU (a : Int) (n : Nat) : Int := IntKind.u64.wrap (a * 2 ^ n)
def shrU (a : Int) (n : Nat) : Int := a.fdiv (2 ^ n)
theorem andU_nat {a : Int} {m : Nat} (h : m <= 18446744073709551615) : ∃ o : Nat,andU a (m : Int) = (o : Int) /\ o <= m := by
  refine ⟨(BitVec.ofInt IntKind.u64.bits a &&& BitVec.ofInt IntKind.u64.bits (m : Int)).toNat,?_,?_⟩
  · unfold andU
    have := (BitVec.ofInt IntKind.u64.bits a &&& BitVec.ofInt IntKind.u64.bits (m : Int)).isLt
    have hb : (2 : Nat) ^ IntKind.u64.bits = 18446744073709551616 := by decide
    exact wrap_u64 (by omega)
  · rw [BitVec.toNat_and]
    refine Nat.le_trans Nat.and_le_right ?_
    rw [BitVec.toNat_ofInt]
    have hb : (2 : Nat) ^ IntKind.u64.bits = 18446744073709551616 := by decide
    rw [hb]; omega
theorem subU {m : Nat} (h : 1 <= m) (h2 : m <= 18446744073709551615) : intRes .sub .u64 (m : Int) 1 = some (.int .u64 ((m - 1 : Nat) : Int)) := by
  have e : (m : Int) - 1 = ((m - 1 : Nat) : Int) := by omega
  simp only [intRes,e]
  rw [wrap_u64 (by omega)]
theorem shl_one {k : Nat} (h : k <= 40) : IntKind.u64.wrap (1 * 2 ^ min ((k : Int)).toNat IntKind.u64.bits) = ((2 ^ k : Nat) : Int) := by
  have hm : min ((k : Int)).toNat IntKind.u64.bits = k := by
    have : IntKind.u64.bits = 64 := rfl
    rw [this]; omega
  have hp : (2 : Nat) ^ k <= 2 ^ 40 := Nat.pow_le_pow_right (by omega) h
  rw [hm,Int.one_mul]
  have e : (2 : Int) ^ k = ((2 ^ k : Nat) : Int) := by norm_cast
  have h4 : (2 : Nat) ^ 40 = 1099511627776 := by decide
  rw [e]; generalize 2 ^ k = z at hp ⊢
  exact wrap_u64 ⟨by omega,by omega⟩
section
variable {C : Cx} {V : Vw} {H : Hp} {L : Sl} {ty : TypeId}
theorem Y.shrN {x y : Operand} {k k' : IntKind} {m q : Nat} {n : Int} {t t' : TypeId} (hx : ev L x = some (.int k (m : Int))) (hy : ev L y = some (.int k' n)) (hn : 0 <= n) (hq : (2 : Int) ^ min n.toNat k.bits = ((q : Nat) : Int)) : Yl C V H L (.binOp .shr t x y t') ty (.int k ((m / q : Nat) : Int)) :=
  Y.shr _ hx hy hn (by rw [hq,Int.fdiv_eq_ediv_of_nonneg _ (by omega)]; rfl)
end
theorem len_bound {s t q m : Nat} (hq : q * 2 ^ s <= m) (ht : 2 ^ t <= 2 * q) : 2 ^ (s + t) <= 2 * m := by
  rw [Nat.pow_add]
  calc 2 ^ s * 2 ^ t <= 2 ^ s * (2 * q) := Nat.mul_le_mul_left _ ht
    _ = 2 * (q * 2 ^ s) := by rw [Nat.mul_comm q,Nat.mul_left_comm]
    _ <= 2 * m := Nat.mul_le_mul_left _ hq
end Go.K
namespace Go.K
open Go.Sort
section
variable {α : Type} [Inhabited α] {enc : α -> List Value} {k : Nat} {lt : α -> α -> Bool}
theorem Ow.toD (he : Enc enc k) {e : TypeId} {v : Value} {l : List α} {s : Sg} (h : Ow e k v l.length (l.flatMap enc) s) :
    (v = .slice none 0 0 /\ l = [] /\ s = []) \/ ∃ b cap rest,v = .slice (some ⟨b,0,none⟩) l.length cap /\ s = sgD enc e b rest l.toArray /\ l.length <= cap /\ cap <= maxLen /\ l.length * k + rest.length = cap * k := by
  obtain ⟨h1,⟨h2,h3,h4⟩ | ⟨b,cap,cur,h2,h3,h4,h5,h6,h7⟩⟩ := h
  · exact .inl ⟨h2,List.length_eq_zero_iff.1 h3,h4⟩
  · have hle : l.length * k <= cap * k := Nat.mul_le_mul_right k h4
    refine .inr ⟨b,cap,cur.toList.drop (l.length * k),h2,?_,h4,h5,by simp [h6]; omega⟩
    rw [h3]; unfold sgD cel
    have e1 : l.flatMap enc = cur.toList.take (l.length * k) := by
      apply List.ext_getElem?
      intro j
      rw [List.getElem?_take]
      split
      · rename_i hj; rw [<- h7 j hj]; simp
      · rename_i hj; rw [List.getElem?_eq_none (by rw [h1]; omega)]
    rw [show l.toArray.toList = l by simp,e1,List.take_append_drop]
theorem Ow.ofD (he : Enc enc k) {e : TypeId} {b cap : Nat} {rest : List Value} {l : List α} (h1 : l.length <= cap) (h2 : cap <= maxLen) (h3 : l.length * k + rest.length = cap * k) :
    Ow e k (.slice (some ⟨b,0,none⟩) l.length cap) l.length (l.flatMap enc) (sgD enc e b rest l.toArray) := by
  refine ⟨flat_len he l,.inr ⟨b,cap,_,rfl,rfl,h1,h2,?_,fun j hj => ?_⟩⟩
  · have := cel_len he (d := l.toArray) (rest := rest); simp at this ⊢; rw [this]; exact h3
  · unfold cel; rw [List.getElem?_toArray,List.getElem?_append_left (by simp [flat_len he]; exact hj)]
def Srt (lt : α -> α -> Bool) (l : List α) : Prop := l.Pairwise fun x y => lt y x = false
theorem srt_of {d : Array α} (h : SortedIn lt 0 d.size d) : Srt lt d.toList := by
  refine List.pairwise_iff_getElem.2 fun i j hi hj hij => ?_
  have := h i j (Nat.zero_le _) hij (by simpa using hj)
  rw [getElem!_pos d i (by simpa using hi),getElem!_pos d j (by simpa using hj)] at this
  simpa using this
theorem perm_of {d d' : Array α} (h : PermIn 0 d.size d d') : d'.toList.Perm d.toList := by
  have h2 := h.2.2
  rw [Array.extract_eq_self_of_le (Nat.le_of_eq h.1),show d.extract 0 d.size = d by simp] at h2
  exact h2
end
def nI (x : Int) : List Value := [.int .i64 x]
theorem nI_enc : Enc nI 1 := ⟨fun _ => rfl,fun _ => rfl⟩
end Go.K
