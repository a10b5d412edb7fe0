/- More rules of the walks: an array's element by value; equal strings; a row's argument is a plain value.
Conditions: none; nothing here speaks of a program. -/
import Derived.Test.YtfgblingojgafaaGreatKA
import Derived.WalkKit
import Derived.ProofKit
import Derived.OpenShut
import Derived.Laws.FloatArith
import Derived.Sort.LotA
import Derived.Sort.LotB
import Derived.Sort.LotC
import Derived.Sort.LotD3
set_option linter.unusedSimpArgs false
set_option linter.unusedVariables false
set_option linter.unusedSectionVars false
namespace Go.K
section
variable {C : Cx} {V : Vw} {H : Hp} {L : Sl} {ty : TypeId}
def arrS (P : Program) (t : TypeId) : Option Nat := match P.underlying t with
  | some (.array n e) => if scal P e && (sizeT P e == some 1) then some n else none
  | _ => none
theorem Y.idxAgg {x y : Operand} {t : TypeId} {n : Nat} {cs : Array Value} {k : IntKind} {j : Int} {v : Value} (hx : ev L x = some (.agg cs)) (hy : ev L y = some (.int k j)) (ht : arrS C.P t = some n) (h0 : 0 <= j) (h1 : j.toNat < n) (hv : cs[j.toNat]? = some v) :
    Yl C V H L (.index t x y) ty v := (fun V2 a w hle i o ho hty => by
  unfold arrS at ht
  cases hu : C.P.underlying t with
  | none => rw [hu] at ht; cases ht
  | some u =>
    rw [hu] at ht
    cases u <;> simp only [reduceCtorEq] at ht
    rename_i n' e
    split at ht
    · rename_i hse
      cases ht
      rw [Bool.and_eq_true,beq_iff_eq] at hse
      have hs' := run_sizeOf (w := w) hse.2
      have hp := run_part (P := C.P) (w := w) (cs := cs) hse.1 hv
      have hj : 0 <= j /\ j < (n : Int) := ⟨h0,by omega⟩
      simp [execOp,ho,i.1.ev hx,i.1.ev hy,Instr.index,asIntOf,run_underlying hu,hs',hj,hp]
    · cases ht)
end
end Go.K
namespace Go.K
open Go.ChangeShapes Go.WideShapes Go.ChangeAt Go.RowKit
section
variable {H : Type} {enc : TypeId × Value -> H} {P : Program} {w : World} {base : Nat} {spare : Nat -> Bool} {held : Bool}
def flatFrom (P : Program) : Nat -> List Field -> Option (List (Nat × IntKind))
  | _,[] => some []
  | j,f :: fs => if f.offset = j /\ P.cellsOf f.type = 1 then match tagOf P f.type,flatFrom P (j + 1) fs with
    | some g,some gs => some (g :: gs)
    | _,_ => none
    else none
def flat (P : Program) (t : TypeId) : Option (List (Nat × IntKind)) := match P.underlying t with
  | some (.struct fs) => if P.cellsOf t = fs.size then flatFrom P 0 fs.toList else none
  | _ => none
theorem open_i64 {r : Reach} {b0 : Nat} {t : TypeId} {v : Value} {d : DataW H} {ps : List MemPlace} (ht : tagOf P t = some (0,.i64)) (h : DataW.Trod enc P w base spare held t v d ps) (hv : Value.okWide P w r b0 t v) : ∃ n,v = .int .i64 n /\ -9223372036854775808 <= n /\ n <= 9223372036854775807 := by
  have hu : P.underlying t = some (.int .i64) := by
    unfold tagOf at ht
    cases hd : P.underlying t with
    | none => rw [hd] at ht; cases ht
    | some q => rw [hd] at ht; cases q <;> simp at ht <;> rw [ht]
  obtain ⟨n,rfl,_,_,hw⟩ := open_int hu hv h
  exact ⟨n,rfl,bounds_i64 hw⟩
def allV (W : World) : Vw := fun b => W.heap[b]?
theorem St.all (W : World) : St W [] (allV W) (allV W) [] W :=
  ⟨rfl,rfl,rfl,Nat.le_refl _,fun _ _ _ => rfl,fun _ _ h => (by cases h),List.nodup_nil,fun _ h => (by cases h),Vw.le_refl _,fun _ _ h => h,fun _ _ _ h => (by cases h),fun _ _ h => .inl h⟩
theorem St.below {W W' : World} {V : Vw} {H : Hp} (h : St W [] (allV W) V H W') : Below W.heap.size W W' := ⟨h.os,h.tape,h.output,h.size,fun b hb => h.fr b hb (by simp)⟩
theorem trodAll_below (hl : laidOutB P = true) {W W' : World} (hb : Below W.heap.size W W') : ∀ {ts : List TypeId} {vs : List Value} {ds : List (DataW H)} {ps : List MemPlace},(ts.all fun t => P.readableRec t && decide (t < P.types.size)) = true ->
    DataW.TrodAll enc P W 0 (fun _ => true) true ts vs ds ps -> (∀ x ∈ ps,x.block < W.heap.size) -> DataW.TrodAll enc P W' 0 (fun b => decide (b < W.heap.size)) true ts vs ds ps
  | [],_,_,_,_,h,_ => by obtain ⟨rfl,rfl,rfl⟩ := trodAll_nil h; exact trodAll_mk0
  | t :: ts,_,_,_,hr,h,hlt => by
    obtain ⟨v,vs,d,ds,p,q,rfl,rfl,rfl,h0,r0⟩ := trodAll_cons h
    simp only [List.all_cons,Bool.and_eq_true,decide_eq_true_eq] at hr
    exact trodAll_cons_mk (Below.trod hl hr.1.1 hr.1.2 h0 hb (fun x hx => hlt x (List.mem_append_left _ hx))) (trodAll_below hl hb hr.2 r0 (fun x hx => hlt x (List.mem_append_right _ hx)))
theorem trodAll_len : ∀ {ts : List TypeId} {vs : List Value} {ds : List (DataW H)} {ps : List MemPlace},DataW.TrodAll enc P w base spare held ts vs ds ps -> ds.length = ts.length
  | [],_,_,_,h => by obtain ⟨_,rfl,_⟩ := trodAll_nil h; rfl
  | t :: ts,_,_,_,h => by
    obtain ⟨v,vs,d,ds,p,q,rfl,rfl,rfl,h0,r0⟩ := trodAll_cons h
    simp [trodAll_len r0]
theorem law_lifted {a : Assume} {C : Checked} {os : Os} {f : FuncId} {fn : Func} {s : ChangeSpec} {conds : List PathCond} {apart : Bool} {tb : TypeId} (own : ownKnob C.prog.godebug = none) (started : os.Started) (noInit : C.prog.inits.idxOf? f = none) (hfn : C.prog.funcs[f]? = some fn)
    (witness : ∃ (w : World) (tape : Tape) (i : Input),w.os = os /\ (w.forCall tape i).Shaped C.prog /\ i.vars = [] /\ Input.okWide C.prog (w.forCall tape i) .any w.heap.size f i /\
      s.pre6 enc C.prog fn conds apart (w.forCall tape i).memory i.args /\ a.holds C.prog (lone (Frame.enter C.prog f i.args .normal) [] (w.forCall tape i)))
    (hl : laidOutB C.prog = true) (hpar : (fn.params.toList.all fun t => C.prog.readableRec t && decide (t < C.prog.types.size)) = true) (hvars : s.vars = []) (hres : fn.resultTypes = #[tb]) (htb : C.prog.underlying tb = some .bool)
    (hspec : ∀ ds : List (DataW H),ds.length = fn.params.toList.length -> s.fn H ds = { results := [.lit (.bool true)],args := ds })
    (walk : ∀ (W : World) (base : Nat) (args : Array Value) (ds : List (DataW H)) (ps : List MemPlace),(∀ (j : Nat) t v,fn.params[j]? = some t -> args[j]? = some v -> Value.okWide C.prog W .any base t v) -> DataW.TrodAll enc C.prog W 0 (fun _ => true) true fn.params.toList args.toList ds ps ->
      Does C.prog f args.toList (allV W) [] (fun v _ _ => v = .bool true)) :
    ReturnsInHanded a C os f .any (s.pre6 enc C.prog fn conds apart) (s.post enc C.prog fn apart true false false) := by
  refine returnsInHanded_of_change own started noInit hfn witness ?_
  intro W base args ds gs before hval hW _ _
  have hW' := hW
  have hlt := fun x hx => hW.lt x hx
  obtain ⟨p,q,hA,hV,hbef,hfz,hnd⟩ := hW
  rw [hvars] at hV
  obtain ⟨rfl,rfl⟩ := trodVars_none hV
  rw [List.append_nil] at hbef
  subst hbef
  have := (walk W base args ds before hval hA).2 W (St.all W)
  rw [Array.toArray_toList] at this
  refine this.mono fun e W' ⟨v,V',H',he,hv,hst⟩ => ⟨v,he,?_⟩
  subst hv
  have hb := St.below hst
  have hsp := hspec ds (trodAll_len hA)
  refine ⟨ds,[],before,[],before,[],hW',?_,?_,?_,hb.frame _,fun h => by cases h⟩
  · rw [List.append_nil,hsp,hres]; exact trodAll_mk1 (shut_bool htb true)
  · rw [List.append_nil,hsp]; exact trodAll_below hl hb hpar hA hlt
  · rw [List.append_nil,hsp,hvars]; rfl
end
end Go.K
namespace Go.K
section
variable {P : Program} {w : World}
end
section
variable {C : Cx} {V : Vw} {H : Hp} {L : Sl} {Q : Exit -> Act -> World -> Prop} {ops : Array Oper} {os : List Oper}
variable {ty : TypeId} {pos : String} {aft : Array Edge} {d : Nat}
theorem Run.buildSlice0 {t et : TypeId} {z : Nat} (ht : elemS C.P t = some (et,z)) (hd : d < C.n)
    (k : ∀ b,Run C ops V ([(b,.cells #[] et)] :: H) ((d,.slice (some ⟨b,0,none⟩) 0 0) :: L) os Q) :
    Run C ops V H L (⟨some d,.buildSlice t 0 #[],ty,pos,aft,none⟩ :: os) Q :=
  Run.step (p := fun v V' H' => ∃ b,v = .slice (some ⟨b,0,none⟩) 0 0 /\ V' = V /\ H' = [(b,.cells #[] et)] :: H) hd
    (fun a w i => by
      have hu := (under_elemS ht).1
      have hs := run_sizeOf (w := w) (under_elemS ht).2
      refine ⟨_,_,V,_,?_,⟨_,rfl,rfl,rfl⟩,i.2.alloc _⟩
      simp [execOp,Instr.buildSlice,run_underlying hu,hs,Instr.fill,newRow]
      rw [show Array.range 0 = #[] from by simp,Array.map_empty])
    (fun v V' H' ⟨b,h1,h2,h3⟩ => by subst h1 h2 h3; exact k b)
end
end Go.K
namespace Go.K
open Go.ChangeShapes Go.WideShapes Go.ChangeAt Go.RowKit
section
variable {H : Type} {enc : TypeId × Value -> H} {P : Program} {w : World} {held : Bool}
end
end Go.K
namespace Go.K
section
variable {C : Cx} {V : Vw} {H : Hp} {L : Sl} {ty : TypeId}
def ptrT (P : Program) (t : TypeId) : Bool := match P.underlying t with
  | some (.pointer _) => true
  | _ => false
theorem run_equal_nil {P : Program} {w : World} {t : TypeId} (ht : ptrT P t = true) (p : Option Addr) : (Op.equal t (.pointer p) (.pointer none)).run P w = .ok p.isNone w := by
  have hu : ∃ e,P.underlying t = some (.pointer e) := by
    unfold ptrT at ht; split at ht
    · exact ⟨_,‹_›⟩
    · cases ht
  obtain ⟨e,hu⟩ := hu
  unfold Op.equal
  rw [show Op.maxDepth = 9999 + 1 from rfl,Op.equalIn]
  cases p <;> simp [run_underlying hu]
theorem Y.eqNil {x y : Operand} {t t' : TypeId} {p : Option Addr} (hx : ev L x = some (.pointer p)) (hy : ev L y = some (.pointer none)) (ht : ptrT C.P t = true) : Yl C V H L (.binOp .eql t x y t') ty (.bool p.isNone) := (fun V2 a w hle i o ho hty => by
  have hg : (eqGuard .eql t x y (.pointer p) (.pointer none)).run C.P w = .ok () w := rfl
  simp only [execOp,ho,i.1.ev hx,i.1.ev hy,Sem.run_bind,hg,Result.andThen_ok,binOp,run_equal_nil ht,Sem.run_pure])
end
section
variable {C : Cx} {V : Vw} {H : Hp} {L : Sl} {Q : Exit -> Act -> World -> Prop} {ops : Array Oper} {os : List Oper} {K : Act -> World -> Prop}
theorem Run.off_u {o : Oper} {j : Nat} {t : Bool} {d dd : Nat} (hg : o.guard = some (j,t)) (hj : ((ops[j]?).bind (·.dst)) = some d) (hb : L.lookup d = some undef) (hd : o.dst = some dd) (hn : dd < C.n)
    (k : Run C ops V H ((dd,undef) :: L) os Q) : Run C ops V H L (o :: os) Q := fun a w i => by
  have hw : Region.wanted o (yielded ops a.tmps) = false := by
    simp only [Region.wanted,hg,yielded,hj,Option.bind_some,i.1.lk d _ hb]; cases t <;> rfl
  unfold wpList
  rw [if_neg (by simp [hw]),hd]
  exact k _ _ ⟨i.1.put hn _,i.2⟩
theorem RunQ.off_u {o : Oper} {j : Nat} {t : Bool} {d dd : Nat} (hg : o.guard = some (j,t)) (hj : ((ops[j]?).bind (·.dst)) = some d) (hb : L.lookup d = some undef) (hd : o.dst = some dd) (hn : dd < C.n)
    (k : RunQ C ops V H ((dd,undef) :: L) os K) : RunQ C ops V H L (o :: os) K := fun a i => by
  have hw : Region.wanted o (yielded ops a.tmps) = false := by
    simp only [Region.wanted,hg,yielded,hj,Option.bind_some,i.lk d _ hb]; cases t <;> rfl
  unfold wpQuiet
  rw [if_neg (by simp [hw]),hd]
  exact k _ (i.put hn _)
end
section
variable {L : Sl} {V : Vw} {H : Hp}
variable {fn : Func} {B : World} {S : List Nat} {U : Vw} {P : Program} {n : Nat} {R : Value -> Vw -> Hp -> Prop}
theorem Ex.retCellT {t ad b off z : Nat} {c : Array Value} {e : TypeId} {fz : Nat × Nat} {vs : List Value} {H0 : Hp} (m : Nat) (hr : fn.results = #[.cell ad t]) (hv : L.lookup ad = some (.pointer (some ⟨b,off,none⟩))) (ht : aggsz P t = some z) (hk : Kn V H b (.cells c e fz)) (hc : cellsAt c off z = some vs)
    (h0 : H = H.take m ++ H0) (hR : R (.agg vs.toArray) V H0) : Ex ⟨P,n,B,S,U,[]⟩ V H L (bodyPost P fn fun e w' => ∃ v V' H',e = .returned v /\ R v V' H' /\ St B S U V' H' w') .ret := fun a w i => by
  refine ⟨i.1.df,.agg vs.toArray,?_,_,V,H0,rfl,hR,?_⟩
  · have h1 := run_isAgg_agg (w := w) ht
    have h2 : a.tmps[ad]?.getD undef = .pointer (some ⟨b,off,none⟩) := by rw [i.1.lk _ _ hv]; rfl
    have h3 := run_loadCells (P := P) (hk.st i.2) off z 0 vs #[] hc
    simp [results,hr,Array.getD_eq_getD_getElem?,h2,asAddr,loadVar,h1.1,h1.2,loadCells,h3]
  · have := i.2; rw [h0] at this; exact this.drop
end
end Go.K
namespace Go.K
open Go.ChangeShapes Go.WideShapes Go.ChangeAt Go.RowKit
section
variable {H : Type} {enc : TypeId × Value -> H} {P : Program} {w : World} {base : Nat} {spare : Nat -> Bool} {held : Bool}
theorem flatten_at {z : Nat} : ∀ (rows : List (List Value)) (i o : Nat),(∀ r,r ∈ rows -> r.length = z) -> o < z -> rows.flatten[i * z + o]? = (rows[i]?).bind (·[o]?)
  | [],i,o,_,_ => by simp
  | r :: rows,0,o,h,ho => by
    have hr := h r (List.mem_cons_self ..)
    simp only [List.flatten_cons,Nat.zero_mul,Nat.zero_add,List.getElem?_cons_zero,Option.bind_some]
    rw [List.getElem?_append_left (by omega)]
  | r :: rows,i + 1,o,h,ho => by
    have hr := h r (List.mem_cons_self ..)
    simp only [List.flatten_cons,List.getElem?_cons_succ]
    rw [List.getElem?_append_right (by rw [hr,Nat.succ_mul]; omega),hr,show (i + 1) * z + o - z = i * z + o from by rw [Nat.succ_mul]; omega]
    exact flatten_at rows i o (fun r' h' => h r' (List.mem_cons_of_mem _ h')) ho
end
theorem cellsAt_of {c : Array Value} : ∀ (vs : List Value) (off : Nat),(∀ o,o < vs.length -> c[off + o]? = vs[o]?) -> cellsAt c off vs.length = some vs
  | [],_,_ => rfl
  | v :: vs,off,h => by
    have h0 := h 0 (by simp)
    have h1 := cellsAt_of vs (off + 1) (fun o ho => by have := h (o + 1) (by simp; omega); rw [show off + 1 + o = off + (o + 1) from by omega]; simpa using this)
    simp only [List.length_cons,cellsAt]
    rw [show c[off]? = some v from by simpa using h0,h1]
theorem row_at {α : Type} {f : α -> List Value} {z n off : Nat} {cs : Array Value} {l : List α} (hz : ∀ x,(f x).length = z) (h : ∀ j,j < n * z -> cs[off + j]? = (l.map f).flatten[j]?) {i : Nat} (hi : i < l.length) (hn : l.length <= n) (d : α) :
    ∀ o,o < z -> cs[off + (i : Int).toNat * z + o]? = (f (l.getD i d))[o]? := fun o ho => by
  have h1 : i * z + o < n * z := by
    have : (i + 1) * z <= n * z := Nat.mul_le_mul_right _ (by omega)
    rw [Nat.succ_mul] at this; omega
  rw [Int.toNat_natCast,Nat.add_assoc,h _ h1,flatten_at (z := z) _ i o (fun r hr => by obtain ⟨x,_,rfl⟩ := List.mem_map.1 hr; exact hz x) ho]
  rw [List.getElem?_map,List.getElem?_eq_getElem hi]
  simp [List.getD_eq_getElem?_getD,List.getElem?_eq_getElem hi]
end Go.K
namespace Go.K
open Go.ChangeShapes Go.WideShapes Go.ChangeAt Go.RowKit
section
variable {H : Type} {enc : TypeId × Value -> H} {P : Program} {w : World} {base : Nat} {spare : Nat -> Bool} {held : Bool}
end
end Go.K
namespace Go.K
section
variable {L : Sl} {V : Vw} {H : Hp}
variable {fn : Func} {B : World} {S : List Nat} {U : Vw} {P : Program} {n : Nat} {R : Value -> Vw -> Hp -> Prop}
end
end Go.K
namespace Go.K
open Go.ChangeShapes Go.WideShapes Go.ChangeAt Go.RowKit
section
variable {H : Type} {enc : TypeId × Value -> H} {P : Program} {w : World} {base : Nat} {spare : Nat -> Bool} {held : Bool}
end
end Go.K
namespace Go.K
section
variable {P : Program} {ops : Array Oper} {Q : Exit -> Act -> World -> Prop} {md : Region.Mode} {D : World -> Prop}
def anyL (P : Program) (md : Region.Mode) (ops : Array Oper) (D : World -> Prop) (z : Nat) (Q : Exit -> Act -> World -> Prop) : Nat -> Array Bool -> Act -> World -> Prop
  | 0,listed,a,w => Region.ready md ops listed = [] /\ Q .normal a w
  | f + 1,listed,a,w => (Region.ready md ops listed = [] -> Q .normal a w) /\ ∀ i,i ∈ Region.ready md ops listed -> wpOp P ops Q i (fun a' w' => (i ≠ z -> D w') /\ anyL P md ops D z Q f (listed.setIfInBounds i true) a' w') a w
theorem any_of_anyL {z : Nat} : ∀ (f : Nat) (listed : Array Bool) (a : Act) (w : World),anyL P md ops D z Q f listed a w -> wpAny P md ops Q f listed a w
  | 0,_,_,_,h => h
  | f + 1,_,_,_,h => ⟨h.1,fun i hi => wpOp_mono (fun a' w' h' => any_of_anyL f _ a' w' h'.2) (h.2 i hi)⟩
def waits (md : Region.Mode) (ops : Array Oper) (z i : Nat) : Bool := match ops[z]? with
  | some o => o.after.any fun e => Region.binds md e && Nat.beq e.on i
  | none => false
theorem waits_spec {z i : Nat} (h : waits md ops z i = true) : ∃ o e,ops[z]? = some o /\ e ∈ o.after /\ Region.binds md e = true /\ e.on = i := by
  unfold waits at h
  split at h
  · rename_i o ho
    obtain ⟨e,he,h2⟩ := Array.any_eq_true'.1 h
    simp only [Bool.and_eq_true] at h2
    exact ⟨o,e,ho,he,h2.1,Nat.eq_of_beq_eq_true h2.2⟩
  · cases h
theorem anyL_take {z i : Nat} {oi : Oper} {v : Value} (hi : ops[i]? = some oi) (hsel : ∀ (j : Nat) (o : Oper) cs b,ops[j]? = some o -> o.op ≠ .select cs b) (hQ : ∀ c a w,Q (.panic c) (a.put oi.dst v) w -> Q (.panic c) a w) (hz : waits md ops z i = true) (f : Nat) :
    ∀ (listed : Array Bool) (a : Act) (w : World),(∀ j oj,ops[j]? = some oj -> j ≠ i -> listed.getD j true = false -> (∀ e,e ∈ oj.after -> Region.binds md e = true -> e.on ≠ i) -> oi.apart ops oj = true) ->
      i ∈ Region.ready md ops listed -> D w -> YieldsD P ops D oi v a -> anyL P md ops D z Q f (listed.setIfInBounds i true) (a.put oi.dst v) w -> anyL P md ops D z Q (f + 1) listed a w := by
  induction f with
  | zero =>
    intro listed a w _ hr hw hy hh
    refine ⟨fun h => (by rw [h] at hr; cases hr),fun j hj => ?_⟩
    by_cases e : j = i
    · subst e; exact hy.wpOp hi hw ⟨fun _ => hw,hh⟩
    · have := ready_mono hj e
      rw [hh.1] at this; cases this
  | succ f ih =>
    intro listed a w hfree hr hw hy hh
    refine ⟨fun h => (by rw [h] at hr; cases hr),fun j hj => ?_⟩
    by_cases e : j = i
    · subst e; exact hy.wpOp hi hw ⟨fun _ => hw,hh⟩
    · obtain ⟨hju,oj,hoj,hdeps⟩ := mem_ready.1 hj
      have hjz : j ≠ z := fun q => by
        obtain ⟨oz,ed,h1,h2,h3,h4⟩ := waits_spec hz
        rw [q,h1] at hoj; cases hoj
        have h5 := hdeps ed h2 h3
        rw [h4,getD_both (mem_ready.1 hr).1] at h5
        cases h5
      have hno : ∀ ed,ed ∈ oj.after -> Region.binds md ed = true -> ed.on ≠ i := fun ed he hb heq => by
        have h1 := hdeps ed he hb
        rw [heq,getD_both (mem_ready.1 hr).1] at h1
        cases h1
      have h2 := wpOp_apart hoj (hfree j oj hoj e hju hno) (fun cs b => hsel i oi cs b hi) (fun cs b => hsel j oj cs b hoj) hQ hy (hh.2 j (ready_mono hj e))
      refine wpOp_mono (fun a' w' ⟨h3,h4',h5⟩ => have h4 := h4' hjz; ⟨fun _ => h4,ih (listed.setIfInBounds j true) a' w' (fun k ok hk hki hku hkn => hfree k ok hk hki ?_ hkn) (ready_mono hr fun q => e q.symm) h4 h3 ?_⟩) h2
      · by_cases q : j = k
        · subst q; exact hju
        · rw [getD_set_ne true q] at hku; exact hku
      · rw [Array.setIfInBounds_comm _ _ e]; exact h5
end
section
variable {C : Cx} {V : Vw} {H : Hp} {L : Sl} {Q : Exit -> Act -> World -> Prop} {ops : Array Oper} {os : List Oper}
variable {ty : TypeId} {pos : String} {aft : Array Edge} {d : Nat}
def RunL (C : Cx) (ops : Array Oper) (S0 : Sg) (z g : Nat) (listed : Array Bool) (V : Vw) (H : Hp) (L : Sl) (Q : Exit -> Act -> World -> Prop) : Prop := ∀ a w,Is C V H L a w -> anyL C.P .any ops (DK S0) z Q g listed a w
theorem Tr.anyL {id : Nat} {l : List Oper} (S0 : Sg) (z : Nat) (hm : C.P.follows .mixedOrders = true) (h : RunL C l.toArray S0 z l.toArray.size (Array.replicate l.toArray.size false) V H L Q) : Tr C V H L (.region id l.toArray true) Q :=
  fun a w i => wp_region_any hm (any_of_anyL _ _ _ _ (h a _ ⟨i.1,i.2.drew⟩))
variable {S0 : Sg} {z : Nat}
theorem RunL.done {g : Nat} {listed : Array Bool} (hr : Region.ready .any ops listed = []) (h : Ex C V H L Q .normal) : RunL C ops S0 z g listed V H L Q := fun a w i => by
  cases g with
  | zero => exact ⟨hr,h a w i⟩
  | succ g => exact ⟨fun _ => h a w i,fun j hj => by rw [hr] at hj; cases hj⟩
theorem RunL.one {g i : Nat} {o : Oper} {listed : Array Bool} (hr : Region.ready .any ops listed = [i]) (ho : ops[i]? = some o)
    (h : Run C ops V H L [o] (Exit.then (fun a' w' => (i ≠ z -> DK S0 w') /\ K.anyL C.P .any ops (DK S0) z Q g (listed.setIfInBounds i true) a' w') Q)) : RunL C ops S0 z (g + 1) listed V H L Q := fun a w q =>
  ⟨fun h0 => (by rw [hr] at h0; cases h0),fun j hj => by rw [hr,List.mem_singleton] at hj; subst hj; exact wpOp_of_run ho (h a w q)⟩
theorem RunL.two {g i j : Nat} {o o' : Oper} {listed : Array Bool} (hr : Region.ready .any ops listed = [i,j]) (ho : ops[i]? = some o) (ho' : ops[j]? = some o')
    (h : Run C ops V H L [o] (Exit.then (fun a' w' => (i ≠ z -> DK S0 w') /\ K.anyL C.P .any ops (DK S0) z Q g (listed.setIfInBounds i true) a' w') Q))
    (h' : Run C ops V H L [o'] (Exit.then (fun a' w' => (j ≠ z -> DK S0 w') /\ K.anyL C.P .any ops (DK S0) z Q g (listed.setIfInBounds j true) a' w') Q)) : RunL C ops S0 z (g + 1) listed V H L Q := fun a w q =>
  ⟨fun h0 => (by rw [hr] at h0; cases h0),fun k hk => by
    rw [hr] at hk
    rcases List.mem_cons.1 hk with rfl | hk
    · exact wpOp_of_run ho (h a w q)
    · rw [List.mem_singleton] at hk; subst hk; exact wpOp_of_run ho' (h' a w q)⟩
theorem Ex.anyL {i g : Nat} {listed : Array Bool} (hk : KnAll V H S0) (h : RunL C ops S0 z g listed V H L Q) : Ex C V H L (Exit.then (fun a' w' => (i ≠ z -> DK S0 w') /\ K.anyL C.P .any ops (DK S0) z Q g listed a' w') Q)   .normal := fun a w q => ⟨fun _ b o hb => (hk b o hb).st q.2,h a w q⟩
theorem RunL.take {g i : Nat} {op : Op} {v : Value} {listed : Array Bool} {b : Nat} {o : Obj} (m : Nat) (hm : S0[m]? = some (b,o)) (ho : ops[i]? = some ⟨some d,op,ty,pos,aft,none⟩) (hs : Region.noSelect ops = true) (hf : Region.free .any ops listed i = true)
    (hr : (Region.ready .any ops listed).contains i = true) (hz : waits .any ops z i = true) (hQ : ∀ c a w,Q (.panic c) (a.put (some d) v) w -> Q (.panic c) a w) (hd : d < C.n) (hk : KnAll V H S0) (hy : ∀ B,Yl (CK C [(b,o)] B) (VK [(b,o)]) [] L op ty v)
    (h : RunL C ops S0 z g (listed.setIfInBounds i true) V H ((d,v) :: L) Q) : RunL C ops S0 z (g + 1) listed V H L Q := fun a w q =>
  anyL_take ho (Region.noSelect_spec hs) hQ hz g listed a w (Region.free_spec ho hf) (by simpa using hr) (fun b o hb => (hk b o hb).st q.2)
    (.inl ⟨by simp [Region.wanted],fun w' hw' => hy w' _ a w' (Vw.le_refl _) ⟨q.1,stK fun c oc hc => by rw [List.mem_singleton] at hc; cases hc; exact hw' b o (List.mem_of_getElem? hm)⟩ _ rfl rfl⟩) (h _ w ⟨q.1.put hd v,q.2⟩)
theorem RunL.pure {g i : Nat} {op : Op} {v : Value} {listed : Array Bool} (ho : ops[i]? = some ⟨some d,op,ty,pos,aft,none⟩) (hs : Region.noSelect ops = true) (hf : Region.free .any ops listed i = true)
    (hr : (Region.ready .any ops listed).contains i = true) (hz : waits .any ops z i = true) (hQ : ∀ c a w,Q (.panic c) (a.put (some d) v) w -> Q (.panic c) a w) (hd : d < C.n) (hk : KnAll V H S0) (hy : ∀ B,Yl (CK C [] B) (VK []) [] L op ty v)
    (h : RunL C ops S0 z g (listed.setIfInBounds i true) V H ((d,v) :: L) Q) : RunL C ops S0 z (g + 1) listed V H L Q := fun a w q =>
  anyL_take ho (Region.noSelect_spec hs) hQ hz g listed a w (Region.free_spec ho hf) (by simpa using hr) (fun b o hb => (hk b o hb).st q.2)
    (.inl ⟨by simp [Region.wanted],fun w' _ => hy w' _ a w' (Vw.le_refl _) ⟨q.1,stK fun c oc hc => by cases hc⟩ _ rfl rfl⟩) (h _ w ⟨q.1.put hd v,q.2⟩)
theorem Ex.anyLz {i g : Nat} {listed : Array Bool} (he : i = z) (h : RunL C ops S0 z g listed V H L Q) : Ex C V H L (Exit.then (fun a' w' => (i ≠ z -> DK S0 w') /\ K.anyL C.P .any ops (DK S0) z Q g listed a' w') Q) .normal := fun a w q => ⟨fun hn => absurd he hn,h a w q⟩
end
end Go.K
namespace Go.K
section
variable {V : Vw} {H : Hp}
theorem Kn.of_nil {b : Nat} {o : Obj} (h : Kn V [] b o) : Kn V H b o := h.imp id (fun h => by cases h)
theorem Ow.open {e : TypeId} {k : Nat} {v : Value} {n : Nat} {xs : List Value} {s : Sg} (h : Ow e k v n xs s) (hn : 0 < n) : ∃ b cap cur,v = .slice (some ⟨b,0,none⟩) n cap /\ s = [(b,.cells cur e (0,0))] /\ n <= cap /\ ∀ j,j < n * k -> cur[0 + j]? = xs[j]? := by
  obtain ⟨_,⟨_,h2,_⟩ | ⟨b,cap,cur,h1,h2,h3,_,_,h4⟩⟩ := h
  · omega
  · exact ⟨b,cap,cur,h1,h2,h3,fun j hj => by rw [Nat.zero_add]; exact h4 j hj⟩
end
section
variable {C : Cx} {V : Vw} {H : Hp} {L : Sl} {Q : Exit -> Act -> World -> Prop} {ops : Array Oper} {os : List Oper}
theorem Run.show {s : Sg} (k : ∀ V2 : Vw,V.le V2 -> (∀ b o,s.lookup b = some o -> V2 b = some o) -> Run C ops V2 H L os Q) : Run C ops V (s :: H) L os Q := fun a w i =>
  k (fun c => match s.lookup c with | some o => some o | none => V c) (fun b o h => by
    have hn := i.2.vd b o h
    have hl : s.lookup b = none := by
      cases hl : s.lookup b with
      | none => rfl
      | some o' => exact absurd (mem_keys (H := s :: H) (o := o') (by rw [List.flatten_cons]; exact List.mem_append_left _ (lookup_mem hl))) hn
    simp only [hl]; exact h) (fun b o h => by simp only [h]) a w ⟨i.1,i.2.leak⟩
theorem Ow.show {e : TypeId} {k : Nat} {v : Value} {n : Nat} {xs : List Value} {s : Sg} {V2 : Vw} (h : Ow e k v n xs s) (hs : ∀ b o,s.lookup b = some o -> V2 b = some o) : Rd V2 H k v n xs := by
  obtain ⟨h1,h2⟩ := h
  refine ⟨h1,?_⟩
  rcases h2 with ⟨rfl,rfl,rfl⟩ | ⟨b,cap,cur,rfl,rfl,h3,h4,h5,h6⟩
  · exact ⟨none,0,rfl,Nat.le_refl _,.inl rfl⟩
  · exact ⟨_,cap,rfl,h3,.inr ⟨b,0,cur,e,(0,0),rfl,.inl (hs b _ (by simp [List.lookup])),fun j hj => by rw [Nat.zero_add]; exact h6 j hj⟩⟩
end
end Go.K
namespace Go.K
def Shows (k : Nat) (v : Value) (n : Nat) (xs : List Value) (s : Sg) : Prop := ∀ V2 : Vw,(∀ b o,s.lookup b = some o -> V2 b = some o) -> Rd V2 [] k v n xs
theorem Ow.shows {e k : Nat} {v : Value} {n : Nat} {xs : List Value} {s : Sg} (h : Ow e k v n xs s) : Shows k v n xs s := fun V2 hs => h.show hs
section
variable {C : Cx} {V : Vw} {H : Hp} {L : Sl} {Q : Exit -> Act -> World -> Prop} {ops : Array Oper} {os : List Oper}
variable {ty : TypeId} {pos : String} {aft : Array Edge} {d : Nat}
theorem Ex.show {e : Exit} {s : Sg} (k : ∀ V2 : Vw,V.le V2 -> (∀ b o,s.lookup b = some o -> V2 b = some o) -> Ex C V2 H L Q e) : Ex C V (s :: H) L Q e := fun a w i =>
  k (fun c => match s.lookup c with | some o => some o | none => V c) (fun b o h => by
    have hn := i.2.vd b o h
    have hl : s.lookup b = none := by
      cases hl : s.lookup b with
      | none => rfl
      | some o' => exact absurd (mem_keys (H := s :: H) (o := o') (by rw [List.flatten_cons]; exact List.mem_append_left _ (lookup_mem hl))) hn
    simp only [hl]; exact h) (fun b o h => by simp only [h]) a w ⟨i.1,i.2.leak⟩
theorem Ex.keepTo {e : Exit} {H' : Hp} (is : List Nat) (h : (pull is H).2 = H') (k : Ex C V H' L Q e) : Ex C V H L Q e := Ex.keep is (by rw [h]; exact k)
theorem Run.keepTo {H' : Hp} (is : List Nat) (h : (pull is H).2 = H') (k : Run C ops V H' L os Q) : Run C ops V H L os Q := Run.keep is (by rw [h]; exact k)
theorem Run.heapTo {H' : Hp} (h : H = H') (k : Run C ops V H' L os Q) : Run C ops V H L os Q := by subst h; exact k
theorem Run.strBytes {x : Operand} {s t e : TypeId} {str : ByteArray} (hx : ev L x = some (.string str)) (hs : elemS C.P t = some (e,1)) (he : tagOf C.P e = some (0,.u8)) (ht : strT C.P s = true) (hd : d < C.n)
    (kk : ∀ v s',Shows 1 v str.size (str.toList.map byteV) s' -> (∃ p c,v = .slice p str.size c) -> Run C ops V (s' :: H) ((d,v) :: L) os Q) :
    Run C ops V H L (⟨some d,.convert s t x,ty,pos,aft,none⟩ :: os) Q :=
  Run.step (p := fun v V' H' => ∃ s',Shows 1 v str.size (str.toList.map byteV) s' /\ (∃ p c,v = .slice p str.size c) /\ V' = V /\ H' = s' :: H) hd (fun a w i => by
    have hu := (under_elemS hs).1
    have hut := under_str ht
    have hue : C.P.underlying e = some (.int .u8) := by
      unfold tagOf at he
      cases hd : C.P.underlying e with
      | none => rw [hd] at he; cases he
      | some q => rw [hd] at he; cases q <;> simp at he <;> rw [he]
    have hr := run_bytes_of_string (P := C.P) w s t e str hut hu hue
    have hcell := grownCap_ge w str.size 0 e
    have hrun : (execOp a.eval ⟨some d,.convert s t x,ty,pos,aft,none⟩).run C.P w = .ok (.value (.slice (some ⟨w.heap.size,0,none⟩) str.size (grownCap w str.size 0 e))) (w.drew.alloc (.cells (bytesRow str (grownCap w str.size 0 e)) e ((bytesRow str (grownCap w str.size 0 e)).size,(bytesRow str (grownCap w str.size 0 e)).size + 1))) := by
      simp only [execOp,i.1.ev hx,Sem.run_bind,hr]; rfl
    refine ⟨_,_,V,_,hrun,⟨_,?_,⟨_,_,rfl⟩,rfl,rfl⟩,i.2.drew.alloc _⟩
    · intro V2 hsh
      refine ⟨by simp [ByteArray.toList_eq],_,_,rfl,hcell,.inr ⟨w.heap.size,0,_,_,_,rfl,.inl (hsh w.heap.size _ (by simp only [List.lookup,beq_self_eq_true]; rfl)),fun j hj => ?_⟩⟩
      rw [Nat.zero_add]
      unfold bytesRow
      rw [Array.getElem?_append_left (by simpa using hj)]
      simp [ByteArray.toList_eq]
      rfl)
    (fun v V' H' ⟨s',q1,q2,q3,q4⟩ => by subst q3 q4; exact kk v s' q1 q2)
end
end Go.K
namespace Go.K
section
variable {P : Program} {ops : Array Oper} {Q : Exit -> Act -> World -> Prop} {md : Region.Mode} {D : World -> Prop}
def preZ (ops : Array Oper) (z : Nat) (listed : Array Bool) : Prop := ∀ j,z <= j -> j < ops.size -> listed.getD j true = false
theorem preZ.less {z i : Nat} {listed : Array Bool} (h : preZ ops z (listed.setIfInBounds i true)) : preZ ops z listed := fun j hz hj => by
  have := h j hz hj
  by_cases e : i = j
  · subst e; simp only [Array.getD_eq_getD_getElem?,Array.getElem?_setIfInBounds] at this; exfalso; revert this; rw [if_pos trivial]; split <;> simp
  · rwa [getD_set_ne true e] at this
theorem preZ.more {z i : Nat} {listed : Array Bool} (h : preZ ops z listed) (hi : i < z) : preZ ops z (listed.setIfInBounds i true) := fun j hz hj => by
  rw [getD_set_ne true (show i ≠ j by omega)]; exact h j hz hj
def anyT (P : Program) (md : Region.Mode) (ops : Array Oper) (D : World -> Prop) (z : Nat) (Q : Exit -> Act -> World -> Prop) : Nat -> Array Bool -> Act -> World -> Prop
  | 0,listed,a,w => Region.ready md ops listed = [] /\ Q .normal a w
  | f + 1,listed,a,w => (Region.ready md ops listed = [] -> Q .normal a w) /\ ∀ i,i ∈ Region.ready md ops listed -> wpOp P ops Q i (fun a' w' => (preZ ops z (listed.setIfInBounds i true) -> D w') /\ anyT P md ops D z Q f (listed.setIfInBounds i true) a' w') a w
theorem any_of_anyT {z : Nat} : ∀ (f : Nat) (listed : Array Bool) (a : Act) (w : World),anyT P md ops D z Q f listed a w -> wpAny P md ops Q f listed a w
  | 0,_,_,_,h => h
  | f + 1,_,_,_,h => ⟨h.1,fun i hi => wpOp_mono (fun a' w' h' => any_of_anyT f _ a' w' h'.2) (h.2 i hi)⟩
def waitsT (md : Region.Mode) (ops : Array Oper) (z i : Nat) : Bool := match ops[z]? with
  | some o => o.after.any fun e => Region.binds md e && Nat.beq e.on i
  | none => false
theorem waitsT_spec {z i : Nat} (h : waitsT md ops z i = true) : ∃ o e,ops[z]? = some o /\ e ∈ o.after /\ Region.binds md e = true /\ e.on = i := by
  unfold waitsT at h
  split at h
  · rename_i o ho
    obtain ⟨e,he,h2⟩ := Array.any_eq_true'.1 h
    simp only [Bool.and_eq_true] at h2
    exact ⟨o,e,ho,he,h2.1,Nat.eq_of_beq_eq_true h2.2⟩
  · cases h
def waitsAll (md : Region.Mode) (ops : Array Oper) (z i : Nat) : Bool := (List.range ops.size).all fun j => Nat.blt j z || waitsT md ops j i
theorem waitsAll_spec {z i j : Nat} (h : waitsAll md ops z i = true) (hj : j < ops.size) (hz : z <= j) : waitsT md ops j i = true := by
  unfold waitsAll at h
  have := List.all_eq_true.1 h j (List.mem_range.2 hj)
  have hb : Nat.blt j z = false := by rw [Bool.eq_false_iff]; intro hc; rw [Nat.blt_eq] at hc; omega
  simpa [hb] using this
theorem anyT_take {z i : Nat} {oi : Oper} {v : Value} (hi : ops[i]? = some oi) (hsel : ∀ (j : Nat) (o : Oper) cs b,ops[j]? = some o -> o.op ≠ .select cs b) (hQ : ∀ c a w,Q (.panic c) (a.put oi.dst v) w -> Q (.panic c) a w) (hz : waitsAll md ops z i = true) (hiz : i < z) (f : Nat) :
    ∀ (listed : Array Bool) (a : Act) (w : World),(∀ j oj,ops[j]? = some oj -> j ≠ i -> listed.getD j true = false -> (∀ e,e ∈ oj.after -> Region.binds md e = true -> e.on ≠ i) -> oi.apart ops oj = true) ->
      i ∈ Region.ready md ops listed -> preZ ops z listed -> D w -> YieldsD P ops D oi v a -> anyT P md ops D z Q f (listed.setIfInBounds i true) (a.put oi.dst v) w -> anyT P md ops D z Q (f + 1) listed a w := by
  induction f with
  | zero =>
    intro listed a w _ hr hp hw hy hh
    refine ⟨fun h => (by rw [h] at hr; cases hr),fun j hj => ?_⟩
    by_cases e : j = i
    · subst e; exact hy.wpOp hi hw ⟨fun _ => hw,hh⟩
    · have := ready_mono hj e
      rw [hh.1] at this; cases this
  | succ f ih =>
    intro listed a w hfree hr hp hw hy hh
    refine ⟨fun h => (by rw [h] at hr; cases hr),fun j hj => ?_⟩
    by_cases e : j = i
    · subst e; exact hy.wpOp hi hw ⟨fun _ => hw,hh⟩
    · obtain ⟨hju,oj,hoj,hdeps⟩ := mem_ready.1 hj
      have hjz : j < z := Nat.lt_of_not_le fun q => by
        obtain ⟨oz,ed,h1,h2,h3,h4⟩ := waitsT_spec (waitsAll_spec hz (Array.getElem?_eq_some_iff.1 hoj).1 q)
        rw [h1] at hoj; cases hoj
        have h5 := hdeps ed h2 h3
        rw [h4,getD_both (mem_ready.1 hr).1] at h5
        cases h5
      have hno : ∀ ed,ed ∈ oj.after -> Region.binds md ed = true -> ed.on ≠ i := fun ed he hb heq => by
        have h1 := hdeps ed he hb
        rw [heq,getD_both (mem_ready.1 hr).1] at h1
        cases h1
      have h2 := wpOp_apart hoj (hfree j oj hoj e hju hno) (fun cs b => hsel i oi cs b hi) (fun cs b => hsel j oj cs b hoj) hQ hy (hh.2 j (ready_mono hj e))
      refine wpOp_mono (fun a' w' ⟨h3,h4',h5⟩ => have h4 := h4' ((hp.more hiz).more hjz); ⟨fun _ => h4,ih (listed.setIfInBounds j true) a' w' (fun k ok hk hki hku hkn => hfree k ok hk hki ?_ hkn) (ready_mono hr fun q => e q.symm) (hp.more hjz) h4 h3 ?_⟩) h2
      · by_cases q : j = k
        · subst q; exact hju
        · rw [getD_set_ne true q] at hku; exact hku
      · rw [Array.setIfInBounds_comm _ _ e]; exact h5
theorem anyT_pure {z i : Nat} {oi : Oper} {v : Value} (hi : ops[i]? = some oi) (hsel : ∀ (j : Nat) (o : Oper) cs b,ops[j]? = some o -> o.op ≠ .select cs b) (hQ : ∀ c a w,Q (.panic c) (a.put oi.dst v) w -> Q (.panic c) a w) (hiz : i < z) (f : Nat) :
    ∀ (listed : Array Bool) (a : Act) (w : World),(∀ j oj,ops[j]? = some oj -> j ≠ i -> listed.getD j true = false -> (∀ e,e ∈ oj.after -> Region.binds md e = true -> e.on ≠ i) -> oi.apart ops oj = true) ->
      i ∈ Region.ready md ops listed -> (preZ ops z listed -> D w) -> YieldsD P ops (fun _ => True) oi v a -> anyT P md ops D z Q f (listed.setIfInBounds i true) (a.put oi.dst v) w -> anyT P md ops D z Q (f + 1) listed a w := by
  induction f with
  | zero =>
    intro listed a w _ hr hw hy hh
    refine ⟨fun h => (by rw [h] at hr; cases hr),fun j hj => ?_⟩
    by_cases e : j = i
    · subst e; exact hy.wpOp hi trivial ⟨fun h => hw h.less,hh⟩
    · have := ready_mono hj e
      rw [hh.1] at this; cases this
  | succ f ih =>
    intro listed a w hfree hr hw hy hh
    refine ⟨fun h => (by rw [h] at hr; cases hr),fun j hj => ?_⟩
    by_cases e : j = i
    · subst e; exact hy.wpOp hi trivial ⟨fun h => hw h.less,hh⟩
    · obtain ⟨hju,oj,hoj,hdeps⟩ := mem_ready.1 hj
      have hno : ∀ ed,ed ∈ oj.after -> Region.binds md ed = true -> ed.on ≠ i := fun ed he hb heq => by
        have h1 := hdeps ed he hb
        rw [heq,getD_both (mem_ready.1 hr).1] at h1
        cases h1
      have h2 := wpOp_apart hoj (hfree j oj hoj e hju hno) (fun cs b => hsel i oi cs b hi) (fun cs b => hsel j oj cs b hoj) hQ hy (hh.2 j (ready_mono hj e))
      have hm : preZ ops z (listed.setIfInBounds j true) -> preZ ops z ((listed.setIfInBounds i true).setIfInBounds j true) := fun h => by
        rw [Array.setIfInBounds_comm _ _ (fun q => e q.symm)]; exact h.more hiz
      refine wpOp_mono (fun a' w' ⟨h3,h4',h5⟩ => ⟨fun h => h4' (hm h),ih (listed.setIfInBounds j true) a' w' (fun k ok hk hki hku hkn => hfree k ok hk hki ?_ hkn) (ready_mono hr fun q => e q.symm) (fun h => h4' (hm h)) h3 ?_⟩) h2
      · by_cases q : j = k
        · subst q; exact hju
        · rw [getD_set_ne true q] at hku; exact hku
      · rw [Array.setIfInBounds_comm _ _ e]; exact h5
end
section
variable {C : Cx} {V : Vw} {H : Hp} {L : Sl} {Q : Exit -> Act -> World -> Prop} {ops : Array Oper} {os : List Oper}
variable {ty : TypeId} {pos : String} {aft : Array Edge} {d : Nat}
def RunT (C : Cx) (ops : Array Oper) (S0 : Sg) (z g : Nat) (listed : Array Bool) (V : Vw) (H : Hp) (L : Sl) (Q : Exit -> Act -> World -> Prop) : Prop := ∀ a w,Is C V H L a w -> anyT C.P .any ops (DK S0) z Q g listed a w
theorem Tr.anyT {id : Nat} {l : List Oper} (S0 : Sg) (z : Nat) (hm : C.P.follows .mixedOrders = true) (h : RunT C l.toArray S0 z l.toArray.size (Array.replicate l.toArray.size false) V H L Q) : Tr C V H L (.region id l.toArray true) Q :=
  fun a w i => wp_region_any hm (any_of_anyT _ _ _ _ (h a _ ⟨i.1,i.2.drew⟩))
variable {S0 : Sg} {z : Nat}
theorem RunT.done {g : Nat} {listed : Array Bool} (hr : Region.ready .any ops listed = []) (h : Ex C V H L Q .normal) : RunT C ops S0 z g listed V H L Q := fun a w i => by
  cases g with
  | zero => exact ⟨hr,h a w i⟩
  | succ g => exact ⟨fun _ => h a w i,fun j hj => by rw [hr] at hj; cases hj⟩
theorem RunT.one {g i : Nat} {o : Oper} {listed : Array Bool} (hr : Region.ready .any ops listed = [i]) (ho : ops[i]? = some o)
    (h : Run C ops V H L [o] (Exit.then (fun a' w' => (preZ ops z (listed.setIfInBounds i true) -> DK S0 w') /\ K.anyT C.P .any ops (DK S0) z Q g (listed.setIfInBounds i true) a' w') Q)) : RunT C ops S0 z (g + 1) listed V H L Q := fun a w q =>
  ⟨fun h0 => (by rw [hr] at h0; cases h0),fun j hj => by rw [hr,List.mem_singleton] at hj; subst hj; exact wpOp_of_run ho (h a w q)⟩
theorem Ex.anyTz {i g : Nat} {listed : Array Bool} (he : listed.getD i false = true) (hz : Nat.ble z i = true) (hi : Nat.blt i ops.size = true) (h : RunT C ops S0 z g listed V H L Q) : Ex C V H L (Exit.then (fun a' w' => (preZ ops z listed -> DK S0 w') /\ K.anyT C.P .any ops (DK S0) z Q g listed a' w') Q) .normal := fun a w q =>
  ⟨fun hn => by
    have h1 := hn i (Nat.le_of_ble_eq_true hz) (by rw [Nat.blt_eq] at hi; exact hi)
    rw [Array.getD_eq_getD_getElem?] at he h1
    cases h2 : listed[i]? with
    | none => rw [h2] at he; cases he
    | some x => rw [h2] at he h1; simp at he h1; rw [he] at h1; exact absurd h1 (by simp),h a w q⟩
def noneZ (ops : Array Oper) (z : Nat) (listed : Array Bool) : Bool := (List.range ops.size).all fun j => Nat.blt j z || !(listed.getD j true)
theorem noneZ_spec {listed : Array Bool} (h : noneZ ops z listed = true) : preZ ops z listed := fun j hz hj => by
  have := List.all_eq_true.1 h j (List.mem_range.2 hj)
  have hb : Nat.blt j z = false := by rw [Bool.eq_false_iff]; intro hc; rw [Nat.blt_eq] at hc; omega
  simpa [hb] using this
theorem RunT.take {g i : Nat} {op : Op} {v : Value} {listed : Array Bool} {b : Nat} {o : Obj} (m : Nat) (hm : S0[m]? = some (b,o)) (ho : ops[i]? = some ⟨some d,op,ty,pos,aft,none⟩) (hs : Region.noSelect ops = true) (hf : Region.free .any ops listed i = true)
    (hr : (Region.ready .any ops listed).contains i = true) (hz : (waitsAll .any ops z i && noneZ ops z listed && Nat.blt i z) = true) (hQ : ∀ c a w,Q (.panic c) (a.put (some d) v) w -> Q (.panic c) a w) (hd : d < C.n) (hk : KnAll V H S0) (hy : ∀ B,Yl (CK C [(b,o)] B) (VK [(b,o)]) [] L op ty v)
    (h : RunT C ops S0 z g (listed.setIfInBounds i true) V H ((d,v) :: L) Q) : RunT C ops S0 z (g + 1) listed V H L Q := fun a w q => by
  simp only [Bool.and_eq_true,Nat.blt_eq] at hz
  exact anyT_take ho (Region.noSelect_spec hs) hQ hz.1.1 hz.2 g listed a w (Region.free_spec ho hf) (by simpa using hr) (noneZ_spec hz.1.2) (fun b o hb => (hk b o hb).st q.2)
    (.inl ⟨by simp [Region.wanted],fun w' hw' => hy w' _ a w' (Vw.le_refl _) ⟨q.1,stK fun c oc hc => by rw [List.mem_singleton] at hc; cases hc; exact hw' b o (List.mem_of_getElem? hm)⟩ _ rfl rfl⟩) (h _ w ⟨q.1.put hd v,q.2⟩)
theorem RunT.pure {g i : Nat} {op : Op} {v : Value} {listed : Array Bool} (ho : ops[i]? = some ⟨some d,op,ty,pos,aft,none⟩) (hs : Region.noSelect ops = true) (hf : Region.free .any ops listed i = true)
    (hr : (Region.ready .any ops listed).contains i = true) (hz : Nat.blt i z = true) (hQ : ∀ c a w,Q (.panic c) (a.put (some d) v) w -> Q (.panic c) a w) (hd : d < C.n) (hk : KnAll V H S0) (hy : ∀ B,Yl (CK C [] B) (VK []) [] L op ty v)
    (h : RunT C ops S0 z g (listed.setIfInBounds i true) V H ((d,v) :: L) Q) : RunT C ops S0 z (g + 1) listed V H L Q := fun a w q =>
  anyT_pure ho (Region.noSelect_spec hs) hQ (by rw [Nat.blt_eq] at hz; exact hz) g listed a w (Region.free_spec ho hf) (by simpa using hr) (fun _ b o hb => (hk b o hb).st q.2)
    (.inl ⟨by simp [Region.wanted],fun w' _ => hy w' _ a w' (Vw.le_refl _) ⟨q.1,stK fun c oc hc => by cases hc⟩ _ rfl rfl⟩) (h _ w ⟨q.1.put hd v,q.2⟩)
end
end Go.K
namespace Go.K
open Go.ChangeShapes Go.WideShapes Go.ChangeAt Go.RowKit
inductive Sh where
  | tag (g : Nat × IntKind)
  | sl (e : TypeId) (z : Nat)
  | fl (k : FloatKind)
section
variable {H : Type} {enc : TypeId × Value -> H} {P : Program} {w : World} {base : Nat} {spare : Nat -> Bool} {held : Bool}
end
end Go.K
namespace Go.K
open Go.ChangeShapes Go.WideShapes Go.ChangeAt Go.RowKit
end Go.K
namespace Go.K
open Go.Sort
def cel {α : Type} (enc : α -> List Value) (d : Array α) (rest : List Value) : List Value := d.toList.flatMap enc ++ rest
def sgD {α : Type} (enc : α -> List Value) (e : TypeId) (b : Nat) (rest : List Value) (d : Array α) : Sg := [(b,.cells (cel enc d rest).toArray e (0,0))]
structure Enc {α : Type} (enc : α -> List Value) (k : Nat) : Prop where
  len : ∀ x,(enc x).length = k
  one : ∀ x,(enc x).all one = true
theorem flat_len {α : Type} {enc : α -> List Value} {k : Nat} (h : Enc enc k) : ∀ l : List α,(l.flatMap enc).length = l.length * k
  | [] => by simp
  | x :: l => by rw [List.flatMap_cons,List.length_append,h.len,flat_len h l,List.length_cons,Nat.add_mul]; omega
theorem flat_at {α : Type} {enc : α -> List Value} {k : Nat} (h : Enc enc k) (r : List Value) : ∀ (l : List α) (i j : Nat) (x : α),l[i]? = some x -> j < k -> (l.flatMap enc ++ r)[i * k + j]? = (enc x)[j]?
  | [],i,j,x,hx,_ => by simp at hx
  | y :: l,0,j,x,hx,hj => by
    simp at hx; subst hx
    rw [List.flatMap_cons,List.append_assoc,List.getElem?_append_left (by rw [h.len]; omega)]; simp
  | y :: l,i + 1,j,x,hx,hj => by
    rw [List.flatMap_cons,List.append_assoc,List.getElem?_append_right (by rw [h.len,Nat.add_mul]; omega),h.len,show (i + 1) * k + j - k = i * k + j by rw [Nat.add_mul]; omega]
    exact flat_at h r l i j x (by simpa using hx) hj
theorem setL_append : ∀ (vs a b : List Value) (off : Nat),a.length <= off -> setL (a ++ b) off vs = a ++ setL b (off - a.length) vs
  | [],a,b,off,h => rfl
  | v :: vs,a,b,off,h => by
    rw [setL,setL,List.set_append_right _ _ h,setL_append vs a _ (off + 1) (by omega),show off + 1 - a.length = off - a.length + 1 by omega]
theorem setL_here : ∀ (vs p b : List Value),vs.length = p.length -> ∀ q,setL (q ++ (p ++ b)) q.length vs = q ++ (vs ++ b)
  | [], p, b, h, q => by cases p; · rfl
                         · simp at h
  | v :: vs,[],b,h,q => by simp at h
  | v :: vs,u :: p,b,h,q => by
    have e : (q ++ (u :: p ++ b)).set q.length v = (q ++ [v]) ++ (p ++ b) := by simp
    rw [setL,e,show q.length + 1 = (q ++ [v]).length by simp,setL_here vs p b (by simpa using h) (q ++ [v])]; simp
theorem flat_set {α : Type} {enc : α -> List Value} {k : Nat} (h : Enc enc k) (r : List Value) (x : α) : ∀ (l : List α) (i : Nat),i < l.length -> setL (l.flatMap enc ++ r) (i * k) (enc x) = (l.set i x).flatMap enc ++ r
  | [],i,hi => by simp at hi
  | y :: l,0,hi => by
    have := setL_here (enc x) (enc y) (l.flatMap enc ++ r) (by rw [h.len,h.len]) []
    simpa using this
  | y :: l,i + 1,hi => by
    rw [List.flatMap_cons,List.append_assoc,setL_append _ _ _ _ (by rw [h.len,Nat.add_mul]; omega),h.len,show (i + 1) * k - k = i * k by rw [Nat.add_mul]; omega,flat_set h r x l i (by simpa using hi)]
    simp [List.set_cons_succ]
section
variable {α : Type} [Inhabited α] {enc : α -> List Value} {k : Nat}
theorem cel_at (h : Enc enc k) {d : Array α} {rest : List Value} {i j : Nat} (hi : i < d.size) (hj : j < k) : (cel enc d rest).toArray[i * k + j]? = (enc d[i]!)[j]? := by
  rw [List.getElem?_toArray]
  exact flat_at h rest d.toList i j d[i]! (by rw [getElem!_pos d i hi]; simp [hi]) hj
theorem cellsAt_eq {c : Array Value} {off : Nat} : ∀ (l : List Value) (o : Nat),(∀ j,j < l.length -> c[off + o + j]? = l[j]?) -> cellsAt c (off + o) l.length = some l
  | [],o,_ => rfl
  | v :: l,o,h => by
    have h0 := h 0 (by simp)
    simp at h0
    show (match c[off + o]?,cellsAt c (off + o + 1) l.length with | some v,some vs => some (v :: vs) | _,_ => none) = _
    rw [h0,Nat.add_assoc,cellsAt_eq l (o + 1) (fun j hj => by have := h (j + 1) (by simpa using hj); rw [show off + (o + 1) + j = off + o + (j + 1) by omega]; simpa using this)]
theorem cel_cells (h : Enc enc k) {d : Array α} {rest : List Value} {i : Nat} (hi : i < d.size) : cellsAt (cel enc d rest).toArray (i * k) k = some (enc d[i]!) := by
  have := cellsAt_eq (c := (cel enc d rest).toArray) (off := i * k) (enc d[i]!) 0 (fun j hj => by rw [h.len] at hj; simpa using cel_at h hi hj)
  rw [h.len] at this; simpa using this
omit [Inhabited α] in
theorem cel_set (h : Enc enc k) {d : Array α} {rest : List Value} {i : Nat} (hi : i < d.size) (x : α) : setL (cel enc d rest) (i * k) (enc x) = cel enc (d.setIfInBounds i x) rest := by
  unfold cel; rw [flat_set h rest x d.toList i (by simpa using hi)]; simp
omit [Inhabited α] in
theorem cel_len (h : Enc enc k) {d : Array α} {rest : List Value} : (cel enc d rest).length = d.size * k + rest.length := by
  unfold cel; rw [List.length_append,flat_len h]; simp
end
section
variable {C : Cx} {V : Vw} {H : Hp} {L : Sl} {Q : Exit -> Act -> World -> Prop} {ops : Array Oper} {os : List Oper} {ty : TypeId} {pos : String} {aft : Array Edge}
variable {α : Type} [Inhabited α] {enc : α -> List Value} {k : Nat}
theorem Y.idxN {x y : Operand} {t e : TypeId} {z : Nat} {b n c : Nat} {kk : IntKind} {m : Int} (i : Nat) (hx : ev L x = some (.slice (some ⟨b,0,none⟩) n c)) (hy : ev L y = some (.int kk m)) (ht : elemS C.P t = some (e,z)) (hm : m = (i : Int)) (h1 : i < n) :
    Yl C V H L (.indexAddr t x y) ty (.pointer (some ⟨b,i * z,none⟩)) := by
  subst hm
  have := Y.idxAddr (C := C) (V := V) (H := H) (L := L) (ty := ty) hx hy ht (by omega) (by simpa using h1)
  simpa using this
theorem Y.ldA {x : Operand} {b e i z : Nat} {t : TypeId} {d : Array α} {rest : List Value} {vs : List Value} (hx : ev L x = some (.pointer (some ⟨b,i * z,none⟩))) (ht : aggsz C.P t = some z) (hk : Kn V H b (.cells (cel enc d rest).toArray e (0,0))) (he : Enc enc z) (hi : i < d.size) (hv : enc d[i]! = vs) :
    Yl C V H L (.load t x) ty (.agg vs.toArray) :=
  Y.loadAgg hx ht hk (by rw [cel_cells he hi,hv])
theorem Run.stD {x y : Operand} {b e i s z : Nat} {t : TypeId} {d : Array α} {rest : List Value} {v : Value} (u : α) (hx : ev L x = some (.pointer (some ⟨b,i * z,none⟩))) (hy : ev L y = some v) (ht : sizeT C.P t = some z) (hH : H[s]? = some (sgD enc e b rest d)) (he : Enc enc z) (hi : i < d.size) (hv : v.cells.toList = enc u)
    (kk : Run C ops V (H.set s (sgD enc e b rest (d.setIfInBounds i u))) L os Q) : Run C ops V H L (⟨none,.store t x y,ty,pos,aft,none⟩ :: os) Q :=
  Run.store hx hy ht hH (by rw [<- Array.length_toList,hv,he.len]) (by rw [cel_len he]; have := Nat.mul_le_mul_right z (show i + 1 <= d.size from hi); rw [Nat.add_mul] at this; omega) (by rw [hv]; exact he.one u)
    (by rw [hv,cel_set he hi]; rfl) kk
theorem Y.addN {x y : Operand} {m n : Int} {t t' : TypeId} (r : Int) (hx : ev L x = some (.int .i64 m)) (hy : ev L y = some (.int .i64 n)) (hr : m + n = r) (h : -9223372036854775808 <= r /\ r <= 9223372036854775807) : Yl C V H L (.binOp .add t x y t') ty (.int .i64 r) := by
  subst hr; exact Y.add hx hy h
theorem Y.subN {x y : Operand} {m n : Int} {t t' : TypeId} (r : Int) (hx : ev L x = some (.int .i64 m)) (hy : ev L y = some (.int .i64 n)) (hr : m - n = r) (h : -9223372036854775808 <= r /\ r <= 9223372036854775807) : Yl C V H L (.binOp .sub t x y t') ty (.int .i64 r) := by
  subst hr; exact Y.sub hx hy h
theorem Y.mulN {x y : Operand} {m n : Int} {t t' : TypeId} (r : Int) (hx : ev L x = some (.int .i64 m)) (hy : ev L y = some (.int .i64 n)) (hr : m * n = r) (h : -9223372036854775808 <= r /\ r <= 9223372036854775807) : Yl C V H L (.binOp .mul t x y t') ty (.int .i64 r) := by
  subst hr; exact Y.mul hx hy h
theorem Y.quoN {x y : Operand} {m n : Nat} {t t' : TypeId} (hx : ev L x = some (.int .i64 (m : Int))) (hy : ev L y = some (.int .i64 (n : Int))) (hn : 0 < n) (h : m <= 9223372036854775807) : Yl C V H L (.binOp .quo t x y t') ty (.int .i64 ((m / n : Nat) : Int)) :=
  Y.quo _ hx hy (by omega) (by
    have e : (m : Int).tdiv (n : Int) = ((m / n : Nat) : Int) := rfl
    rw [e]; have h2 := Nat.div_le_self m n; generalize m / n = q at *; exact wrap_i64 ⟨by omega,by omega⟩)
end
section
variable {α : Type} [Inhabited α] {lt : α -> α -> Bool}
theorem insInner_go {a j : Nat} {d : Array α} (h : a < j) (hl : lt d[j]! d[j - 1]! = true) : insInner lt a j d = insInner lt a (j - 1) (swp d j (j - 1)) := by
  obtain ⟨j,rfl⟩ : ∃ j',j = j' + 1 := ⟨j - 1,by omega⟩
  simp only [Nat.add_sub_cancel] at hl
  rw [insInner,if_pos (by simp [hl]; omega)]; rfl
theorem insInner_stop {a j : Nat} {d : Array α} (h : j <= a \/ lt d[j]! d[j - 1]! = false) : insInner lt a j d = d := by
  cases j with
  | zero => rfl
  | succ j =>
    simp only [Nat.add_sub_cancel] at h
    rw [insInner,if_neg]
    rcases h with h | h <;> simp [h] <;> omega
theorem insOuter_go {a b i : Nat} {d : Array α} (h : i < b) : insOuter lt a b i d = insOuter lt a b (i + 1) (insInner lt a i d) := by rw [insOuter,if_pos h]
theorem insOuter_stop {a b i : Nat} {d : Array α} (h : b <= i) : insOuter lt a b i d = d := by rw [insOuter,if_neg (by omega)]
end
end Go.K
namespace Go.K
open Go.Sort
section
variable {α : Type} [Inhabited α] {lt : α -> α -> Bool}
def up1 (lt : α -> α -> Bool) (d : Array α) (a j i : Nat) : Nat := scanUp (fun z => lt z d[a]!) d j i
def dn1 (lt : α -> α -> Bool) (d : Array α) (a i j : Nat) : Nat := scanDown (fun z => !lt z d[a]!) d i j
def up2 (lt : α -> α -> Bool) (d : Array α) (a j i : Nat) : Nat := scanUp (fun z => !lt d[a]! z) d j i
def dn2 (lt : α -> α -> Bool) (d : Array α) (a i j : Nat) : Nat := scanDown (fun z => lt d[a]! z) d i j
theorem scanUp_go {p : α -> Bool} {d : Array α} {j i : Nat} (h : i <= j) (hp : p d[i]! = true) : scanUp p d j (i + 1) = scanUp p d j i := by
  rw [scanUp.eq_def p d j i,if_pos (by simp [h,hp])]
theorem scanUp_stop {p : α -> Bool} {d : Array α} {j i : Nat} (h : j < i \/ p d[i]! = false) : scanUp p d j i = i := by
  rw [scanUp,if_neg]
  rcases h with h | h
  · simp; omega
  · simp [h]
theorem scanDown_go {p : α -> Bool} {d : Array α} {j i : Nat} (h : i <= j) (h1 : 1 <= j) (hp : p d[j]! = true) : scanDown p d i (j - 1) = scanDown p d i j := by
  obtain ⟨j,rfl⟩ : ∃ k,j = k + 1 := ⟨j - 1,by omega⟩
  rw [scanDown.eq_2,if_pos (by simp [h,hp])]; rfl
theorem scanDown_stop {p : α -> Bool} {d : Array α} {j i : Nat} (h1 : 1 <= i) (h : j < i \/ p d[j]! = false) : scanDown p d i j = j := by
  cases j with
  | zero => rfl
  | succ j =>
    rw [scanDown,if_neg]
    rcases h with h | h
    · simp; omega
    · simp [h]
section
variable {d : Array α} {a i j : Nat}
theorem up1_go (h : i <= j) (hl : lt d[i]! d[a]! = true) : up1 lt d a j (i + 1) = up1 lt d a j i := scanUp_go h hl
theorem up1_stop (h : j < i \/ lt d[i]! d[a]! = false) : up1 lt d a j i = i := scanUp_stop h
theorem dn1_go (h : i <= j) (h1 : 1 <= i) (hl : lt d[j]! d[a]! = false) : dn1 lt d a i (j - 1) = dn1 lt d a i j := scanDown_go h (by omega) (by simp [hl])
theorem dn1_stop (h1 : 1 <= i) (h : j < i \/ lt d[j]! d[a]! = true) : dn1 lt d a i j = j := scanDown_stop h1 (h.imp id fun e => by simp [e])
theorem up2_go (h : i <= j) (hl : lt d[a]! d[i]! = false) : up2 lt d a j (i + 1) = up2 lt d a j i := scanUp_go h (by simp [hl])
theorem up2_stop (h : j < i \/ lt d[a]! d[i]! = true) : up2 lt d a j i = i := scanUp_stop (h.imp id fun e => by simp [e])
theorem dn2_go (h : i <= j) (h1 : 1 <= i) (hl : lt d[a]! d[j]! = true) : dn2 lt d a i (j - 1) = dn2 lt d a i j := scanDown_go h (by omega) hl
theorem dn2_stop (h1 : 1 <= i) (h : j < i \/ lt d[a]! d[j]! = false) : dn2 lt d a i j = j := scanDown_stop h1 h
end
theorem up1_at {d : Array α} {a i j i1 : Nat} (h : up1 lt d a j i = i1) (h2 : i1 <= j) : lt d[i1]! d[a]! = false := by subst h; exact (scanUp_spec (fun z => lt z d[a]!) d j _ i rfl).2.2.2 h2
theorem dn1_at {d : Array α} {a i j j1 : Nat} (h : dn1 lt d a i j = j1) (h2 : i <= j1) (h3 : 0 < j1) : lt d[j1]! d[a]! = true := by
  unfold dn1 at h; subst h; have := (scanDown_spec (fun z => !lt z d[a]!) d i j).2.2.2 h2 h3; simpa using this
theorem cross1 {d : Array α} {a i j i1 j1 : Nat} (h : up1 lt d a j i = i1) (h2 : dn1 lt d a i1 j = j1) (h3 : ¬ j1 < i1) (h4 : 1 <= i1) (h5 : j1 <= j) : i1 < j1 := by
  rcases Nat.lt_or_ge i1 j1 with q | q
  · exact q
  · obtain rfl : i1 = j1 := by omega
    have e1 := up1_at h h5
    rw [dn1_at h2 (Nat.le_refl _) (by omega)] at e1; cases e1
theorem up2_at {d : Array α} {a i j i1 : Nat} (h : up2 lt d a j i = i1) (h2 : i1 <= j) : lt d[a]! d[i1]! = true := by
  unfold up2 at h; subst h; have := (scanUp_spec (fun z => !lt d[a]! z) d j _ i rfl).2.2.2 h2; simpa using this
theorem dn2_at {d : Array α} {a i j j1 : Nat} (h : dn2 lt d a i j = j1) (h2 : i <= j1) (h3 : 0 < j1) : lt d[a]! d[j1]! = false := by
  subst h; exact (scanDown_spec (fun z => lt d[a]! z) d i j).2.2.2 h2 h3
theorem cross2 {d : Array α} {a i j i1 j1 : Nat} (h : up2 lt d a j i = i1) (h2 : dn2 lt d a i1 j = j1) (h3 : ¬ j1 < i1) (h4 : 1 <= i1) (h5 : j1 <= j) : i1 < j1 := by
  rcases Nat.lt_or_ge i1 j1 with q | q
  · exact q
  · obtain rfl : i1 = j1 := by omega
    have e1 := up2_at h h5
    rw [dn2_at h2 (Nat.le_refl _) (by omega)] at e1; cases e1
theorem partLoop_end {a i j i1 j1 : Nat} {d : Array α} (hi : up1 lt d a j i = i1) (hj : dn1 lt d a i1 j = j1) (h : j1 < i1) : partLoop lt a i j d = (j1,d) := by
  subst hi; subst hj
  rw [partLoop_eq]; exact if_pos h
theorem partLoop_go {a i j i1 j1 : Nat} {d : Array α} (hi : up1 lt d a j i = i1) (hj : dn1 lt d a i1 j = j1) (h : ¬ j1 < i1) : partLoop lt a i j d = partLoop lt a (i1 + 1) (j1 - 1) (swp d i1 j1) := by
  subst hi; subst hj
  rw [partLoop_eq]; exact if_neg h
theorem partition_one {a b p i1 j1 : Nat} {d : Array α} (hi : up1 lt (swp d a p) a (b - 1) (a + 1) = i1) (hj : dn1 lt (swp d a p) a i1 (b - 1) = j1) (h : j1 < i1) : partition lt d a b p = (j1,true,swp (swp d a p) j1 a) := by
  subst hi; subst hj
  unfold partition; exact if_pos h
theorem partition_two {a b p i1 j1 j2 : Nat} {d d2 : Array α} (hi : up1 lt (swp d a p) a (b - 1) (a + 1) = i1) (hj : dn1 lt (swp d a p) a i1 (b - 1) = j1) (h : ¬ j1 < i1)
    (h2 : partLoop lt a (i1 + 1) (j1 - 1) (swp (swp d a p) i1 j1) = (j2,d2)) : partition lt d a b p = (j2,false,swp d2 j2 a) := by
  subst hi; subst hj
  have e : partition lt d a b p = ((partLoop lt a (up1 lt (swp d a p) a (b - 1) (a + 1) + 1) (dn1 lt (swp d a p) a (up1 lt (swp d a p) a (b - 1) (a + 1)) (b - 1) - 1) (swp (swp d a p) (up1 lt (swp d a p) a (b - 1) (a + 1)) (dn1 lt (swp d a p) a (up1 lt (swp d a p) a (b - 1) (a + 1)) (b - 1)))).1,false,
      swp (partLoop lt a (up1 lt (swp d a p) a (b - 1) (a + 1) + 1) (dn1 lt (swp d a p) a (up1 lt (swp d a p) a (b - 1) (a + 1)) (b - 1) - 1) (swp (swp d a p) (up1 lt (swp d a p) a (b - 1) (a + 1)) (dn1 lt (swp d a p) a (up1 lt (swp d a p) a (b - 1) (a + 1)) (b - 1)))).2
        (partLoop lt a (up1 lt (swp d a p) a (b - 1) (a + 1) + 1) (dn1 lt (swp d a p) a (up1 lt (swp d a p) a (b - 1) (a + 1)) (b - 1) - 1) (swp (swp d a p) (up1 lt (swp d a p) a (b - 1) (a + 1)) (dn1 lt (swp d a p) a (up1 lt (swp d a p) a (b - 1) (a + 1)) (b - 1)))).1 a) := by
    unfold partition; exact if_neg h
  rw [e,h2]
theorem partEqLoop_end {a i j i1 j1 : Nat} {d : Array α} (hi : up2 lt d a j i = i1) (hj : dn2 lt d a i1 j = j1) (h : j1 < i1) : partEqLoop lt a i j d = (i1,d) := by
  subst hi; subst hj
  rw [partEqLoop_eq]; exact if_pos h
theorem partEqLoop_go {a i j i1 j1 : Nat} {d : Array α} (hi : up2 lt d a j i = i1) (hj : dn2 lt d a i1 j = j1) (h : ¬ j1 < i1) : partEqLoop lt a i j d = partEqLoop lt a (i1 + 1) (j1 - 1) (swp d i1 j1) := by
  subst hi; subst hj
  rw [partEqLoop_eq]; exact if_neg h
section
variable {hi f r : Nat} {d : Array α}
theorem sift_end (h : hi <= 2 * r + 1) : siftDown lt hi f r d = d := by rw [siftDown,dif_pos h]
theorem sift_stop2 (h : 2 * r + 1 + 1 < hi) (h1 : lt d[f + (2 * r + 1)]! d[f + (2 * r + 1) + 1]! = true) (h2 : lt d[f + r]! d[f + (2 * r + 1 + 1)]! = false) : siftDown lt hi f r d = d := by
  rw [siftDown,dif_neg (by omega),if_pos (by simp [h,h1]),if_pos (by rw [h2]; rfl)]
theorem sift_go2 (h : 2 * r + 1 + 1 < hi) (h1 : lt d[f + (2 * r + 1)]! d[f + (2 * r + 1) + 1]! = true) (h2 : lt d[f + r]! d[f + (2 * r + 1 + 1)]! = true) : siftDown lt hi f r d = siftDown lt hi f (2 * r + 1 + 1) (swp d (f + r) (f + (2 * r + 1 + 1))) := by
  rw [siftDown.eq_def lt hi f r,dif_neg (by omega),if_pos (by simp [h,h1]),if_neg (by rw [h2]; decide),dif_pos h]
theorem sift_stop1 (h : 2 * r + 1 < hi) (h1 : ¬ 2 * r + 1 + 1 < hi \/ lt d[f + (2 * r + 1)]! d[f + (2 * r + 1) + 1]! = false) (h2 : lt d[f + r]! d[f + (2 * r + 1)]! = false) : siftDown lt hi f r d = d := by
  rw [siftDown,dif_neg (by omega),if_neg (by rcases h1 with h1 | h1 <;> simp [h1]),if_pos (by rw [h2]; rfl)]
theorem sift_go1 (h : 2 * r + 1 < hi) (h1 : ¬ 2 * r + 1 + 1 < hi \/ lt d[f + (2 * r + 1)]! d[f + (2 * r + 1) + 1]! = false) (h2 : lt d[f + r]! d[f + (2 * r + 1)]! = true) : siftDown lt hi f r d = siftDown lt hi f (2 * r + 1) (swp d (f + r) (f + (2 * r + 1))) := by
  rw [siftDown.eq_def lt hi f r,dif_neg (by omega),if_neg (by rcases h1 with h1 | h1 <;> simp [h1]),if_neg (by rw [h2]; decide)]
theorem sift_size : ∀ (n hi f r : Nat) (d : Array α),hi - r <= n -> (siftDown lt hi f r d).size = d.size := by
  intro n
  induction n with
  | zero => intro hi f r d h; rw [sift_end (by omega)]
  | succ n ih =>
    intro hi f r d h
    rw [siftDown]
    split
    · rfl
    · split
      · split
        · rfl
        · split
          · rw [ih _ _ _ _ (by omega),swp_size]
          · rfl
      · split
        · rfl
        · rw [ih _ _ _ _ (by omega),swp_size]
end
section
variable {b i j : Nat} {d : Array α}
theorem reverseLoop_go (h : i < j) : reverseLoop i j d = reverseLoop (i + 1) (j - 1) (swp d i j) := by rw [reverseLoop.eq_def i j d,if_pos h]
theorem reverseLoop_stop (h : j <= i) : reverseLoop i j d = d := by rw [reverseLoop,if_neg (by omega)]
theorem scanSorted_go (h : i < b) (hl : lt d[i]! d[i - 1]! = false) : scanSorted lt d b (i + 1) = scanSorted lt d b i := by rw [scanSorted.eq_def lt d b i,if_pos (by simp [h,hl])]
theorem scanSorted_stop (h : b <= i \/ lt d[i]! d[i - 1]! = true) : scanSorted lt d b i = i := by
  rw [scanSorted,if_neg]
  rcases h with h | h
  · simp; omega
  · simp [h]
theorem shiftDown_go (h : 1 <= j) (hl : lt d[j]! d[j - 1]! = true) : shiftDown lt (j - 1) (swp d j (j - 1)) = shiftDown lt j d := by
  obtain ⟨j,rfl⟩ : ∃ k,j = k + 1 := ⟨j - 1,by omega⟩
  simp only [Nat.add_sub_cancel] at hl ⊢
  rw [shiftDown.eq_2,if_neg (by simp [hl])]
theorem shiftDown_stop (h : j < 1 \/ lt d[j]! d[j - 1]! = false) : shiftDown lt j d = d := by
  cases j with
  | zero => rfl
  | succ j =>
    simp only [Nat.add_sub_cancel] at h
    rw [shiftDown,if_pos]
    rcases h with h | h
    · omega
    · simp [h]
theorem shiftUp_go (h : j < b) (hl : lt d[j]! d[j - 1]! = true) : shiftUp lt b (j + 1) (swp d j (j - 1)) = shiftUp lt b j d := by rw [shiftUp.eq_def lt b j,if_pos h,if_neg (by simp [hl])]
theorem shiftUp_stop (h : b <= j \/ lt d[j]! d[j - 1]! = false) : shiftUp lt b j d = d := by
  rw [shiftUp]
  by_cases hb : j < b
  · rw [if_pos hb,if_pos]
    rcases h with h | h
    · omega
    · simp [h]
  · rw [if_neg hb]
end
theorem sift_sz {hi f r : Nat} {d : Array α} : (siftDown lt hi f r d).size = d.size := sift_size _ hi f r d (Nat.le_refl _)
section
variable {a b s i i2 : Nat} {d : Array α}
theorem pins_done (h : s < 5) (hi : scanSorted lt d b i = i2) (he : i2 = b) : partialIns lt a b (5 - s) i d = (d,true) := by
  rw [show 5 - s = (4 - s) + 1 by omega,partialIns_succ,if_pos (hi.trans he)]
theorem pins_short (h : s < 5) (hi : scanSorted lt d b i = i2) (he : i2 ≠ b) (hl : b - a < 50) : partialIns lt a b (5 - s) i d = (d,false) := by
  rw [show 5 - s = (4 - s) + 1 by omega,partialIns_succ,hi,if_neg he,if_pos hl]
theorem pins_go (h : s < 5) (hi : scanSorted lt d b i = i2) (he : i2 ≠ b) (hl : ¬ b - a < 50) : partialIns lt a b (5 - s) i d = partialIns lt a b (5 - (s + 1)) i2 (fixUp lt b i2 (fixDown lt a i2 (swp d i2 (i2 - 1)))) := by
  rw [show 5 - s = (4 - s) + 1 by omega,partialIns_succ,hi,if_neg he,if_neg hl,show 5 - (s + 1) = 4 - s by omega]
theorem pins_end (h : 5 <= s) : partialIns lt a b (5 - s) i d = (d,false) := by rw [show 5 - s = 0 by omega]; rfl
end
structure PInv (lt : α -> α -> Bool) (x y n : Nat) (d0 : Array α) (a b : Nat) (d : Array α) : Prop where
  sz : d.size = n
  ab : a <= b
  bn : b <= n
  len : b - a <= y - x
  bel : Below lt a b d
  k : ∀ R,PermIn a b d R -> SortedIn lt a b R -> PermIn x y d0 R /\ SortedIn lt x y R
variable {x y n a b : Nat} {d0 d : Array α}
theorem PInv.new (hd : d.size = n) (h1 : x <= y) (h2 : y <= n) (h3 : Below lt x y d) : PInv lt x y n d x y d := ⟨hd,h1,h2,Nat.le_refl _,h3,fun _ h h' => ⟨h,h'⟩⟩
theorem PInv.perm {d' : Array α} (h : PInv lt x y n d0 a b d) (p : PermIn a b d d') : PInv lt x y n d0 a b d' :=
  ⟨p.1.trans h.sz,h.ab,h.bn,h.len,h.bel.perm (by rw [h.sz]; exact h.bn) p,fun R hR hs => h.k R (permIn_trans _ _ _ _ _ p hR) hs⟩
theorem PInv.eqs (hs : SWO lt) {pv mid : Nat} {d4 : Array α} (h : PInv lt x y n d0 a b d) (ha : 0 < a) (h1 : a <= pv) (h2 : pv < b) (hn : lt d[a - 1]! d[pv]! = false) (e : partitionEqual lt d a b pv = (mid,d4)) :
    a < mid /\ PInv lt x y n d0 mid b d4 := by
  obtain ⟨q1,q2,q3,q4,q5⟩ := round_eq hs (partitionEqual_holds lt) ha h1 h2 (by rw [h.sz]; exact h.bn) h.bel hn e
  have := h.len
  exact ⟨q1,q3.trans h.sz,q2,h.bn,by omega,q4,fun R hR hS => have := q5 R hR hS; h.k R this.1 this.2⟩
theorem PInv.part (hs : SWO lt) {pv mid : Nat} {ap : Bool} {d4 : Array α} (h : PInv lt x y n d0 a b d) (h1 : a <= pv) (h2 : pv < b) (e : partition lt d a b pv = (mid,ap,d4)) :
    a <= mid /\ mid < b /\ d4.size = n /\ Below lt a mid d4 /\ Below lt (mid + 1) b d4 /\ (∀ L,PermIn a mid d4 L -> SortedIn lt a mid L -> PInv lt x y n d0 (mid + 1) b L) /\ (∀ L,PermIn (mid + 1) b d4 L -> SortedIn lt (mid + 1) b L -> PInv lt x y n d0 a mid L) := by
  obtain ⟨q1,q2,q3,q4,q5,q6,q7⟩ := round_part hs (partition_holds lt) h1 h2 (by rw [h.sz]; exact h.bn) h.bel e
  have hl := h.len
  have hb := h.bn
  refine ⟨q1,q2,q3.trans h.sz,q4,q5,fun L hL hS => ?_,fun L hL hS => ?_⟩
  · obtain ⟨w1,w2⟩ := q6 L hL hS
    exact ⟨by rw [hL.1,q3,h.sz],by omega,h.bn,by omega,w1,fun R hR hS' => have := w2 R hR hS'; h.k R this.1 this.2⟩
  · obtain ⟨w1,w2⟩ := q7 L hL hS
    exact ⟨by rw [hL.1,q3,h.sz],q1,by omega,by omega,w1,fun R hR hS' => have := w2 R hR hS'; h.k R this.1 this.2⟩
end
end Go.K
namespace Go.K
theorem wrap_u64_mod (n : Int) : IntKind.u64.wrap n = n % 18446744073709551616 := by
  unfold IntKind.wrap
  have h : IntKind.u64.signed = false := rfl
  have hb : (2 : Int) ^ IntKind.u64.bits = 18446744073709551616 := by decide
  simp only [h,hb,Bool.false_and,Bool.false_eq_true,if_false]
theorem wrap_u64 {n : Int} (h : 0 <= n /\ n <= 18446744073709551615) : IntKind.u64.wrap n = n := by rw [wrap_u64_mod]; omega
def xorU (a b : Int) : Int := IntKind.u64.wrap ((BitVec.ofInt IntKind.u64.bits a ^^^ BitVec.ofInt IntKind.u64.bits b).toNat)
def andU (a b : Int) : Int := IntKind.u64.wrap ((BitVec.ofInt IntKind.u64.bits a &&& BitVec.ofInt IntKind.u64.bits b).toNat)
def shlU (a : Int) (n : Nat) : Int := IntKind.u64.wrap (a * 2 ^ n)
def shrU (a : Int) (n : Nat) : Int := a.fdiv (2 ^ n)
theorem andU_nat {a : Int} {m : Nat} (h : m <= 18446744073709551615) : ∃ o : Nat,andU a (m : Int) = (o : Int) /\ o <= m := by
  refine ⟨(BitVec.ofInt IntKind.u64.bits a &&& BitVec.ofInt IntKind.u64.bits (m : Int)).toNat,?_,?_⟩
  · unfold andU
    have := (BitVec.ofInt IntKind.u64.bits a &&& BitVec.ofInt IntKind.u64.bits (m : Int)).isLt
    have hb : (2 : Nat) ^ IntKind.u64.bits = 18446744073709551616 := by decide
    exact wrap_u64 (by omega)
  · rw [BitVec.toNat_and]
    refine Nat.le_trans Nat.and_le_right ?_
    rw [BitVec.toNat_ofInt]
    have hb : (2 : Nat) ^ IntKind.u64.bits = 18446744073709551616 := by decide
    rw [hb]; omega
theorem subU {m : Nat} (h : 1 <= m) (h2 : m <= 18446744073709551615) : intRes .sub .u64 (m : Int) 1 = some (.int .u64 ((m - 1 : Nat) : Int)) := by
  have e : (m : Int) - 1 = ((m - 1 : Nat) : Int) := by omega
  simp only [intRes,e]
  rw [wrap_u64 (by omega)]
theorem shl_one {k : Nat} (h : k <= 40) : IntKind.u64.wrap (1 * 2 ^ min ((k : Int)).toNat IntKind.u64.bits) = ((2 ^ k : Nat) : Int) := by
  have hm : min ((k : Int)).toNat IntKind.u64.bits = k := by
    have : IntKind.u64.bits = 64 := rfl
    rw [this]; omega
  have hp : (2 : Nat) ^ k <= 2 ^ 40 := Nat.pow_le_pow_right (by omega) h
  rw [hm,Int.one_mul]
  have e : (2 : Int) ^ k = ((2 ^ k : Nat) : Int) := by norm_cast
  have h4 : (2 : Nat) ^ 40 = 1099511627776 := by decide
  rw [e]; generalize 2 ^ k = z at hp ⊢
  exact wrap_u64 ⟨by omega,by omega⟩
section
variable {C : Cx} {V : Vw} {H : Hp} {L : Sl} {ty : TypeId}
theorem Y.shrN {x y : Operand} {k k' : IntKind} {m q : Nat} {n : Int} {t t' : TypeId} (hx : ev L x = some (.int k (m : Int))) (hy : ev L y = some (.int k' n)) (hn : 0 <= n) (hq : (2 : Int) ^ min n.toNat k.bits = ((q : Nat) : Int)) : Yl C V H L (.binOp .shr t x y t') ty (.int k ((m / q : Nat) : Int)) :=
  Y.shr _ hx hy hn (by rw [hq,Int.fdiv_eq_ediv_of_nonneg _ (by omega)]; rfl)
end
theorem len_bound {s t q m : Nat} (hq : q * 2 ^ s <= m) (ht : 2 ^ t <= 2 * q) : 2 ^ (s + t) <= 2 * m := by
  rw [Nat.pow_add]
  calc 2 ^ s * 2 ^ t <= 2 ^ s * (2 * q) := Nat.mul_le_mul_left _ ht
    _ = 2 * (q * 2 ^ s) := by rw [Nat.mul_comm q,Nat.mul_left_comm]
    _ <= 2 * m := Nat.mul_le_mul_left _ hq
end Go.K
namespace Go.K
open Go.Sort
section
variable {α : Type} [Inhabited α] {enc : α -> List Value} {k : Nat} {lt : α -> α -> Bool}
theorem Ow.toD (he : Enc enc k) {e : TypeId} {v : Value} {l : List α} {s : Sg} (h : Ow e k v l.length (l.flatMap enc) s) :
    (v = .slice none 0 0 /\ l = [] /\ s = []) \/ ∃ b cap rest,v = .slice (some ⟨b,0,none⟩) l.length cap /\ s = sgD enc e b rest l.toArray /\ l.length <= cap /\ cap <= maxLen /\ l.length * k + rest.length = cap * k := by
  obtain ⟨h1,⟨h2,h3,h4⟩ | ⟨b,cap,cur,h2,h3,h4,h5,h6,h7⟩⟩ := h
  · exact .inl ⟨h2,List.length_eq_zero_iff.1 h3,h4⟩
  · have hle : l.length * k <= cap * k := Nat.mul_le_mul_right k h4
    refine .inr ⟨b,cap,cur.toList.drop (l.length * k),h2,?_,h4,h5,by simp [h6]; omega⟩
    rw [h3]; unfold sgD cel
    have e1 : l.flatMap enc = cur.toList.take (l.length * k) := by
      apply List.ext_getElem?
      intro j
      rw [List.getElem?_take]
      split
      · rename_i hj; rw [<- h7 j hj]; simp
      · rename_i hj; rw [List.getElem?_eq_none (by rw [h1]; omega)]
    rw [show l.toArray.toList = l by simp,e1,List.take_append_drop]
theorem Ow.ofD (he : Enc enc k) {e : TypeId} {b cap : Nat} {rest : List Value} {l : List α} (h1 : l.length <= cap) (h2 : cap <= maxLen) (h3 : l.length * k + rest.length = cap * k) :
    Ow e k (.slice (some ⟨b,0,none⟩) l.length cap) l.length (l.flatMap enc) (sgD enc e b rest l.toArray) := by
  refine ⟨flat_len he l,.inr ⟨b,cap,_,rfl,rfl,h1,h2,?_,fun j hj => ?_⟩⟩
  · have := cel_len he (d := l.toArray) (rest := rest); simp at this ⊢; rw [this]; exact h3
  · unfold cel; rw [List.getElem?_toArray,List.getElem?_append_left (by simp [flat_len he]; exact hj)]
def Srt (lt : α -> α -> Bool) (l : List α) : Prop := l.Pairwise fun x y => lt y x = false
theorem srt_of {d : Array α} (h : SortedIn lt 0 d.size d) : Srt lt d.toList := by
  refine List.pairwise_iff_getElem.2 fun i j hi hj hij => ?_
  have := h i j (Nat.zero_le _) hij (by simpa using hj)
  rw [getElem!_pos d i (by simpa using hi),getElem!_pos d j (by simpa using hj)] at this
  simpa using this
theorem perm_of {d d' : Array α} (h : PermIn 0 d.size d d') : d'.toList.Perm d.toList := by
  have h2 := h.2.2
  rw [Array.extract_eq_self_of_le (Nat.le_of_eq h.1),show d.extract 0 d.size = d by simp] at h2
  exact h2
end
def nI (x : Int) : List Value := [.int .i64 x]
theorem nI_enc : Enc nI 1 := ⟨fun _ => rfl,fun _ => rfl⟩
end Go.K
namespace Go.Fl
open Ieee
abbrev D : Format := double
theorem least : D.leastPlace = -1074 := rfl
theorem binade : D.binade = 4503599627370496 := rfl
theorem inf : D.infRung = 2047 * 4503599627370496 := rfl
theorem sgn : D.signWeight = 9223372036854775808 := rfl
def rungD (neg : Bool) (r : Nat) : Datum :=
  if r < 4503599627370496 then .number neg r (-1074)
  else if r < 2047 * 4503599627370496 then .number neg (4503599627370496 + r % 4503599627370496) (-1074 + (r / 4503599627370496 - 1 : Nat))
  else if r = 2047 * 4503599627370496 then .infinity neg
  else .nan neg (r - 2047 * 4503599627370496)
theorem read_word (neg : Bool) {r : Nat} (h : r < 9223372036854775808) : D.read (D.word neg r) = rungD neg r := by
  unfold Format.read Format.word rungD
  rw [least,binade,inf,sgn]
  have e1 : (if neg = true then 9223372036854775808 + r else r) % 9223372036854775808 = r := by cases neg <;> simp <;> omega
  have e2 : ((if neg = true then 9223372036854775808 + r else r) / 9223372036854775808 % 2 == 1) = neg := by
    cases neg
    · rw [if_neg (by decide),Nat.div_eq_of_lt h]; rfl
    · rw [if_pos rfl,Nat.add_div_left _ (by decide),Nat.div_eq_of_lt h]; rfl
  simp only [e1,e2]
def last (mag : Nat) (place : Int) : Int := max (place + mag.log2 - 52) (-1074)
def kept (neg : Bool) (mag : Nat) (place : Int) : Nat := Toward.even.cut neg (mag <<< (place - last mag place).toNat) (last mag place - place).toNat
theorem nearest_eq {neg : Bool} {mag : Nat} {place : Int} (h : mag ≠ 0) : D.nearest neg mag place = D.word neg (min ((last mag place + 1074).toNat * 4503599627370496 + kept neg mag place) (2047 * 4503599627370496)) := by
  unfold Format.nearest
  rw [if_neg h,least,binade,inf]
  rfl
theorem cut_le (way : Toward) (neg : Bool) (n d : Nat) : way.cut neg n d <= n / 2 ^ min d (n.log2 + 2) + 1 := by
  unfold Toward.cut
  simp only [Nat.one_shiftLeft]
  have : ∀ b : Bool,b.toNat <= 1 := fun b => by cases b <;> decide
  exact Nat.add_le_add_left (this _) _
theorem cut_zero (neg : Bool) (n : Nat) : Toward.even.cut neg n 0 = n := by simp [Toward.cut,Nat.mod_one]
theorem last_ge (mag : Nat) (place : Int) : place + mag.log2 - 52 <= last mag place /\ -1074 <= last mag place := by unfold last; omega
theorem kept_le (neg : Bool) (mag : Nat) (place : Int) : kept neg mag place <= 9007199254740992 := by
  obtain ⟨h1,h2⟩ := last_ge mag place
  have hm : mag < 2 ^ (mag.log2 + 1) := Nat.lt_log2_self
  have e53 : (2 : Nat) ^ 53 = 9007199254740992 := rfl
  unfold kept
  by_cases hc : last mag place <= place
  · have hd : (last mag place - place).toNat = 0 := by omega
    rw [hd,cut_zero,Nat.shiftLeft_eq]
    have hs : mag.log2 + 1 + (place - last mag place).toNat <= 53 := by unfold last at hc ⊢; omega
    have h3 : mag * 2 ^ (place - last mag place).toNat < 2 ^ (mag.log2 + 1) * 2 ^ (place - last mag place).toNat := Nat.mul_lt_mul_of_pos_right hm (Nat.two_pow_pos _)
    rw [<- Nat.pow_add] at h3
    have h4 := Nat.pow_le_pow_right (show 0 < 2 by decide) hs
    omega
  · have ha : (place - last mag place).toNat = 0 := by omega
    rw [ha,Nat.shiftLeft_zero]
    refine Nat.le_trans (cut_le _ _ _ _) ?_
    by_cases hd : (last mag place - place).toNat <= mag.log2 + 2
    · rw [Nat.min_eq_left hd]
      have h5 : mag / 2 ^ (last mag place - place).toNat < 2 ^ 53 := by
        rw [Nat.div_lt_iff_lt_mul (Nat.two_pow_pos _),<- Nat.pow_add]
        exact Nat.lt_of_lt_of_le hm (Nat.pow_le_pow_right (by decide) (by omega))
      omega
    · rw [Nat.min_eq_right (by omega)]
      have h5 : mag / 2 ^ (mag.log2 + 2) = 0 := Nat.div_eq_of_lt (Nat.lt_of_lt_of_le hm (Nat.pow_le_pow_right (by decide) (by omega)))
      omega
theorem kept_ge (neg : Bool) {mag : Nat} {place : Int} (h : mag ≠ 0) (hl : -1074 < last mag place) : 4503599627370496 <= kept neg mag place := by
  have hm : 2 ^ mag.log2 <= mag := Nat.log2_self_le h
  have e52 : (2 : Nat) ^ 52 = 4503599627370496 := rfl
  have hl' : last mag place = place + mag.log2 - 52 := by unfold last at hl ⊢; omega
  unfold kept
  by_cases hc : last mag place <= place
  · have hd : (last mag place - place).toNat = 0 := by omega
    rw [hd,cut_zero,Nat.shiftLeft_eq]
    have hs : mag.log2 + (place - last mag place).toNat = 52 := by omega
    have h3 : 2 ^ mag.log2 * 2 ^ (place - last mag place).toNat <= mag * 2 ^ (place - last mag place).toNat := Nat.mul_le_mul_right _ hm
    rw [<- Nat.pow_add,hs] at h3
    omega
  · have ha : (place - last mag place).toNat = 0 := by omega
    rw [ha,Nat.shiftLeft_zero]
    have hd : (last mag place - place).toNat = mag.log2 - 52 := by omega
    unfold Toward.cut
    simp only [Nat.one_shiftLeft]
    rw [hd,Nat.min_eq_left (by omega)]
    have h5 : 2 ^ 52 <= mag / 2 ^ (mag.log2 - 52) := by
      rw [Nat.le_div_iff_mul_le (Nat.two_pow_pos _),<- Nat.pow_add,show 52 + (mag.log2 - 52) = mag.log2 from by omega]; exact hm
    omega
theorem read_small (neg : Bool) {mag : Nat} {place : Int} (h : mag ≠ 0) (hs : place + mag.log2 <= 900) : ∃ m p,D.read (D.nearest neg mag place) = .number neg m p /\ last mag place <= p /\ p <= last mag place + 1 /\ m * 2 ^ (p - last mag place).toNat = kept neg mag place /\ m <= 9007199254740992 := by
  obtain ⟨h1,h2⟩ := last_ge mag place
  have hk := kept_le neg mag place
  have hl : last mag place <= 900 := by unfold last; omega
  generalize hL : last mag place = L at *
  generalize hK : kept neg mag place = K at *
  obtain ⟨q,hq⟩ := Int.eq_ofNat_of_zero_le (show 0 <= L + 1074 by omega)
  have hR : (L + 1074).toNat * 4503599627370496 + K < 2047 * 4503599627370496 := by omega
  rw [nearest_eq h,hL,hK,Nat.min_eq_left (by omega),read_word neg (by omega)]
  unfold rungD
  by_cases hk52 : K < 4503599627370496
  · have hL0 : L = -1074 := by
      rcases Int.lt_or_le (-1074) L with h3 | h3
      · have := kept_ge neg h (place := place) (by omega); omega
      · omega
    rw [if_pos (by omega)]
    exact ⟨_,_,rfl,by omega,by omega,by rw [show (-1074 - L).toNat = 0 from by omega]; omega,by omega⟩
  · rw [if_neg (by omega),if_pos hR]
    by_cases hk53 : K < 9007199254740992
    · have e1 : ((L + 1074).toNat * 4503599627370496 + K) / 4503599627370496 = (L + 1074).toNat + 1 := by omega
      have e2 : ((L + 1074).toNat * 4503599627370496 + K) % 4503599627370496 = K - 4503599627370496 := by omega
      rw [e1,e2]
      exact ⟨_,_,rfl,by omega,by omega,by rw [show (-1074 + (((L + 1074).toNat + 1 - 1 : Nat) : Int) - L).toNat = 0 from by omega]; omega,by omega⟩
    · have e0 : K = 9007199254740992 := by omega
      have e1 : ((L + 1074).toNat * 4503599627370496 + K) / 4503599627370496 = (L + 1074).toNat + 2 := by omega
      have e2 : ((L + 1074).toNat * 4503599627370496 + K) % 4503599627370496 = 0 := by omega
      rw [e1,e2]
      exact ⟨_,_,rfl,by omega,by omega,by rw [show (-1074 + (((L + 1074).toNat + 2 - 1 : Nat) : Int) - L).toNat = 1 from by omega]; omega,by omega⟩
theorem int_read {n : Nat} (h : n < 4503599627370496) : ∃ m p,D.read (D.nearest false n 0) = .number false m p /\ p <= 0 /\ -1074 <= p /\ m = n * 2 ^ (-p).toNat /\ (n ≠ 0 -> -52 <= p) /\ m <= 9007199254740992 := by
  by_cases h0 : n = 0
  · subst h0
    refine ⟨0,-1074,?_,by decide,by decide,by rw [Nat.zero_mul],fun h => absurd rfl h,by decide⟩
    unfold Format.nearest; rw [if_pos rfl]; exact read_word false (by decide)
  · have hlog : n.log2 < 52 := (Nat.log2_lt h0).2 (by have : (2 : Nat) ^ 52 = 4503599627370496 := rfl; omega)
    have hL : last n 0 = n.log2 - 52 := by unfold last; omega
    obtain ⟨m,p,hr,hp1,hp2,hm,hm2⟩ := read_small false (place := 0) h0 (by omega)
    have hk : kept false n 0 = n * 2 ^ (52 - n.log2) := by
      unfold kept
      rw [hL,show ((n.log2 : Int) - 52 - 0).toNat = 0 from by omega,cut_zero,Nat.shiftLeft_eq,show (0 - ((n.log2 : Int) - 52)).toNat = 52 - n.log2 from by omega]
    rw [hk,hL] at hm
    rw [hL] at hp1 hp2
    refine ⟨m,p,hr,by omega,by omega,?_,fun _ => by omega,hm2⟩
    rcases (show p = n.log2 - 52 \/ p = n.log2 - 52 + 1 by omega) with e | e
    · rw [e,show ((n.log2 : Int) - 52 - (n.log2 - 52)).toNat = 0 from by omega] at hm
      rw [e,show (-((n.log2 : Int) - 52)).toNat = 52 - n.log2 from by omega]; omega
    · rw [e,show ((n.log2 : Int) - 52 + 1 - (n.log2 - 52)).toNat = 1 from by omega] at hm
      rw [e,show (-((n.log2 : Int) - 52 + 1)).toNat = 51 - n.log2 from by omega]
      have e2 : 2 ^ (52 - n.log2) = 2 ^ (51 - n.log2) * 2 := by rw [<- Nat.pow_succ]; congr 1; omega
      rw [e2,<- Nat.mul_assoc] at hm
      omega
theorem read_zero : D.read 0 = .number false 0 (-1074) := by decide
theorem read_one : D.read 4607182418800017408 = .number false 4503599627370496 (-52) := by decide
theorem part_read {y : Nat} (h0 : D.order y 0 = some .gt) (h1 : D.order y 4607182418800017408 = some .lt) : ∃ m p,D.read y = .number false m p /\ m ≠ 0 /\ p + m.log2 < 0 := by
  unfold Format.order at h0 h1
  rw [read_zero] at h0
  rw [read_one] at h1
  cases hd : D.read y with
  | nan t f => rw [hd] at h0; cases h0
  | infinity t =>
    rw [hd] at h0 h1
    cases t
    · cases h1
    · cases h0
  | number t m p =>
    rw [hd] at h0 h1
    simp only [Datum.order,Option.some.injEq] at h0 h1
    rw [Int.compare_eq_gt] at h0
    rw [Int.compare_eq_lt] at h1
    have ht : t = false := by
      cases t
      · rfl
      · have h9 : ∀ a b : Nat,¬ ((b : Int) < -(a : Int)) := fun a b => by omega
        simp only [signed,if_true,Bool.false_eq_true,if_false] at h0
        exact absurd h0 (h9 _ _)
    subst ht
    simp only [signed,Bool.false_eq_true,if_false,Nat.shiftLeft_eq] at h0 h1
    have hm : m ≠ 0 := by rintro rfl; simp at h0
    refine ⟨m,p,rfl,hm,?_⟩
    have hmm : 2 ^ m.log2 <= m := Nat.log2_self_le hm
    generalize hb : min p (-52) = b at h1
    have h3 : m * 2 ^ (p - b).toNat < 4503599627370496 * 2 ^ (-52 - b).toNat := by omega
    have h4 : 2 ^ m.log2 * 2 ^ (p - b).toNat <= m * 2 ^ (p - b).toNat := Nat.mul_le_mul_right _ hmm
    have e52 : (4503599627370496 : Nat) = 2 ^ 52 := rfl
    rw [e52,<- Nat.pow_add] at h3
    rw [<- Nat.pow_add] at h4
    have h5 : 2 ^ (m.log2 + (p - b).toNat) < 2 ^ (52 + (-52 - b).toNat) := Nat.lt_of_le_of_lt h4 h3
    have h6 := (Nat.pow_lt_pow_iff_right (show 1 < 2 by decide)).1 h5
    omega
theorem log2_mul {a b : Nat} (ha : a ≠ 0) (hb : b ≠ 0) : (a * b).log2 <= a.log2 + b.log2 + 1 := by
  have h1 : a < 2 ^ (a.log2 + 1) := Nat.lt_log2_self
  have h2 : b < 2 ^ (b.log2 + 1) := Nat.lt_log2_self
  have h3 : a * b < 2 ^ (a.log2 + 1) * 2 ^ (b.log2 + 1) := Nat.mul_lt_mul'' h1 h2
  rw [<- Nat.pow_add] at h3
  have := (Nat.log2_lt (Nat.mul_ne_zero ha hb)).2 h3
  omega
theorem mul_part {n x y : Nat} {m1 m2 : Nat} {p1 p2 : Int} (hx : D.read x = .number false m1 p1) (hp1 : p1 <= 0) (hm1 : m1 = n * 2 ^ (-p1).toNat) (hn : n ≠ 0) (hn2 : n < 4503599627370496) (hy : D.read y = .number false m2 p2) (hm2 : m2 ≠ 0) (hp2 : p2 + m2.log2 < 0) :
    ∃ r k : Nat,D.mul x y = some r /\ (D.read r).toInt .zero = some (k : Int) /\ k <= 9007199254740992 /\ (D.read r).isNaN = false /\ (D.order r x = some .lt /\ k <= n \/ D.order r x = some .gt /\ n <= k \/ D.order r x = some .eq /\ n <= k) := by
  have hpos : 0 < 2 ^ (-p1).toNat := Nat.two_pow_pos _
  have hm1' : m1 ≠ 0 := by rw [hm1]; exact Nat.mul_ne_zero hn (Nat.ne_of_gt hpos)
  have hl1 : p1 + m1.log2 <= 51 := by
    have h1 : m1 < 2 ^ (52 + (-p1).toNat) := by
      rw [hm1,Nat.pow_add]; exact Nat.mul_lt_mul_of_pos_right (by have : (2 : Nat) ^ 52 = 4503599627370496 := rfl; omega) hpos
    have := (Nat.log2_lt hm1').2 h1
    omega
  have hl := log2_mul hm1' hm2
  obtain ⟨m,p,hr,hpa,hpb,hk,hm⟩ := read_small false (mag := m1 * m2) (place := p1 + p2) (Nat.mul_ne_zero hm1' hm2) (by omega)
  have hlast : last (m1 * m2) (p1 + p2) <= -1 := by unfold last; omega
  have hp0 : p <= 0 := by omega
  have hcut : Toward.zero.cut false (m <<< p.toNat) (-p).toNat = m / 2 ^ (-p).toNat := by
    rw [show p.toNat = 0 from by omega,Nat.shiftLeft_zero]
    unfold Toward.cut
    simp only [Nat.one_shiftLeft,Bool.toNat_false,Nat.add_zero]
    by_cases hc : (-p).toNat <= m.log2 + 2
    · rw [Nat.min_eq_left hc]
    · rw [Nat.min_eq_right (by omega)]
      have hml : m < 2 ^ (m.log2 + 1) := Nat.lt_log2_self
      rw [Nat.div_eq_of_lt (Nat.lt_of_lt_of_le hml (Nat.pow_le_pow_right (by decide) (by omega))),Nat.div_eq_of_lt (Nat.lt_of_lt_of_le hml (Nat.pow_le_pow_right (by decide) (by omega)))]
  refine ⟨D.nearest false (m1 * m2) (p1 + p2),m / 2 ^ (-p).toNat,?_,?_,Nat.le_trans (Nat.div_le_self _ _) hm,by rw [hr]; rfl,?_⟩
  · unfold Format.mul; rw [hx,hy]; rfl
  · rw [hr]; unfold Datum.toInt Datum.integral
    simp only [hcut,signed,Bool.false_eq_true,if_false,Nat.shiftLeft_zero]
  · unfold Format.order
    rw [hr,hx]
    simp only [Datum.order,signed,Bool.false_eq_true,if_false,Nat.shiftLeft_eq,Option.some.injEq]
    generalize hb : min p p1 = b
    have e1 : m1 * 2 ^ (p1 - b).toNat = n * 2 ^ (-p).toNat * 2 ^ (p - b).toNat := by
      rw [hm1,Nat.mul_assoc,Nat.mul_assoc,<- Nat.pow_add,<- Nat.pow_add]; congr 2; omega
    have hq : 0 < 2 ^ (p - b).toNat := Nat.two_pow_pos _
    have hq2 : 0 < 2 ^ (-p).toNat := Nat.two_pow_pos _
    rw [Int.compare_eq_lt,Int.compare_eq_gt,Int.compare_eq_eq,e1]
    rcases Nat.lt_trichotomy m (n * 2 ^ (-p).toNat) with h | h | h
    · left
      refine ⟨?_,Nat.le_of_lt ((Nat.div_lt_iff_lt_mul hq2).2 h)⟩
      exact Int.ofNat_lt.2 (Nat.mul_lt_mul_of_pos_right h hq)
    · right; right
      exact ⟨by rw [h],(Nat.le_div_iff_mul_le hq2).2 (Nat.le_of_eq h.symm)⟩
    · right; left
      refine ⟨?_,(Nat.le_div_iff_mul_le hq2).2 (Nat.le_of_lt h)⟩
      exact Int.ofNat_lt.2 (Nat.mul_lt_mul_of_pos_right h hq)
end Go.Fl
namespace Go.K
section
variable {C : Cx} {V : Vw} {H : Hp} {L : Sl} {ty : TypeId}
def fltRes (op : BinOp) (k : FloatKind) (a b : Nat) : Option Value :=
  match op with
  | .eql => some (.bool (k.format.order a b == some .eq)) | .neq => some (.bool (k.format.order a b != some .eq))
  | .lss => some (.bool (k.format.order a b == some .lt)) | .leq => some (.bool (k.format.order a b == some .lt || k.format.order a b == some .eq))
  | .gtr => some (.bool (k.format.order a b == some .gt)) | .geq => some (.bool (k.format.order a b == some .gt || k.format.order a b == some .eq))
  | _ => none
theorem run_eqGuard_float {P : Program} {w : World} (op : BinOp) (t : TypeId) (x y : Operand) (k k' : FloatKind) (a b : Nat) : (eqGuard op t x y (.float k a) (.float k' b)).run P w = .ok () w := by
  unfold eqGuard; cases op <;> rfl
theorem Y.fcmp {x y : Operand} {k : FloatKind} {m n : Nat} {op : BinOp} {t t' : TypeId} {r : Value} (hx : ev L x = some (.float k m)) (hy : ev L y = some (.float k n)) (hr : fltRes op k m n = some r) : Yl C V H L (.binOp op t x y t') ty r := (fun V2 a w hle i o ho hty => by
  simp only [execOp,ho,i.1.ev hx,i.1.ev hy,Sem.run_bind,run_eqGuard_float,Result.andThen_ok]
  cases op <;> simp only [fltRes,Option.some.injEq,reduceCtorEq] at hr <;> subst hr <;> simp [binOp,Op.floatCmp])
theorem Y.farith {x y : Operand} {k : FloatKind} {m n r : Nat} {op : BinOp} {t t' : TypeId} (hx : ev L x = some (.float k m)) (hy : ev L y = some (.float k n)) (hr : floatBits op k m n = some r) : Yl C V H L (.binOp op t x y t') ty (.float k r) := (fun V2 a w hle i o ho hty => by
  simp only [execOp,ho,i.1.ev hx,i.1.ev hy,Sem.run_bind,run_eqGuard_float,Result.andThen_ok,run_float_arith w op t k m n r hr,Sem.run_pure])
def fltT (P : Program) (s t : TypeId) : Option FloatKind := match P.underlying s,P.underlying t with
  | some _,some (.float k) => some k
  | _,_ => none
theorem Y.convIF {x : Operand} {q : IntKind} {k : FloatKind} {n : Int} {s t : TypeId} (hx : ev L x = some (.int q n)) (ht : fltT C.P s t = some k) : Yl C V H L (.convert s t x) ty (.float k (floatOfInt k n)) := (fun V2 a w hle i o ho hty => by
  unfold fltT at ht
  split at ht
  · rename_i u k' hs hd
    cases ht
    simp only [execOp,ho,i.1.ev hx,run_convert_int_float w s t q k n (by rw [hs]; rfl) hd,Sem.run_bind,Result.andThen_ok,Sem.run_pure]
  · cases ht)
theorem Y.convFI {x : Operand} {q : FloatKind} {k : IntKind} {b : Nat} {n : Int} {s t : TypeId} (hx : ev L x = some (.float q b)) (ht : intT C.P s t = some k) (hn : floatToIntVal q b k = some n) : Yl C V H L (.convert s t x) ty (.int k n) := (fun V2 a w hle i o ho hty => by
  unfold intT at ht
  split at ht
  · rename_i u k' hs hd
    cases ht
    simp only [execOp,ho,i.1.ev hx,run_convert_float_int w s t q k b n (by rw [hs]; rfl) hd hn,Sem.run_bind,Result.andThen_ok,Sem.run_pure]
  · cases ht)
def fmin (k : FloatKind) (x y : Nat) : Nat := match k.format.order x y with
  | some .lt => x
  | some .gt => y
  | _ => if (k.decode x).neg then x else y
end
end Go.K
namespace Go.Fl
open Ieee
theorem order_none {x y : Nat} (hx : (D.read x).isNaN = false) (hy : (D.read y).isNaN = false) : D.order x y ≠ none := by
  unfold Format.order
  cases hd : D.read x <;> cases he : D.read y <;> simp_all [Datum.order,Datum.isNaN]
theorem order_nan {x : Nat} (hx : (D.read x).isNaN = true) (y : Nat) : D.order x y = none := by
  unfold Format.order
  cases hd : D.read x <;> simp_all [Datum.order,Datum.isNaN]
theorem order_total {x y : Nat} (hx : (D.read x).isNaN = false) (hy : (D.read y).isNaN = false) : D.order x y = some .lt \/ D.order x y = some .eq \/ D.order x y = some .gt := by
  have := order_none hx hy
  cases h : D.order x y with
  | none => exact absurd h this
  | some c => cases c <;> simp
end Go.Fl
namespace Go.Fl
open Ieee
abbrev one : Nat := 4607182418800017408
def fl (n : Int) : Nat := floatOfInt .f64 n
theorem fl_read {n : Int} (h0 : 0 <= n) (h : n < 4503599627370496) : ∃ m p,D.read (fl n) = .number false m p /\ p <= 0 /\ -1074 <= p /\ m = n.toNat * 2 ^ (-p).toNat /\ (n ≠ 0 -> -52 <= p) /\ m <= 9007199254740992 := by
  have e : fl n = D.nearest false n.toNat 0 := by
    unfold fl floatOfInt FloatKind.nearest FloatKind.encode
    show D.nearest (decide (n < 0)) n.natAbs 0 = _
    rw [decide_eq_false (by omega),show n.natAbs = n.toNat from by omega]
  obtain ⟨m,p,h1,h2,h3,h4,h5,h6⟩ := int_read (n := n.toNat) (by omega)
  exact ⟨m,p,by rw [e,h1],h2,h3,h4,fun hn => h5 (by omega),h6⟩
def bnd (n : Int) : Int := min (max n 0) 1073741824
def above0 (y : Nat) : Bool := D.order y 0 == some .gt
def above1 (y : Nat) : Bool := D.order y one == some .gt || D.order y one == some .eq
def partK (n : Int) (y : Nat) : Int := match floatBits .mul .f64 (fl n) y with
  | some r => (floatToIntVal .f64 r .i64).getD 0
  | none => 0
def part (n : Int) (y : Nat) : Int := if min n 1099511627776 < 1 \/ above0 y = false then 0 else if above1 y = true then min n 1099511627776 else min (partK (min n 1099511627776) y) (min n 1099511627776)
theorem one_num : (D.read one).isNaN = false := by rw [read_one]; rfl
theorem part_facts {n : Int} {y : Nat} (h1 : 1 <= n) (h2 : n <= 1099511627776) (ha : above0 y = true) (hb : above1 y = false) :
    ∃ r,floatBits .mul .f64 (fl n) y = some r /\ floatToIntVal .f64 r .i64 = some (partK n y) /\ 0 <= partK n y /\ (D.read r).isNaN = false /\
      (D.order r (fl n) = some .lt /\ partK n y <= n \/ D.order r (fl n) = some .gt /\ n <= partK n y \/ D.order r (fl n) = some .eq /\ n <= partK n y) := by
  have h0 : D.order y 0 = some .gt := by unfold above0 at ha; simpa using ha
  have hy : (D.read y).isNaN = false := by
    cases hn : (D.read y).isNaN with
    | false => rfl
    | true => rw [order_nan hn] at h0; cases h0
  have hlt : D.order y one = some .lt := by
    unfold above1 at hb
    rcases order_total hy one_num with h | h | h
    · exact h
    · rw [h] at hb; simp at hb
    · rw [h] at hb; simp at hb
  obtain ⟨m2,p2,hr2,hm2,hp2⟩ := part_read h0 hlt
  obtain ⟨m1,p1,hr1,hp1,_,hm1,_,_⟩ := fl_read (n := n) (by omega) (by omega)
  obtain ⟨r,k,e1,e2,e3,e4,e5⟩ := mul_part hr1 hp1 hm1 (by omega) (by omega) hr2 hm2 hp2
  have ef : floatToIntVal .f64 r .i64 = some (k : Int) := by
    unfold floatToIntVal
    have : (FloatKind.f64.decode r).toInt .zero = some (k : Int) := e2
    rw [this]
    simp only
    rw [if_pos ⟨by have : IntKind.i64.min = -9223372036854775808 := rfl; omega,by have : IntKind.i64.max = 9223372036854775807 := rfl; omega⟩]
  have em : floatBits .mul .f64 (fl n) y = some r := e1
  have ek : partK n y = k := by unfold partK; rw [em]; simp only; rw [ef]; rfl
  rw [ek]
  refine ⟨r,em,ef,by omega,e4,?_⟩
  rcases e5 with ⟨h,h'⟩ | ⟨h,h'⟩ | ⟨h,h'⟩
  · exact .inl ⟨h,by omega⟩
  · exact .inr (.inl ⟨h,by omega⟩)
  · exact .inr (.inr ⟨h,by omega⟩)
theorem part_range {n : Int} (hn : 0 <= n) (y : Nat) : 0 <= part n y /\ part n y <= n := by
  unfold part
  split
  · omega
  · rename_i hc
    split
    · omega
    · rename_i hb
      obtain ⟨r,_,_,h3,_⟩ := part_facts (n := min n 1099511627776) (y := y) (by omega) (by omega) (by cases h : above0 y <;> simp_all) (by simpa using hb)
      omega
def share (a b : Int) (y : Nat) : Int := min (max (part (bnd a + bnd b) y - bnd b) 0) (bnd a)
def off (a b : Int) (y : Nat) : Nat := ((floatBits .quo .f64 (fl (bnd b)) (fl (bnd a + bnd b))).bind fun q => floatBits .sub .f64 q y).getD 0
def uneven (a b : Int) (y : Nat) : Nat := if bnd a + bnd b = 0 then 0 else if (D.read y).isNaN = true then one else Go.K.fmin .f64 (off a b y % 9223372036854775808) one
def gives (id free backup : Int) (y s : Nat) : Int :=
  if D.order (uneven (bnd free) (bnd backup) y) s == some .gt then
    if id = 0 then share (bnd free) (bnd backup) y else if id = 1 then max (bnd backup - part (bnd free + bnd backup) y) 0 else 0
  else 0
end Go.Fl
namespace Go.Fl
open Ieee
section
variable {n N : Int} {y : Nat}
theorem part_a (hN : min n 1099511627776 = N) (h : N < 1) : part n y = 0 := by unfold part; rw [if_pos (.inl (by omega))]
theorem part_b (h : above0 y = false) : part n y = 0 := by unfold part; rw [if_pos (.inr h)]
theorem part_c (hN : min n 1099511627776 = N) (h1 : ¬ N < 1) (h2 : above0 y = true) (h3 : above1 y = true) : part n y = N := by
  unfold part; rw [hN,if_neg (by rw [h2]; simp; omega),if_pos h3]
theorem part_d (hN : min n 1099511627776 = N) (h1 : ¬ N < 1) (h2 : above0 y = true) (h3 : above1 y = false) : part n y = min (partK N y) N := by
  unfold part; rw [hN,if_neg (by rw [h2]; simp; omega),if_neg (by rw [h3]; decide)]
end
end Go.Fl
namespace Go.Fl
end Go.Fl
namespace Go.Fl
open Ieee
end Go.Fl
