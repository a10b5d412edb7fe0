/- The arguments of the laws on answers, read.
Conditions: none; no program in sight. -/
import Derived.Test.YtfgblingojgafaaGreatEB
import Derived.Test.YtfgblingojgafaaGreatSA
import Derived.Test.YtfgblingojgafaaGreatKD
import Derived.Test.YtfgblingojgafaaGreatKA
import Derived.Test.YtfgblingojgafaaGreatRA
import Derived.KernelRfl
import Derived.Test.YtfgblingojgafaaGreatProg
import Derived.SizedLaws
import Derived.ChangeKeysEq
import Derived.LoopN
import Derived.Laws.CopyRow
import Derived.Laws.IdiomCopy
set_option linter.unusedSimpArgs false
set_option linter.unusedVariables false
set_option linter.unusedSectionVars false
set_option maxRecDepth 4000
namespace Go.K
open Go.ChangeShapes Go.WideShapes Go.ChangeAt Go.RowKit
structure Eg.Csok (V : Vw) (c : Eg.Cs) : Prop where
  r : Pc.R V c.p c.hv c.ov
  ci : 0 <= c.p.ci /\ c.p.ci <= 4294967295
theorem Eg.Csok.le {V V2 : Vw} {c : Eg.Cs} (h : Eg.Csok V c) (hl : V.le V2) : Eg.Csok V2 c := ⟨h.r.le hl,h.ci⟩
def strucT (P : Program) (t : TypeId) : Bool := match P.underlying t with
  | some (.struct _) => true
  | _ => false
def caseSh (b o : TypeId) : List Sh := [i64g,i64g,i64g,i64g,u32g,i64g,i64g,u32g,u32g,u32g,u32g,.sl b 1,.sl o 2]
def siteSh (g : TypeId) : List Sh := [i64g,i64g,i64g,u32g,i64g,i64g,i64g,.fl .f64,.fl .f64,.fl .f64,.fl .f64,.sl g 2,i64g]
section
variable {H : Type} {enc : TypeId × Value -> H} {P : Program} {w : World} {base : Nat} {spare : Nat -> Bool} {held : Bool}
theorem open_sh {r : Reach} {b0 : Nat} {d : Nat} {t : TypeId} {v : Value} {dd : DataW H} {ps : List MemPlace} {gs : List Sh} (hs : strucT P t = true) (ht : shN P d t = some gs) (hv : Value.okWide P w r b0 t v) (h : DataW.Trod enc P w base spare held t v dd ps) : ∃ cs : List Value,v = .agg cs.toArray /\ shVs enc P w base spare held gs cs := by
  obtain ⟨fs,hs⟩ : ∃ fs,P.underlying t = some (.struct fs) := by
    unfold strucT at hs; split at hs
    · exact ⟨_,‹_›⟩
    · cases hs
  obtain ⟨cs,rfl,_⟩ := okWide_struct hs hv
  obtain ⟨fuel,hf⟩ := h
  exact ⟨cs.toList,by simp,trod_sh d ht (by simpa [Value.cells] using hf)⟩
theorem open_case {r : Reach} {b0 : Nat} {t b o : TypeId} {v : Value} {dd : DataW H} {ps : List MemPlace} (hs : strucT P t = true) (he : shN P 4 t = some (caseSh b o)) (hb : tagOf P b = some (0,.u8)) (ho : shN P 2 o = some [i64g,.sl b 1])
    (hv : Value.okWide P w r b0 t v) (h : DataW.Trod enc P w base spare held t v dd ps) : ∃ c : Eg.Cs,v = .agg c.cells /\ Eg.Csok (allV w) c := by
  obtain ⟨cs,rfl,hsh⟩ := open_sh hs he hv h
  unfold caseSh at hsh
  obtain ⟨v0,c0,rfl,h0,k0⟩ := shVs_cons hsh
  obtain ⟨v1,c1,rfl,h1,k1⟩ := shVs_cons k0
  obtain ⟨v2,c2,rfl,h2,k2⟩ := shVs_cons k1
  obtain ⟨v3,c3,rfl,h3,k3⟩ := shVs_cons k2
  obtain ⟨v4,c4,rfl,h4,k4⟩ := shVs_cons k3
  obtain ⟨v5,c5,rfl,h5,k5⟩ := shVs_cons k4
  obtain ⟨v6,c6,rfl,h6,k6⟩ := shVs_cons k5
  obtain ⟨v7,c7,rfl,h7,k7⟩ := shVs_cons k6
  obtain ⟨v8,c8,rfl,h8,k8⟩ := shVs_cons k7
  obtain ⟨v9,c9,rfl,h9,k9⟩ := shVs_cons k8
  obtain ⟨va,ca,rfl,ha,ka⟩ := shVs_cons k9
  obtain ⟨vb,cb,rfl,hbb,kb⟩ := shVs_cons ka
  obtain ⟨vc,cc,rfl,hcc,kc⟩ := shVs_cons kb
  obtain rfl := shVs_nil kc
  obtain ⟨n0,rfl⟩ := shV_i64 h0
  obtain ⟨n1,rfl⟩ := shV_i64 h1
  obtain ⟨n2,rfl⟩ := shV_i64 h2
  obtain ⟨n3,rfl⟩ := shV_i64 h3
  obtain ⟨n4,rfl,w4⟩ := shV_u32 h4
  obtain ⟨n5,rfl⟩ := shV_i64 h5
  obtain ⟨n6,rfl⟩ := shV_i64 h6
  obtain ⟨n7,rfl,w7⟩ := shV_u32 h7
  obtain ⟨n8,rfl,w8⟩ := shV_u32 h8
  obtain ⟨n9,rfl,w9⟩ := shV_u32 h9
  obtain ⟨na,rfl,_⟩ := shV_u32 ha
  obtain ⟨hw,hhw⟩ := sh_bytes hb hbb
  obtain ⟨os,hos⟩ := sh_opts hb ho hcc
  exact ⟨⟨n0,n1,n2,⟨n3,n4,n5,n6,n7,n8,n9,na,hw,os⟩,vb,vc⟩,rfl,⟨⟨hhw,hos,w4,w8,w9⟩,w7⟩⟩
theorem sh_ranges {g : TypeId} {v : Value} (hg : flatN P 3 g = some Rg.tags) (h : shV enc P w base spare held (.sl g 2) v) : ∃ l : List Rg,Rd (allV w) [] 2 v l.length (l.flatMap Rg.cells) /\ Rg.Oks l := by
  obtain ⟨rows,hr,_,hq⟩ := h
  obtain ⟨l,hL,hL2⟩ := rows_of Rg.cells Rg.Ok (rows := rows) (fun q hqq => by
    obtain ⟨fuel,x,hd⟩ := hq q hqq
    exact Rg.of_wf (trod_flatN 3 hg hd))
  subst hL
  rw [List.length_map,<- List.flatMap_def] at hr
  exact ⟨l,hr,hL2⟩
theorem open_site {r : Reach} {b0 : Nat} {t g : TypeId} {v : Value} {dd : DataW H} {ps : List MemPlace} (hs : strucT P t = true) (he : shN P 4 t = some (siteSh g)) (hg : flatN P 3 g = some Rg.tags)
    (hv : Value.okWide P w r b0 t v) (h : DataW.Trod enc P w base spare held t v dd ps) : ∃ (x : Si) (pv : Value),v = .agg (x.cells pv) /\ Rd (allV w) [] 2 pv x.pool.length (x.pool.flatMap Rg.cells) /\ Rg.Oks x.pool /\ (0 <= x.server /\ x.server <= 4294967295) := by
  obtain ⟨cs,rfl,hsh⟩ := open_sh hs he hv h
  unfold siteSh at hsh
  obtain ⟨v0,c0,rfl,h0,k0⟩ := shVs_cons hsh
  obtain ⟨v1,c1,rfl,h1,k1⟩ := shVs_cons k0
  obtain ⟨v2,c2,rfl,h2,k2⟩ := shVs_cons k1
  obtain ⟨v3,c3,rfl,h3,k3⟩ := shVs_cons k2
  obtain ⟨v4,c4,rfl,h4,k4⟩ := shVs_cons k3
  obtain ⟨v5,c5,rfl,h5,k5⟩ := shVs_cons k4
  obtain ⟨v6,c6,rfl,h6,k6⟩ := shVs_cons k5
  obtain ⟨v7,c7,rfl,⟨f7,rfl⟩,k7⟩ := shVs_cons k6
  obtain ⟨v8,c8,rfl,⟨f8,rfl⟩,k8⟩ := shVs_cons k7
  obtain ⟨v9,c9,rfl,⟨f9,rfl⟩,k9⟩ := shVs_cons k8
  obtain ⟨va,ca,rfl,⟨fa,rfl⟩,ka⟩ := shVs_cons k9
  obtain ⟨vb,cb,rfl,hbb,kb⟩ := shVs_cons ka
  obtain ⟨vc,cc,rfl,hcc,kc⟩ := shVs_cons kb
  obtain rfl := shVs_nil kc
  obtain ⟨n0,rfl⟩ := shV_i64 h0
  obtain ⟨n1,rfl⟩ := shV_i64 h1
  obtain ⟨n2,rfl⟩ := shV_i64 h2
  obtain ⟨n3,rfl,w3⟩ := shV_u32 h3
  obtain ⟨n4,rfl⟩ := shV_i64 h4
  obtain ⟨n5,rfl⟩ := shV_i64 h5
  obtain ⟨n6,rfl⟩ := shV_i64 h6
  obtain ⟨nc,rfl⟩ := shV_i64 hcc
  obtain ⟨l,hl,hok⟩ := sh_ranges hg hbb
  exact ⟨⟨n0,n1,n2,n3,n4,n5,n6,f7,f8,f9,fa,l,nc⟩,vb,rfl,hl,hok,w3⟩
end
end Go.K
namespace Go.K
section
variable {C : Cx} {V : Vw} {H : Hp} {L : Sl} {Q : Exit -> Act -> World -> Prop} {ops : Array Oper} {os : List Oper}
variable {ty : TypeId} {pos : String} {aft : Array Edge} {d : Nat} {S0 : Sg}
theorem RunD.takeG {g i j dj : Nat} {t b0 : Bool} {op : Op} {v : Value} {listed : Array Bool} {b : Nat} {o : Obj} (m : Nat) (hm : S0[m]? = some (b,o)) (ho : ops[i]? = some ⟨some d,op,ty,pos,aft,some (j,t)⟩) (hj : ((ops[j]?).bind (·.dst)) = some dj) (hb : L.lookup dj = some (.bool b0)) (e : b0 = t) (hs : Region.noSelect ops = true) (hf : Region.free .any ops listed i = true)
    (hr : (Region.ready .any ops listed).contains i = true) (hQ : ∀ c a w,Q (.panic c) (a.put (some d) v) w -> Q (.panic c) a w) (hd : d < C.n) (hk : KnAll V H S0) (hy : ∀ B,Yl (CK C [(b,o)] B) (VK [(b,o)]) [] L op ty v)
    (h : RunD C ops S0 g (listed.setIfInBounds i true) V H ((d,v) :: L) Q) : RunD C ops S0 (g + 1) listed V H L Q := fun a w q =>
  anyD_take ho (Region.noSelect_spec hs) hQ g listed a w (Region.free_spec ho hf) (by simpa using hr) (fun b o hb => (hk b o hb).st q.2)
    (.inl ⟨by simp only [Region.wanted,yielded,hj,Option.bind_some,q.1.lk dj _ hb,e,beq_self_eq_true],fun w' hw' => hy w' _ a w' (Vw.le_refl _) ⟨q.1,stK fun c oc hc => by rw [List.mem_singleton] at hc; cases hc; exact hw' b o (List.mem_of_getElem? hm)⟩ _ rfl rfl⟩) (h _ w ⟨q.1.put hd v,q.2⟩)
theorem RunD.pureG {g i j dj : Nat} {t b0 : Bool} {op : Op} {v : Value} {listed : Array Bool} (ho : ops[i]? = some ⟨some d,op,ty,pos,aft,some (j,t)⟩) (hj : ((ops[j]?).bind (·.dst)) = some dj) (hb : L.lookup dj = some (.bool b0)) (e : b0 = t) (hs : Region.noSelect ops = true) (hf : Region.free .any ops listed i = true)
    (hr : (Region.ready .any ops listed).contains i = true) (hQ : ∀ c a w,Q (.panic c) (a.put (some d) v) w -> Q (.panic c) a w) (hd : d < C.n) (hk : KnAll V H S0) (hy : ∀ B,Yl (CK C [] B) (VK []) [] L op ty v)
    (h : RunD C ops S0 g (listed.setIfInBounds i true) V H ((d,v) :: L) Q) : RunD C ops S0 (g + 1) listed V H L Q := fun a w q =>
  anyD_take ho (Region.noSelect_spec hs) hQ g listed a w (Region.free_spec ho hf) (by simpa using hr) (fun b o hb => (hk b o hb).st q.2)
    (.inl ⟨by simp only [Region.wanted,yielded,hj,Option.bind_some,q.1.lk dj _ hb,e,beq_self_eq_true],fun w' _ => hy w' _ a w' (Vw.le_refl _) ⟨q.1,stK fun c oc hc => by cases hc⟩ _ rfl rfl⟩) (h _ w ⟨q.1.put hd v,q.2⟩)
end
end Go.K
namespace Go.K
theorem Z {α : Sort _} {a : α} : a = a := rfl
theorem W {p : Prop} (h : p := by omega) : p := h
theorem WD {p : Prop} (h : p := by decide) : p := h
theorem WK {p : Prop} (h : p := by kernel_rfl) : p := h
theorem WB {p : Prop} (h : p := by first | omega | (simp only [swp_size,Array.size_setIfInBounds]; omega)) : p := h
class KBp (b : Bool) (P N : outParam Prop) where
  t : b = true -> P
  f : b = false -> N
instance (priority := low) (b : Bool) : KBp b (b = true) (b = false) := ⟨id,id⟩
instance (p : Prop) [Decidable p] : KBp (decide p) p (¬ p) := ⟨of_decide_eq_true,of_decide_eq_false⟩
instance (a b : Int) : KBp (a == b) (a = b) (¬ a = b) := ⟨beq_iff_eq.1,beq_eq_false_iff_ne.1⟩
instance (a b : Int) : KBp (a != b) (¬ a = b) (a = b) := ⟨bne_iff_ne.1,bne_eq_false_iff_eq.1⟩
instance (a b : Nat) : KBp (a == b) (a = b) (¬ a = b) := ⟨beq_iff_eq.1,beq_eq_false_iff_ne.1⟩
instance (a b : Nat) : KBp (a != b) (¬ a = b) (a = b) := ⟨bne_iff_ne.1,bne_eq_false_iff_eq.1⟩
theorem Zq (b : Bool) {P N Q : Prop} [k : KBp b P N] (h1 : b = true -> P -> Q) (h2 : b = false -> N -> Q) : Q := by
  cases h : b with
  | true => exact h1 h (k.t h)
  | false => exact h2 h (k.f h)
section
variable {C : Cx} {V : Vw} {H : Hp} {L : Sl} {Q : Exit -> Act -> World -> Prop} {ops : Array Oper} {os : List Oper} {KQ : Act -> World -> Prop}
variable {ty : TypeId} {pos : String} {aft : Array Edge} {d : Nat}
theorem Zs {x y : Code} (h : Tr C V H L x (Exit.then (y.wp C.P Q) Q)) : Tr C V H L (.seq x y) Q := Tr.seq h
theorem Zr {id : Nat} {l : List Oper} (h : Run C l.toArray V H L l Q) : Tr C V H L (.region id l.toArray false) Q := Tr.region h
theorem Zb {id : Nat} {c : Code} (h : Tr C V H L c (Exit.inBlock id Q)) : Tr C V H L (.block id c) Q := Tr.block h
theorem Ze (h : Ex C V H L Q .normal) : Run C ops V H L [] Q := Run.to_end h
theorem ZE (h : Ex C V H L Q .normal) : RunQ C ops V H L [] (Q .normal) := RunQ.to_end h
theorem Zg {y : Code} (h : Tr C V H L y Q) : Ex C V H L (Exit.then (y.wp C.P Q) Q) .normal := h
theorem Zt (h : Ex C V H L Q .normal) : Tr C V H L .skip Q := Tr.to_end h
theorem Zu (h : Ex C V H L Q .ret) : Tr C V H L .ret Q := Tr.to_ret h
theorem Zx {id : Nat} (h : Ex C V H L Q (.exit id)) : Tr C V H L (.exit id) Q := Tr.to_exit h
theorem Zc {id : Nat} (h : Ex C V H L Q .normal) : Ex C V H L (Exit.inBlock id Q) .normal := h
theorem Zn {k : Act -> World -> Prop} (h : Ex C V H L Q .ret) : Ex C V H L (Exit.then k Q) .ret := h
theorem Zk {id : Nat} (h : Ex C V H L Q .ret) : Ex C V H L (Exit.inBlock id Q) .ret := h
theorem Zy {id : Nat} {k : Act -> World -> Prop} (h : Ex C V H L Q (.exit id)) : Ex C V H L (Exit.then k Q) (.exit id) := h
theorem Zi {id : Nat} (h : Ex C V H L Q .normal) : Ex C V H L (Exit.inBlock id Q) (.exit id) := Ex.exit_in h
theorem Zv {op : Op} {v : Value} (hx : Yl C V H L op ty v) (k : Run C ops V H ((d,v) :: L) os Q) (hd : Nat.blt d C.n = true := by exact rfl) : Run C ops V H L (⟨some d,op,ty,pos,aft,none⟩ :: os) Q := Run.val (lt hd) hx k
theorem Zm {x : Operand} {v : Value} (hx : ev L x = some v) (k : Run C ops V H ((d,v) :: L) os Q) (hd : Nat.blt d C.n = true := by exact rfl) : Run C ops V H L (⟨some d,.move x,ty,pos,aft,none⟩ :: os) Q := Run.val (lt hd) (Y.move hx) k
theorem Za {x : Operand} {v : Value} (hx : ev L x = some v) (k : Run C ops V H ((d,v) :: L) os Q) (hd : Nat.blt d C.n = true := by exact rfl) : Run C ops V H L (⟨some d,.assign x,ty,pos,aft,none⟩ :: os) Q := Run.val (lt hd) (Y.assign hx) k
theorem ZV {op : Op} {v : Value} (hx : Yl C V H L op ty v) (k : RunQ C ops V H ((d,v) :: L) os KQ) (hd : Nat.blt d C.n = true := by exact rfl) : RunQ C ops V H L (⟨some d,op,ty,pos,aft,none⟩ :: os) KQ := RunQ.val (lt hd) hx k
theorem ZM {x : Operand} {v : Value} (hx : ev L x = some v) (k : RunQ C ops V H ((d,v) :: L) os KQ) (hd : Nat.blt d C.n = true := by exact rfl) : RunQ C ops V H L (⟨some d,.move x,ty,pos,aft,none⟩ :: os) KQ := RunQ.val (lt hd) (Y.move hx) k
theorem ZA {x : Operand} {v : Value} (hx : ev L x = some v) (k : RunQ C ops V H ((d,v) :: L) os KQ) (hd : Nat.blt d C.n = true := by exact rfl) : RunQ C ops V H L (⟨some d,.assign x,ty,pos,aft,none⟩ :: os) KQ := RunQ.val (lt hd) (Y.assign hx) k
theorem Zo {o : Oper} {j : Nat} {t : Bool} {d dd : Nat} {b : Bool} (e : b = !t) (hd : o.dst = some dd) (k : Run C ops V H ((dd,undef) :: L) os Q) (hg : o.guard = some (j,t) := by exact rfl) (hj : ((ops[j]?).bind (·.dst)) = some d := by exact rfl) (hb : L.lookup d = some (.bool b) := by exact rfl) (hn : Nat.blt dd C.n = true := by exact rfl) : Run C ops V H L (o :: os) Q := Run.off hg hj hb e hd (lt hn) k
theorem ZO {o : Oper} {j : Nat} {t : Bool} {d dd : Nat} {b : Bool} (e : b = !t) (hd : o.dst = some dd) (k : RunQ C ops V H ((dd,undef) :: L) os KQ) (hg : o.guard = some (j,t) := by exact rfl) (hj : ((ops[j]?).bind (·.dst)) = some d := by exact rfl) (hb : L.lookup d = some (.bool b) := by exact rfl) (hn : Nat.blt dd C.n = true := by exact rfl) : RunQ C ops V H L (o :: os) KQ := RunQ.off hg hj hb e hd (lt hn) k
theorem Zp {o : Oper} {j : Nat} {t : Bool} {d : Nat} {b : Bool} (e : b = t) (k : Run C ops V H L (⟨o.dst,o.op,o.type,o.pos,o.after,none⟩ :: os) Q) (hg : o.guard = some (j,t) := by exact rfl) (hj : ((ops[j]?).bind (·.dst)) = some d := by exact rfl) (hb : L.lookup d = some (.bool b) := by exact rfl) : Run C ops V H L (o :: os) Q := Run.on hg hj hb e k
theorem ZP {o : Oper} {j : Nat} {t : Bool} {d : Nat} {b : Bool} (e : b = t) (k : RunQ C ops V H L (⟨o.dst,o.op,o.type,o.pos,o.after,none⟩ :: os) KQ) (hg : o.guard = some (j,t) := by exact rfl) (hj : ((ops[j]?).bind (·.dst)) = some d := by exact rfl) (hb : L.lookup d = some (.bool b) := by exact rfl) : RunQ C ops V H L (o :: os) KQ := RunQ.on hg hj hb e k
theorem ZK (i : Nat) {b : Nat} {o : Obj} {s : Sg} (h : H[i]? = some ((b,o) :: s)) : KnAll V H [(b,o)] := KnAll.cons (Kn.at i h) KnAll.nil
variable {S0 : Sg} {z : Nat}
theorem Zw {g : Nat} (i : Nat) {op : Op} {v : Value} {listed : Array Bool} (ho : ops[i]? = some ⟨some d,op,ty,pos,aft,none⟩) (hk : KnAll V H S0) (hy : ∀ B,Yl (CK C [] B) (VK []) [] L op ty v) (h : RunT C ops S0 z g (listed.setIfInBounds i true) V H ((d,v) :: L) Q)
    (hs : Region.noSelect ops = true := by kernel_rfl) (hf : Region.free .any ops listed i = true := by kernel_rfl) (hr : (Region.ready .any ops listed).contains i = true := by kernel_rfl) (hz : Nat.blt i z = true := by kernel_rfl) (hQ : ∀ c a w,Q (.panic c) (a.put (some d) v) w -> Q (.panic c) a w := by exact fun _ _ _ h => h) (hd : d < C.n := by exact lt rfl) :
    RunT C ops S0 z (g + 1) listed V H L Q := RunT.pure ho hs hf hr hz hQ hd hk hy h
theorem Zwm {g : Nat} (i : Nat) {x : Operand} {v : Value} {listed : Array Bool} (ho : ops[i]? = some ⟨some d,.move x,ty,pos,aft,none⟩) (hx : ev L x = some v) (hk : KnAll V H S0) (h : RunT C ops S0 z g (listed.setIfInBounds i true) V H ((d,v) :: L) Q)
    (hs : Region.noSelect ops = true := by kernel_rfl) (hf : Region.free .any ops listed i = true := by kernel_rfl) (hr : (Region.ready .any ops listed).contains i = true := by kernel_rfl) (hz : Nat.blt i z = true := by kernel_rfl) (hQ : ∀ c a w,Q (.panic c) (a.put (some d) v) w -> Q (.panic c) a w := by exact fun _ _ _ h => h) (hd : d < C.n := by exact lt rfl) :
    RunT C ops S0 z (g + 1) listed V H L Q := RunT.pure ho hs hf hr hz hQ hd hk (fun _ => Y.move hx) h
theorem ZT {g : Nat} (i : Nat) {op : Op} {v : Value} {listed : Array Bool} {b : Nat} {o : Obj} (m : Nat) (hm : S0[m]? = some (b,o)) (ho : ops[i]? = some ⟨some d,op,ty,pos,aft,none⟩) (hk : KnAll V H S0) (hy : ∀ B,Yl (CK C [(b,o)] B) (VK [(b,o)]) [] L op ty v) (h : RunT C ops S0 z g (listed.setIfInBounds i true) V H ((d,v) :: L) Q)
    (hs : Region.noSelect ops = true := by kernel_rfl) (hf : Region.free .any ops listed i = true := by kernel_rfl) (hr : (Region.ready .any ops listed).contains i = true := by kernel_rfl) (hz : (waitsAll .any ops z i && noneZ ops z listed && Nat.blt i z) = true := by kernel_rfl) (hQ : ∀ c a w,Q (.panic c) (a.put (some d) v) w -> Q (.panic c) a w := by exact fun _ _ _ h => h) (hd : d < C.n := by exact lt rfl) :
    RunT C ops S0 z (g + 1) listed V H L Q := RunT.take m hm ho hs hf hr hz hQ hd hk hy h
theorem Zz {g : Nat} (i : Nat) {listed : Array Bool} (h : RunT C ops S0 z g listed V H L Q) (he : listed.getD i false = true := by exact rfl) (hz : Nat.ble z i = true := by exact rfl) (hi : Nat.blt i ops.size = true := by exact rfl) : Ex C V H L (Exit.then (fun a' w' => (preZ ops z listed -> DK S0 w') /\ K.anyT C.P .any ops (DK S0) z Q g listed a' w') Q) .normal := Ex.anyTz he hz hi h
theorem Zd {g : Nat} (i : Nat) {op : Op} {v : Value} {listed : Array Bool} (ho : ops[i]? = some ⟨some d,op,ty,pos,aft,none⟩) (hy : ∀ B,Yl (CK C [] B) (VK []) [] L op ty v) (h : RunD C ops S0 g (listed.setIfInBounds i true) V H ((d,v) :: L) Q)
    (hs : Region.noSelect ops = true := by kernel_rfl) (hf : Region.free .any ops listed i = true := by kernel_rfl) (hr : (Region.ready .any ops listed).contains i = true := by kernel_rfl) (hQ : ∀ c a w,Q (.panic c) (a.put (some d) v) w -> Q (.panic c) a w := by exact fun _ _ _ h => h) (hd : d < C.n := by exact lt rfl) (hk : KnAll V H S0 := by repeat (first | exact KnAll.nil | refine KnAll.cons (by first | assumption | exact Kn.of_nil (by assumption) | exact Kn.at 0 rfl | exact Kn.at 1 rfl | exact Kn.at 2 rfl | exact Kn.at 3 rfl | exact Kn.at 4 rfl | exact Kn.at 5 rfl | exact Kn.at 6 rfl | exact Kn.at 7 rfl | exact Kn.at 8 rfl | exact Kn.at 9 rfl) ?_)) : RunD C ops S0 (g + 1) listed V H L Q := RunD.pure ho hs hf hr hQ hd hk hy h
theorem ZD {g : Nat} (i : Nat) {op : Op} {v : Value} {listed : Array Bool} {b : Nat} {o : Obj} (m : Nat) (hm : S0[m]? = some (b,o)) (ho : ops[i]? = some ⟨some d,op,ty,pos,aft,none⟩) (hy : ∀ B,Yl (CK C [(b,o)] B) (VK [(b,o)]) [] L op ty v) (h : RunD C ops S0 g (listed.setIfInBounds i true) V H ((d,v) :: L) Q)
    (hs : Region.noSelect ops = true := by kernel_rfl) (hf : Region.free .any ops listed i = true := by kernel_rfl) (hr : (Region.ready .any ops listed).contains i = true := by kernel_rfl) (hQ : ∀ c a w,Q (.panic c) (a.put (some d) v) w -> Q (.panic c) a w := by exact fun _ _ _ h => h) (hd : d < C.n := by exact lt rfl) (hk : KnAll V H S0 := by repeat (first | exact KnAll.nil | refine KnAll.cons (by first | assumption | exact Kn.of_nil (by assumption) | exact Kn.at 0 rfl | exact Kn.at 1 rfl | exact Kn.at 2 rfl | exact Kn.at 3 rfl | exact Kn.at 4 rfl | exact Kn.at 5 rfl | exact Kn.at 6 rfl | exact Kn.at 7 rfl | exact Kn.at 8 rfl | exact Kn.at 9 rfl) ?_)) : RunD C ops S0 (g + 1) listed V H L Q := RunD.take m hm ho hs hf hr hQ hd hk hy h
theorem Zh {g : Nat} (i : Nat) {op : Op} {v : Value} {listed : Array Bool} (ho : ops[i]? = some ⟨some d,op,ty,pos,aft,none⟩) (hy : ∀ B,Yl (CK C [] B) (VK []) [] L op ty v) (h : RunL C ops S0 z g (listed.setIfInBounds i true) V H ((d,v) :: L) Q)
    (hs : Region.noSelect ops = true := by kernel_rfl) (hf : Region.free .any ops listed i = true := by kernel_rfl) (hr : (Region.ready .any ops listed).contains i = true := by kernel_rfl) (hz : waits .any ops z i = true := by kernel_rfl) (hQ : ∀ c a w,Q (.panic c) (a.put (some d) v) w -> Q (.panic c) a w := by exact fun _ _ _ h => h) (hd : d < C.n := by exact lt rfl) (hk : KnAll V H S0 := by repeat (first | exact KnAll.nil | refine KnAll.cons (by first | assumption | exact Kn.of_nil (by assumption) | exact Kn.at 0 rfl | exact Kn.at 1 rfl | exact Kn.at 2 rfl | exact Kn.at 3 rfl | exact Kn.at 4 rfl | exact Kn.at 5 rfl | exact Kn.at 6 rfl | exact Kn.at 7 rfl | exact Kn.at 8 rfl | exact Kn.at 9 rfl) ?_)) : RunL C ops S0 z (g + 1) listed V H L Q := RunL.pure ho hs hf hr hz hQ hd hk hy h
theorem ZH {g : Nat} (i : Nat) {op : Op} {v : Value} {listed : Array Bool} {b : Nat} {o : Obj} (m : Nat) (hm : S0[m]? = some (b,o)) (ho : ops[i]? = some ⟨some d,op,ty,pos,aft,none⟩) (hy : ∀ B,Yl (CK C [(b,o)] B) (VK [(b,o)]) [] L op ty v) (h : RunL C ops S0 z g (listed.setIfInBounds i true) V H ((d,v) :: L) Q)
    (hs : Region.noSelect ops = true := by kernel_rfl) (hf : Region.free .any ops listed i = true := by kernel_rfl) (hr : (Region.ready .any ops listed).contains i = true := by kernel_rfl) (hz : waits .any ops z i = true := by kernel_rfl) (hQ : ∀ c a w,Q (.panic c) (a.put (some d) v) w -> Q (.panic c) a w := by exact fun _ _ _ h => h) (hd : d < C.n := by exact lt rfl) (hk : KnAll V H S0 := by repeat (first | exact KnAll.nil | refine KnAll.cons (by first | assumption | exact Kn.of_nil (by assumption) | exact Kn.at 0 rfl | exact Kn.at 1 rfl | exact Kn.at 2 rfl | exact Kn.at 3 rfl | exact Kn.at 4 rfl | exact Kn.at 5 rfl | exact Kn.at 6 rfl | exact Kn.at 7 rfl | exact Kn.at 8 rfl | exact Kn.at 9 rfl) ?_)) : RunL C ops S0 z (g + 1) listed V H L Q := RunL.take m hm ho hs hf hr hz hQ hd hk hy h
theorem Zf {g : Nat} {listed : Array Bool} (h : RunD C ops S0 g listed V H L Q) (hk : KnAll V H S0 := by repeat (first | exact KnAll.nil | refine KnAll.cons (by first | assumption | exact Kn.of_nil (by assumption) | exact Kn.at 0 rfl | exact Kn.at 1 rfl | exact Kn.at 2 rfl | exact Kn.at 3 rfl | exact Kn.at 4 rfl | exact Kn.at 5 rfl | exact Kn.at 6 rfl | exact Kn.at 7 rfl | exact Kn.at 8 rfl | exact Kn.at 9 rfl) ?_)) : Ex C V H L (Exit.then (fun a' w' => DK S0 w' /\ K.anyD C.P .any ops (DK S0) Q g listed a' w') Q) .normal := Ex.anyD hk h
theorem ZF {i g : Nat} {listed : Array Bool} (h : RunL C ops S0 z g listed V H L Q) (hk : KnAll V H S0 := by repeat (first | exact KnAll.nil | refine KnAll.cons (by first | assumption | exact Kn.of_nil (by assumption) | exact Kn.at 0 rfl | exact Kn.at 1 rfl | exact Kn.at 2 rfl | exact Kn.at 3 rfl | exact Kn.at 4 rfl | exact Kn.at 5 rfl | exact Kn.at 6 rfl | exact Kn.at 7 rfl | exact Kn.at 8 rfl | exact Kn.at 9 rfl) ?_)) : Ex C V H L (Exit.then (fun a' w' => (i ≠ z -> DK S0 w') /\ K.anyL C.P .any ops (DK S0) z Q g listed a' w') Q) .normal := Ex.anyL hk h
theorem Yc {x : Operand} {l : List Operand} {at_ : Array TypeId} {f : FuncId} {first cap : Array Value} {vs args : List Value} {v0 : Value} (hx : ev L x = some (.func (.func f) first cap)) (hl : evs L l = some vs) (ha : first.toList ++ vs ++ cap.toList = args) (hc : Does C.P f args V H (Pv v0 V H)) (k : Run C ops V H ((d,v0) :: L) os Q)
    (hd : Nat.blt d C.n = true := by exact rfl) :
    Run C ops V H L (⟨some d,.call { callee := .value x,args := l.toArray,argTypes := at_ },ty,pos,aft,none⟩ :: os) Q := Run.call0 hx hl ha (lt hd) hc k
theorem YC {x : Operand} {l : List Operand} {at_ : Array TypeId} {f : FuncId} {first cap : Array Value} {vs args : List Value} {v0 : Value} (hx : ev L x = some (.func (.func f) first cap)) (hl : evs L l = some vs) (ha : first.toList ++ vs ++ cap.toList = args) (hc : Does C.P f args V H (Pv v0 V H)) (k : RunQ C ops V H ((d,v0) :: L) os KQ)
    (hd : Nat.blt d C.n = true := by exact rfl) :
    RunQ C ops V H L (⟨some d,.call { callee := .value x,args := l.toArray,argTypes := at_ },ty,pos,aft,none⟩ :: os) KQ := RunQ.call0 hx hl ha (lt hd) hc k
theorem Yk {x : Operand} {l : List Operand} {at_ : Array TypeId} {f : FuncId} {first cap : Array Value} {vs args : List Value} {R : Value -> Vw -> Hp -> Prop} (is : List Nat) (hx : ev L x = some (.func (.func f) first cap)) (hl : evs L l = some vs) (ha : first.toList ++ vs ++ cap.toList = args) (hc : Does C.P f args V (pull is H).2 R)
    (k : ∀ v V' H',V.le V' -> R v V' H' -> Run C ops V' ((pull is H).1 ++ H') ((d,v) :: L) os Q)
    (hd : Nat.blt d C.n = true := by exact rfl) :
    Run C ops V H L (⟨some d,.call { callee := .value x,args := l.toArray,argTypes := at_ },ty,pos,aft,none⟩ :: os) Q := Run.call is hx hl ha (lt hd) hc k
theorem ZS {L L' : Sl} (h : subB L L' := by repeat (first | exact subB_nil _ | refine subB_cons (by first | rfl | exact congrArg (fun z => some (Value.int _ z)) (by omega)) ?_)) : subB L L' := h
theorem ZR {X : Type} {p : X -> Prop} {μ : X -> Nat} {V' : X -> Vw} {H' : X -> Hp} {L' : X -> Sl} {m : Nat} (y : X) (hp : p y) (hm : μ y < m) (hL : subB L (L' y) := by repeat (first | exact subB_nil _ | refine subB_cons (by first | rfl | exact congrArg (fun z => some (Value.int _ z)) (by omega)) ?_)) (hV : V' y = V := by exact rfl) (hH : H' y = H := by exact rfl) :
    Ex C V H L (Exit.then (fun a w => ∃ y,p y /\ μ y < m /\ Is C (V' y) (H' y) (L' y) a w) Q) .normal := Ex.round y hp hm hV hH hL
theorem ZX {X : Type} {p : X -> Prop} {V' : X -> Vw} {H' : X -> Hp} {L' : X -> Sl} (y : X) (hp : p y) (hL : subB L (L' y) := by repeat (first | exact subB_nil _ | refine subB_cons (by first | rfl | exact congrArg (fun z => some (Value.int _ z)) (by omega)) ?_)) (hV : V' y = V := by exact rfl) (hH : H' y = H := by exact rfl) :
    Ex C V H L (Exit.then (fun a w => ∃ y,p y /\ Is C (V' y) (H' y) (L' y) a w) Q) .normal := Ex.cutx y hp hV hH hL
theorem ZL {c : Code} {X : Type} (V' : X -> Vw) (H' : X -> Hp) (L' : X -> Sl) (p : X -> Prop) (m : X -> Nat) (x0 : X) (h0 : p x0) (h : ∀ x,p x -> Tr C (V' x) (H' x) (L' x) c (Exit.then (fun a w => ∃ y,p y /\ m y < m x /\ Is C (V' y) (H' y) (L' y) a w) Q))
    (hL : subB L (L' x0) := by repeat (first | exact subB_nil _ | refine subB_cons (by first | rfl | exact congrArg (fun z => some (Value.int _ z)) (by omega)) ?_)) (hV : V' x0 = V := by exact rfl) (hH : H' x0 = H := by exact rfl) : Tr C V H L (.loop c) Q := Tr.loop V' H' L' p m x0 h0 (fun a w i => by rw [hV,hH]; exact ⟨i.1.sub hL,i.2⟩) h
end
abbrev pZ (b : Nat) : Value := .pointer (some ⟨b,0,none⟩)
abbrev cL (T b d : Nat) : Sg := [(b,.cells #[.pointer (some ⟨d,0,none⟩)] T (0,0))]
end Go.K
namespace Go.Proofs.YtfgblingojgafaaGreat
open Go Go.K
attribute [local irreducible] Code.wp wpList Calls wpQuiet
theorem bnd_c {x lo hi : Int} {V : Vw} : Does Tryz.prog 109 [.int .i64 x,.int .i64 lo,.int .i64 hi] V [] (Pv (.int .i64 (Ck.bnd x lo hi)) V []) := by
 refine Does.intro Tryz.func109 rfl rfl (le rfl) (fun B => ?_)
 refine Zs<|Zr<|Za Z<|Ze<|Zg<|Zs<|Zr<|Zm Z<|Zm Z<|Zv (Y.max2 Z Z)<|Zm Z<|Zv (Y.min2 Z Z)<|Za Z<|Ze<|Zg<|Zu<|?_
 exact Ex.ret1 rfl rfl  ⟨rfl,rfl,rfl⟩
theorem bnd_c_h {x lo hi : Int} {V : Vw} {H : Hp} : Does Tryz.prog 109 [.int .i64 x,.int .i64 lo,.int .i64 hi] V H (Pv (.int .i64 (Ck.bnd x lo hi)) V H) := bnd_c.frame
theorem rbnd_c {x lo hi : Int} (hlo : lo <= hi) {V : Vw} : Does Tryz.prog 181 [.int .i64 x,.int .i64 lo,.int .i64 hi] V [] (Pv (.int .i64 (Ck.bnd x lo hi)) V []) := by
 refine Does.intro Tryz.func181 rfl rfl (le rfl) (fun B => ?_)
 refine Zs<|Zr<|Za Z<|Ze<|Zg<|Zs<|Zs<|Zr<|Zm Z<|Zm Z<|Zv (Y.int Z Z Z)<|Ze<|Zg<|?_
 refine Zq (decide (x < lo)) (fun h1 g1 => ?_) fun h1 g1 => ?_
 ·refine Tr.cond_t Z h1<|Zs<|Zr<|Zm Z<|Za Z<|Ze<|Zg<|Zu<|Zn<|?_
  exact Ex.ret1 rfl rfl  ⟨congrArg (Value.int _) (by first | exact (Ck.bnd_low hlo W).symm | exact (Ck.bnd_high hlo W).symm | exact (Ck.bnd_in W W).symm),rfl,rfl⟩
 refine Tr.cond_f Z h1<|Zt<|Zg<|Zs<|Zs<|Zr<|Zm Z<|Zm Z<|Zv (Y.int Z Z Z)<|Ze<|Zg<|?_
 refine Zq (decide (x > hi)) (fun h2 g2 => ?_) fun h2 g2 => ?_
 ·refine Tr.cond_t Z h2<|Zs<|Zr<|Zm Z<|Za Z<|Ze<|Zg<|Zu<|Zn<|?_
  exact Ex.ret1 rfl rfl  ⟨congrArg (Value.int _) (by first | exact (Ck.bnd_low hlo W).symm | exact (Ck.bnd_high hlo W).symm | exact (Ck.bnd_in W W).symm),rfl,rfl⟩
 refine Tr.cond_f Z h2<|Zt<|Zg<|Zs<|Zr<|Zm Z<|Za Z<|Ze<|Zg<|Zu<|?_
 exact Ex.ret1 rfl rfl  ⟨congrArg (Value.int _) (by first | exact (Ck.bnd_low hlo W).symm | exact (Ck.bnd_high hlo W).symm | exact (Ck.bnd_in W W).symm),rfl,rfl⟩
theorem mo_c {n : Int} {V : Vw} : Does Tryz.prog 108 [.int .i64 n] V [] (Pv (.int .i64 (Ck.mo n)) V []) := by
 refine Does.intro Tryz.func108 rfl rfl (le rfl) (fun B => ?_)
 refine Zs<|Zr<|Za Z<|Ze<|Zg<|Zs<|Zr<|Zm Z<|Yc Z Z Z (bnd_c_h (x := n))<|Za Z<|Ze<|Zg<|Zu<|?_
 exact Ex.ret1 rfl rfl  ⟨rfl,rfl,rfl⟩
theorem mo_c_h {n : Int} {V : Vw} {H : Hp} : Does Tryz.prog 108 [.int .i64 n] V H (Pv (.int .i64 (Ck.mo n)) V H) := mo_c.frame
theorem add_c {t d : Int} {V : Vw} : Does Tryz.prog 48 [.int .i64 t,.int .i64 d] V [] (Pv (.int .i64 (Ck.add t d)) V []) := by
 have hmt := Ck.mo_bd t
 have hnt := Ck.bnd_bd t (lo := 0) (hi := 1099511627776) WD
 have hbd := Ck.bnd_bd d (lo := -1099511627776) (hi := 1099511627776) WD
 refine Does.intro Tryz.func48 rfl rfl (le rfl) (fun B => ?_)
 refine Zs<|Zr<|Za Z<|Ze<|Zg<|Zs<|Zr<|Zm Z<|Yc Z Z Z (mo_c_h (n := t))<|Zm Z<|Yc Z Z Z (bnd_c_h (x := d))<|Zv (Y.add Z Z W)<|Yc Z Z Z (mo_c_h (n := (Ck.mo t) + (Ck.bnd d (-1099511627776) 1099511627776)))<|Za Z<|Ze<|Zg<|?_
 refine Zu ?_
 exact Ex.ret1 rfl rfl  ⟨rfl,rfl,rfl⟩
theorem add_c_h {t d : Int} {V : Vw} {H : Hp} : Does Tryz.prog 48 [.int .i64 t,.int .i64 d] V H (Pv (.int .i64 (Ck.add t d)) V H) := add_c.frame
theorem left_c {now til : Int} {V : Vw} : Does Tryz.prog 147 [.int .i64 now,.int .i64 til] V [] (Pv (.int .i64 (Ck.left now til)) V []) := by
 have hmnow := Ck.mo_bd now
 have hmtil := Ck.mo_bd til
 have hnnow := Ck.bnd_bd now (lo := 0) (hi := 1099511627776) WD
 have hntil := Ck.bnd_bd til (lo := 0) (hi := 1099511627776) WD
 refine Does.intro Tryz.func147 rfl rfl (le rfl) (fun B => ?_)
 refine Zs<|Zr<|Za Z<|Ze<|Zg<|Zs<|Zr<|Zm Z<|Yc Z Z Z (mo_c_h (n := til))<|Zm Z<|Yc Z Z Z (mo_c_h (n := now))<|Zv (Y.sub Z Z W)<|Yc Z Z Z (mo_c_h (n := (Ck.mo til) - (Ck.mo now)))<|Za Z<|Ze<|Zg<|?_
 refine Zu ?_
 exact Ex.ret1 rfl rfl  ⟨rfl,rfl,rfl⟩
theorem left_c_h {now til : Int} {V : Vw} {H : Hp} : Does Tryz.prog 147 [.int .i64 now,.int .i64 til] V H (Pv (.int .i64 (Ck.left now til)) V H) := left_c.frame
theorem past_c {now til grd : Int} {V : Vw} : Does Tryz.prog 49 [.int .i64 now,.int .i64 til,.int .i64 grd] V [] (Pv (.bool (Ck.past now til grd)) V []) := by
 have hmnow := Ck.mo_bd now
 have hmtil := Ck.mo_bd til
 have hmgrd := Ck.mo_bd grd
 have hnnow := Ck.bnd_bd now (lo := 0) (hi := 1099511627776) WD
 have hntil := Ck.bnd_bd til (lo := 0) (hi := 1099511627776) WD
 have hngrd := Ck.bnd_bd grd (lo := 0) (hi := 1099511627776) WD
 refine Does.intro Tryz.func49 rfl rfl (le rfl) (fun B => ?_)
 refine Zs<|Zr<|Za Z<|Ze<|Zg<|Zs<|Zr<|Zm Z<|Yc Z Z Z (mo_c_h (n := now))<|Zm Z<|Yc Z Z Z (mo_c_h (n := til))<|Zm Z<|Yc Z Z Z (mo_c_h (n := grd))<|Zv (Y.add Z Z W)<|Zv (Y.int Z Z Z)<|Za Z<|?_
 refine Ze<|Zg<|Zu<|?_
 exact Ex.ret1 rfl rfl  ⟨rfl,rfl,rfl⟩
theorem past_c_h {now til grd : Int} {V : Vw} {H : Hp} : Does Tryz.prog 49 [.int .i64 now,.int .i64 til,.int .i64 grd] V H (Pv (.bool (Ck.past now til grd)) V H) := past_c.frame
theorem radd_c {t d : Int} {V : Vw} : Does Tryz.prog 165 [.int .i64 t,.int .i64 d] V [] (Pv (.int .i64 (Ck.add t d)) V []) := by
 have hmt := Ck.mo_bd t
 have hnt := Ck.bnd_bd t (lo := 0) (hi := 1099511627776) WD
 have hbd := Ck.bnd_bd d (lo := -1099511627776) (hi := 1099511627776) WD
 refine Does.intro Tryz.func165 rfl rfl (le rfl) (fun B => ?_)
 refine Zs<|Zr<|Za Z<|Ze<|Zg<|Zs<|Zr<|Zm Z<|Yc Z Z Z ((rbnd_c (x := t) WD).frame)<|Zm Z<|Yc Z Z Z ((rbnd_c (x := d) WD).frame)<|Zv (Y.add Z Z W)<|Yc Z Z Z ((rbnd_c (x := (Ck.mo t) + (Ck.bnd d (-1099511627776) 1099511627776)) WD).frame)<|Za Z<|Ze<|Zg<|?_
 refine Zu ?_
 exact Ex.ret1 rfl rfl  ⟨rfl,rfl,rfl⟩
theorem radd_c_h {t d : Int} {V : Vw} {H : Hp} : Does Tryz.prog 165 [.int .i64 t,.int .i64 d] V H (Pv (.int .i64 (Ck.add t d)) V H) := radd_c.frame
theorem rleft_c {now til : Int} {V : Vw} : Does Tryz.prog 161 [.int .i64 now,.int .i64 til] V [] (Pv (.int .i64 (Ck.left now til)) V []) := by
 have hmnow := Ck.mo_bd now
 have hmtil := Ck.mo_bd til
 have hnnow := Ck.bnd_bd now (lo := 0) (hi := 1099511627776) WD
 have hntil := Ck.bnd_bd til (lo := 0) (hi := 1099511627776) WD
 refine Does.intro Tryz.func161 rfl rfl (le rfl) (fun B => ?_)
 refine Zs<|Zr<|Za Z<|Ze<|Zg<|Zs<|Zr<|Zm Z<|Yc Z Z Z ((rbnd_c (x := til) WD).frame)<|Zm Z<|Yc Z Z Z ((rbnd_c (x := now) WD).frame)<|Zv (Y.sub Z Z W)<|Yc Z Z Z ((rbnd_c (x := (Ck.mo til) - (Ck.mo now)) WD).frame)<|Za Z<|Ze<|Zg<|?_
 refine Zu ?_
 exact Ex.ret1 rfl rfl  ⟨rfl,rfl,rfl⟩
theorem rleft_c_h {now til : Int} {V : Vw} {H : Hp} : Does Tryz.prog 161 [.int .i64 now,.int .i64 til] V H (Pv (.int .i64 (Ck.left now til)) V H) := rleft_c.frame
theorem rpast_c {now til grd : Int} {V : Vw} : Does Tryz.prog 166 [.int .i64 now,.int .i64 til,.int .i64 grd] V [] (Pv (.bool (Ck.past now til grd)) V []) := by
 have hmnow := Ck.mo_bd now
 have hmtil := Ck.mo_bd til
 have hmgrd := Ck.mo_bd grd
 have hnnow := Ck.bnd_bd now (lo := 0) (hi := 1099511627776) WD
 have hntil := Ck.bnd_bd til (lo := 0) (hi := 1099511627776) WD
 have hngrd := Ck.bnd_bd grd (lo := 0) (hi := 1099511627776) WD
 refine Does.intro Tryz.func166 rfl rfl (le rfl) (fun B => ?_)
 refine Zs<|Zr<|Za Z<|Ze<|Zg<|Zs<|Zr<|Zm Z<|Yc Z Z Z ((rbnd_c (x := now) WD).frame)<|Zm Z<|Yc Z Z Z ((rbnd_c (x := til) WD).frame)<|Zm Z<|Yc Z Z Z ((rbnd_c (x := grd) WD).frame)<|Zv (Y.add Z Z W)<|Zv (Y.int Z Z Z)<|Za Z<|?_
 refine Ze<|Zg<|Zu<|?_
 exact Ex.ret1 rfl rfl  ⟨rfl,rfl,rfl⟩
theorem rpast_c_h {now til grd : Int} {V : Vw} {H : Hp} : Does Tryz.prog 166 [.int .i64 now,.int .i64 til,.int .i64 grd] V H (Pv (.bool (Ck.past now til grd)) V H) := rpast_c.frame
end Go.Proofs.YtfgblingojgafaaGreat
namespace Go.Proofs.YtfgblingojgafaaGreat
open Go Go.K
attribute [local irreducible] Code.wp wpList Calls wpQuiet
open Go.Sort
theorem isnan_u0 {m : Int} {V : Vw} : Does Tryz.prog 155 [.int .u32 m] V [] (Pv (.bool false) V []) := by
 refine Does.intro Tryz.func155 rfl rfl (le rfl) (fun B => ?_)
 refine Zs<|Zr<|Za Z<|Ze<|Zg<|Zs<|Zr<|Zm Z<|Zm Z<|Zv (Y.int Z Z Z)<|Za Z<|Ze<|Zg<|Zu<|?_
 exact Ex.ret1 rfl rfl  ⟨by simp,rfl,rfl⟩
theorem isnan_u0_h {m : Int} {V : Vw} {H : Hp} : Does Tryz.prog 155 [.int .u32 m] V H (Pv (.bool false) V H) := isnan_u0.frame
end Go.Proofs.YtfgblingojgafaaGreat
namespace Go.K
open Go.ChangeShapes Go.WideShapes Go.ChangeAt Go.RowKit
section
variable {H : Type} {enc : TypeId × Value -> H} {P : Program} {w : World} {base : Nat} {spare : Nat -> Bool} {held : Bool}
end
end Go.K
namespace Go.K
section
variable {C : Cx} {V : Vw} {H : Hp} {L : Sl} {ty : TypeId}
end
end Go.K
namespace Go.K
theorem YDoes.perm {P : Program} {l : Nat} {args : List Value} {V : Vw} {H H' : Hp} {R : Value -> Vw -> Hp -> Prop} (h : YDoes P l args V H R) (p : H'.Perm H) : YDoes P l args V H' R := fun B hB => by
  obtain ⟨fn,tmps,asg,body,h1,h2⟩ := h B ((hB.perm p.symm).memS (keys_perm p))
  exact ⟨fn,tmps,asg,body,h1,h2.mono fun e w' ⟨v,V',H2,q1,q2,q3⟩ => ⟨v,V',H2,q1,q2,q3.memS (fun b => (keys_perm p b).symm)⟩⟩
section
variable {C : Cx} {V : Vw} {H : Hp} {L : Sl} {Q : Exit -> Act -> World -> Prop}
end
end Go.K
namespace Go.K
section
variable {C : Cx} {H : Hp} {L : Sl} {Q : Exit -> Act -> World -> Prop} {ops : Array Oper} {os : List Oper}
end
end Go.K
namespace Go.K
section
variable {C : Cx} {V : Vw} {H : Hp} {L : Sl} {Q : Exit -> Act -> World -> Prop} {c : Code}
theorem Tr.unroll (n : Nat) (h : Tr C V H L c (Exit.then (Code.rounds C.P c Q n) Q)) : Tr C V H L (.loop c) Q := fun a w i => wp_loop_rounds (n + 1) (h a w i)
theorem Ex.goU {n : Nat} (h : Tr C V H L c (Exit.then (Code.rounds C.P c Q n) Q)) : Ex C V H L (Exit.then (Code.rounds C.P c Q (n + 1)) Q) .normal := fun a w i => h a w i
end
end Go.K
namespace Go.K
section
variable {C : Cx} {V : Vw} {H : Hp} {L : Sl} {Q : Exit -> Act -> World -> Prop} {ops : Array Oper} {os : List Oper}
variable {ty : TypeId} {pos : String} {aft : Array Edge} {d : Nat}
end
end Go.K
namespace Go.K
theorem rep_cells (n : Nat) : rep (Value.int .u8 0).cells.toList n = (List.replicate n (0 : UInt8)).map byteV := by
  induction n with
  | zero => rfl
  | succ n ih => rw [List.replicate_succ,List.map_cons,<- ih]; rfl
theorem Ow.made {e b n : Nat} (h : n <= 9223372036854775807) (h2 : n <= maxLen) : Ow e 1 (.slice (some ⟨b,0,none⟩) n n) n ((List.replicate n (0 : UInt8)).map byteV) [(b,.cells (rep (Value.int .u8 0).cells.toList n).toArray e (0,0))] := by
  rw [rep_cells]
  have := Ow.lit (e := e) (k := 1) (b := b) (n := n) (cur := ((List.replicate n (0 : UInt8)).map byteV).toArray) (by simp) h2
  simpa using this
end Go.K
namespace Go.K
abbrev Bts := List UInt8
structure Dk where
  room : Int
  bs : Bts
  lasts : Nat
  inn : Int
namespace Dk
structure Ok (d : Dk) : Prop where
  r1 : 1 <= d.room
  r2 : d.room <= 1048576
  b : (d.bs.length : Int) <= d.room
  l : d.lasts <= d.bs.length
  i : -1 <= d.inn /\ d.inn <= 9223372036854775807
def new (room : Int) : Dk := ⟨room,[],0,-1⟩
def dec (d : Dk) : Dk := if d.inn > 0 then { d with inn := d.inn - 1 } else d
def change (d : Dk) (n : Int) (f : Dk -> Dk) : Dk × Int := if d.inn = 0 then (d,7) else if n > d.room then (dec d,3) else (f (dec d),0)
def app (d : Dk) (b : Bts) : Dk × Int := change d (((d.bs.length + b.length : Nat)) : Int) fun d => { d with bs := d.bs ++ b }
def swap (d : Dk) (b : Bts) : Dk × Int := change d ((b.length : Nat) : Int) fun d => { d with bs := b,lasts := b.length }
def kept (d : Dk) (k : Int) : Nat := d.lasts + (min (max k 0) (((d.bs.length - d.lasts : Nat)) : Int)).toNat
theorem kept_le {d : Dk} (h : d.lasts <= d.bs.length) (k : Int) : d.lasts <= kept d k /\ kept d k <= d.bs.length := by unfold kept; omega
theorem dec_room (d : Dk) : (dec d).room = d.room := by unfold dec; split <;> rfl
theorem dec_bs (d : Dk) : (dec d).bs = d.bs := by unfold dec; split <;> rfl
theorem Ok.dec {d : Dk} (h : d.Ok) : d.dec.Ok := by
  have := h.i
  unfold Dk.dec; split
  · exact ⟨h.r1,h.r2,h.b,h.l,by show -1 <= d.inn - 1; omega,by show d.inn - 1 <= _; omega⟩
  · exact h
theorem change_ok {d : Dk} {n : Int} {f : Dk -> Dk} (h : d.Ok) (hf : n <= d.room -> (f d.dec).Ok) : (change d n f).1.Ok := by
  unfold change; split
  · exact h
  · split
    · exact h.dec
    · exact hf (by omega)
theorem Ok.app {d : Dk} (h : d.Ok) (b : Bts) : (d.app b).1.Ok := change_ok h fun hn => by
  have k := h.dec
  exact ⟨k.r1,k.r2,by show ((((Dk.dec d).bs ++ b).length : Nat) : Int) <= _; rw [dec_bs,List.length_append,dec_room]; exact hn,by show (Dk.dec d).lasts <= ((Dk.dec d).bs ++ b).length; have := k.l; rw [List.length_append]; omega,k.i⟩
theorem Ok.swap {d : Dk} (h : d.Ok) (b : Bts) : (d.swap b).1.Ok := change_ok h fun hn => by
  have k := h.dec
  exact ⟨k.r1,k.r2,by show ((b.length : Nat) : Int) <= (Dk.dec d).room; rw [dec_room]; exact hn,Nat.le_refl _,k.i⟩
end Dk
namespace Fr
def put (b : Bts) : Bts := UInt8.ofNat (b.length / 256) :: UInt8.ofNat (b.length % 256) :: (b ++ [90])
def okR (b : Bts) : Prop := 1 <= b.length /\ b.length <= 1000
instance (b : Bts) : Decidable (okR b) := inferInstanceAs (Decidable (_ /\ _))
def hd (bs : Bts) (at_ : Nat) : Nat := (bs.getD at_ 0).toNat * 256 + (bs.getD (at_ + 1) 0).toNat
def one (bs : Bts) (at_ : Nat) : Option Nat := if at_ + 2 < bs.length /\ 1 <= hd bs at_ /\ hd bs at_ <= 1000 /\ at_ + 3 + hd bs at_ <= bs.length /\ bs.getD (at_ + 2 + hd bs at_) 0 = 90 then some (hd bs at_) else none
def rcd (bs : Bts) (at_ n : Nat) : Bts := (bs.drop (at_ + 2)).take n
def scanF (bs : Bts) : Nat -> Nat -> List Bts × Nat
  | 0,at_ => ([],at_)
  | k + 1,at_ => match one bs at_ with
    | none => ([],at_)
    | some n => (rcd bs at_ n :: (scanF bs k (at_ + 3 + n)).1,(scanF bs k (at_ + 3 + n)).2)
def scan (bs : Bts) : List Bts × Nat := scanF bs bs.length 0
inductive Sc (bs : Bts) : Nat -> List Bts -> Prop
  | nil : Sc bs 0 []
  | more {at_ n : Nat} {l : List Bts} : Sc bs at_ l -> one bs at_ = some n -> Sc bs (at_ + 3 + n) (l ++ [rcd bs at_ n])
def fl (l : List Bts) : Bts := l.flatMap put
theorem put_len (b : Bts) : (put b).length = b.length + 3 := by unfold put; simp
end Fr
end Go.K
namespace Go.K
end Go.K
namespace Go.K
open Msg (sl sl_length)
namespace Le
def tl (q : Le) : List Int := [q.till,q.acked,q.told,q.at_,q.ver]
def hdB (q : Le) : Bts := Msg.be 4 q.addr ++ Msg.be 1 q.bind
def encB (q : Le) : Bts := (hdB q ++ (tl q).flatMap (Msg.be 6)) ++ (UInt8.ofNat q.client.size :: q.client.toList)
def encE (q : Le) : Bts × Int := if right q = true then (encB q,0) else ([],1)
def dcd (b : Bts) : Le := ⟨val (sl b 0 4),((b.getD 4 0).toNat : Int),⟨(sl b 36 b.length).toArray⟩,val (sl b 5 11),val (sl b 11 17),val (sl b 17 23),val (sl b 23 29),val (sl b 29 35)⟩
def decE (b : Bts) : Le × Int := if b.length < 36 \/ (b.getD 35 0).toNat + 36 ≠ b.length \/ right (dcd b) = false then (dflt,2) else (dcd b,0)
theorem encB_len (q : Le) : (encB q).length = 36 + q.client.size := by
  unfold encB hdB tl
  simp [Msg.be_length,ByteArray.toList_eq]
  omega
theorem right_size {q : Le} (h : right q = true) : q.client.size <= 32 := by
  have := right_iff.1 h
  rcases this.2.2.2.2.2.2 with h | h
  · omega
  · omega
end Le
end Go.K
namespace Go.K
structure Sk where
  t : List Le
  state : Int
  life : Int
namespace Sk
structure Ok (s : Sk) : Prop where
  r : Le.Ris s.t
  n : s.t.length <= 256
  st : 0 <= s.state /\ s.state <= 8
  li : 0 <= s.life /\ s.life <= 536870912
def new (as_ : List Int) : Sk := ⟨Le.new as_,0,0⟩
def doK (s : Sk) (k : UInt8) (r : Bts) : Sk := if k = 76 then (if (Le.decE r).2 = 0 then { s with t := (Le.setE s.t (Le.decE r).1).2 } else s)
    else if k = 83 /\ r.length = 1 /\ (r.getD 0 0).toNat <= 8 then { s with state := ((r.getD 0 0).toNat : Int) }
    else if k = 70 /\ r.length = 4 /\ val r <= 536870912 then { s with life := val r } else s
def doR (s : Sk) : Bts -> Sk
  | [] => s
  | k :: r => doK s k r
def replay (s : Sk) (l : List Bts) : Sk := l.foldl doR s
def leR (q : Le) : Bts := 76 :: (Le.encE q).1
def note (d : Dk) (s : Sk) (r : Bts) : Dk × Sk × Int := ((d.app (Fr.put r)).1,if (d.app (Fr.put r)).2 = 0 then doR s r else s,(d.app (Fr.put r)).2)
def put (d : Dk) (s : Sk) (q : Le) : Dk × Sk × Int := if Le.right q = false then (d,s,1) else if (Le.getE s.t q.addr).2 ≠ 0 then (d,s,(Le.getE s.t q.addr).2) else note d s (leR q)
def plain (q : Le) : Bool := Le.same q (Le.bare q.addr 0 0)
theorem Ok.set {s : Sk} (h : s.Ok) (q : Le) : ({ s with t := (Le.setE s.t q).2 } : Sk).Ok := ⟨Le.setE_ris h.r q,by show (Le.setE s.t q).2.length <= 256; rw [Le.setE_len]; exact h.n,h.st,h.li⟩
theorem Ok.doR {s : Sk} (h : s.Ok) (b : Bts) : (doR s b).Ok := by
  cases b with
  | nil => exact h
  | cons k r =>
    show (doK s k r).Ok
    unfold doK
    split
    · split
      · exact h.set _
      · exact h
    · split
      · rename_i c; exact ⟨h.r,h.n,by show 0 <= (((r.getD 0 0).toNat : Nat) : Int) /\ (((r.getD 0 0).toNat : Nat) : Int) <= 8; omega,h.li⟩
      · split
        · rename_i c; exact ⟨h.r,h.n,h.st,(val_bounds r).1,c.2.2⟩
        · exact h
theorem Ok.replay {s : Sk} (h : s.Ok) : ∀ l : List Bts,(replay s l).Ok := fun l => by
  unfold Sk.replay
  induction l generalizing s with
  | nil => exact h
  | cons b l ih => exact ih (h.doR b)
theorem leR_len (q : Le) : 1 <= (leR q).length /\ (leR q).length <= 69 := by
  unfold leR Le.encE
  split
  · rename_i h; have := Le.right_size h; rw [List.length_cons,Le.encB_len]; omega
  · simp
theorem leR_ok (q : Le) : Fr.okR (leR q) := by have := leR_len q; unfold Fr.okR; omega
end Sk
end Go.K
namespace Go.K
theorem Rd.to {V : Vw} {H : Hp} {k n m : Nat} {v : Value} {xs : List Value} (h : Rd V H k v n xs) (e : n = m) : Rd V H k v m xs := e ▸ h
structure Rc where
  p : Option Addr
  n : Nat
  c : Nat
  b : Bts
namespace Rc
def v (x : Rc) : Value := .slice x.p x.n x.c
def cell (x : Rc) : List Value := [.slice x.p x.n x.c]
def dflt : Rc := ⟨none,0,0,[]⟩
theorem len (x : Rc) : x.cell.length = 1 := rfl
theorem enc : Enc cell 1 := ⟨fun _ => rfl,fun _ => rfl⟩
def Rs (V : Vw) (xs : List Rc) : Prop := ∀ x,x ∈ xs -> Rd V [] 1 (.slice x.p x.n x.c) x.n (x.b.map byteV)
theorem Rs.le {V V2 : Vw} {xs : List Rc} (h : Rs V xs) (k : V.le V2) : Rs V2 xs := fun x hx => (h x hx).le k
theorem Rs.nil (V : Vw) : Rs V [] := fun x h => absurd h List.not_mem_nil
theorem Rs.snoc {V : Vw} {xs : List Rc} {x : Rc} (h : Rs V xs) (k : Rd V [] 1 (.slice x.p x.n x.c) x.n (x.b.map byteV)) : Rs V (xs ++ [x]) := fun y hy => by
  rcases List.mem_append.1 hy with hy | hy
  · exact h y hy
  · obtain rfl := List.mem_singleton.1 hy; exact k
theorem Rs.at {V : Vw} {xs : List Rc} (h : Rs V xs) {i : Nat} (hi : i < xs.length) : Rd V [] 1 (.slice (xs.getD i dflt).p (xs.getD i dflt).n (xs.getD i dflt).c) (xs.getD i dflt).n ((xs.getD i dflt).b.map byteV) :=
  h _ (by rw [List.getD_eq_getElem?_getD,List.getElem?_eq_getElem hi]; exact List.getElem_mem hi)
end Rc
structure Fx where
  nx : Nat
  rc : Rc
  sg : Sg
namespace Fx
def enc (x : Fx) : List Value := [.int .i64 (x.nx : Int),.slice x.rc.p x.rc.n x.rc.c]
def Own (e : Nat) (x : Fx) : Prop := Ow e 1 (.slice x.rc.p x.rc.n x.rc.c) x.rc.n (x.rc.b.map byteV) x.sg
def last (xs : List Fx) : Nat := (xs.getLast?.map (·.nx)).getD 0
def rcs (xs : List Fx) : List Rc := xs.map (·.rc)
theorem rs_of {V2 : Vw} {xs : List Fx} {e : Nat} (h : ∀ x,x ∈ xs -> Own e x) (hsh : ∀ x,x ∈ xs -> ∀ b o,x.sg.lookup b = some o -> V2 b = some o) : Rc.Rs V2 (rcs xs) := fun r hr => by
  obtain ⟨x,hx,rfl⟩ := List.mem_map.1 hr
  exact (h x hx).show (hsh x hx)
end Fx
namespace Fr
end Fr
section
variable {C : Cx} {V : Vw} {H : Hp} {L : Sl} {Q : Exit -> Act -> World -> Prop} {ops : Array Oper} {os : List Oper} {ty : TypeId} {pos : String} {aft : Array Edge} {d : Nat}
end
end Go.K
namespace Go.K
open Msg (sl sl_length)
theorem val_small4 {l : Bts} (h : l.length <= 4) : 0 <= val l /\ val l <= 4294967295 := by
  obtain ⟨h1,h2⟩ := val_bounds l
  have h3 : (256 : Int) ^ l.length <= 256 ^ 4 := pow_le256 h
  have h4 : (256 : Int) ^ 4 = 4294967296 := rfl
  omega
theorem sl_len (b : Bts) {i j : Nat} (h : j <= b.length) : (sl b i j).length = j - i := sl_length b i j h
namespace Le
theorem dcd_ok {b : Bts} (h : 36 <= b.length) (hb : b.length <= 9223372036854775807) : (dcd b).Ok := by
  have s6 : ∀ i,i + 6 <= b.length -> 0 <= val (sl b i (i + 6)) /\ val (sl b i (i + 6)) <= 281474976710655 := fun i hi => val_small (by rw [sl_len b hi]; omega)
  have s4 := val_small4 (l := sl b 0 4) (by rw [sl_len b (by omega)]; omega)
  have hu := u8_lt (b.getD 4 0)
  have h5 := s6 5 (by omega); have h11 := s6 11 (by omega); have h17 := s6 17 (by omega); have h23 := s6 23 (by omega); have h29 := s6 29 (by omega)
  simp only [Nat.reduceAdd] at h5 h11 h17 h23 h29
  have hc : (dcd b).client.size = b.length - 36 := by unfold dcd; simp [ByteArray.size,sl_length b 36 b.length (Nat.le_refl _)]
  refine ⟨s4,?_,by rw [hc]; omega,?_,?_,?_,?_,?_⟩ <;> (unfold dcd; dsimp only; omega)
end Le
end Go.K
namespace Go.K
end Go.K
namespace Go.K
namespace Sk
variable {s : Sk} {bs r : Bts} {k : UInt8}
end Sk
end Go.K
namespace Go.K
end Go.K
namespace Go.K
theorem Le.dflt_ok : Le.dflt.Ok := by
  refine ⟨?_,?_,?_,?_,?_,?_,?_,?_⟩ <;> decide
theorem Le.decE_oks {r : Bts} (hr : r.length <= 9223372036854775807) : (Le.decE r).1.Ok := by
  unfold Le.decE
  split
  · exact Le.dflt_ok
  · rename_i h; exact Le.dcd_ok (by omega) hr
namespace Sk
def Os (s : Sk) : Prop := ∀ x,x ∈ s.t -> x.Ok
theorem Os.set {s : Sk} (h : s.Os) {q : Le} (hq : q.Ok) : ∀ x,x ∈ (Le.setE s.t q).2 -> x.Ok := fun x hx => by
  unfold Le.setE at hx
  split at hx
  · exact h x hx
  · split at hx
    · exact h x hx
    · obtain ⟨y,hy,e⟩ := List.mem_map.1 (show x ∈ Le.put s.t q from hx)
      split at e
      · rw [<- e]; exact hq
      · rw [<- e]; exact h y hy
theorem Os.doR {s : Sk} (h : s.Os) {b : Bts} (hb : b.length <= 1000000) : (doR s b).Os := by
  cases b with
  | nil => exact h
  | cons k r =>
    have hr : r.length <= 9223372036854775807 := by rw [List.length_cons] at hb; omega
    show (doK s k r).Os
    unfold doK
    split
    · split
      · exact h.set (Le.decE_oks hr)
      · exact h
    · split
      · exact h
      · split
        · exact h
        · exact h
theorem Os.at {s : Sk} (h : s.Os) {i : Nat} (hi : i < s.t.length) : (s.t.getD i Le.dflt).Ok := h _ (Le.mem_getD hi)
theorem Os.new {as_ : List Int} (h : ∀ a,a ∈ as_ -> 0 <= a /\ a <= 4294967295) : (new as_).Os := fun x hx => by
  obtain ⟨a,ha,rfl⟩ := List.mem_map.1 (show x ∈ Le.new as_ from hx)
  exact ⟨h a ha,⟨by show (-9223372036854775808 : Int) <= 0; decide,by show (0 : Int) <= _; decide⟩,by show 0 <= _; exact Nat.zero_le _,⟨by show (-9223372036854775808 : Int) <= 0; decide,by show (0 : Int) <= _; decide⟩,⟨by show (-9223372036854775808 : Int) <= 0; decide,by show (0 : Int) <= _; decide⟩,⟨by show (-9223372036854775808 : Int) <= 0; decide,by show (0 : Int) <= _; decide⟩,⟨by show (-9223372036854775808 : Int) <= 0; decide,by show (0 : Int) <= _; decide⟩,⟨by show (-9223372036854775808 : Int) <= 0; decide,by show (0 : Int) <= _; decide⟩⟩
theorem Os.replay {s : Sk} (h : s.Os) {l : List Bts} (hl : ∀ b,b ∈ l -> b.length <= 1000000) : (replay s l).Os := by
  unfold Sk.replay
  induction l generalizing s with
  | nil => exact h
  | cons b l ih => exact ih (h.doR (hl b (List.mem_cons_self ..))) fun z hz => hl z (List.mem_cons_of_mem _ hz)
theorem Os.note {d : Dk} {s : Sk} (h : s.Os) {r : Bts} (hr : Fr.okR r) : (note d s r).2.1.Os := by
  unfold Sk.note; dsimp only
  split
  · exact h.doR (by have := hr.2; omega)
  · exact h
theorem Os.put {d : Dk} {s : Sk} (h : s.Os) (q : Le) : (put d s q).2.1.Os := by
  unfold Sk.put
  split
  · exact h
  · split
    · exact h
    · exact h.note (leR_ok q)
end Sk
end Go.K
namespace Go.K
namespace Sk
def opened (rs : List Rg) (bs : Bts) : Sk := replay (new (Rg.adr (Rg.pool rs).1)) (Fr.scan bs).1
end Sk
end Go.K
namespace Go.K
end Go.K
namespace Go.K
end Go.K
namespace Go.Proofs.YtfgblingojgafaaGreat
open Go Go.K
attribute [local irreducible] Code.wp wpList Calls wpQuiet
theorem within_c {V : Vw} {n low high : Int}  : Does Tryz.prog 38 [.int .i64 n,.int .i64 low,.int .i64 high] V [] (Pv (.bool (decide (low <= n /\ n <= high))) V []) := by
 refine Does.intro Tryz.func38 rfl rfl (le rfl) (fun B => ?_)
 refine Zs<|Zr<|Za Z<|Ze<|Zg<|Zs<|Zr<|Zm Z<|Zm Z<|Zv (Y.int Z Z Z)<|Zm Z<|?_
 refine Zq (decide (n >= low)) (fun h1 g1 => ?_) fun h1 g1 => ?_
 ·refine Zp h1<|Zm Z<|Zp h1<|Zm Z<|Zp h1<|Zv (Y.int Z Z Z)<|Zv (Y.pick_t Z h1 Z)<|Za Z<|Ze<|Zg<|Zu<|Ex.keep []<|?_
  exact Ex.ret1 rfl rfl  ⟨congrArg Value.bool (decide_eq_decide.2 W),rfl,rfl⟩
 refine Zo h1 Z<|Zo h1 Z<|Zo h1 Z<|Zv (Y.pick_f Z h1 Z)<|Za Z<|Ze<|Zg<|Zu<|Ex.keep []<|?_
 exact Ex.ret1 rfl rfl  ⟨congrArg Value.bool (decide_eq_false W).symm,rfl,rfl⟩
theorem rwithin_c {V : Vw} {n low high : Int}  : Does Tryz.prog 57 [.int .i64 n,.int .i64 low,.int .i64 high] V [] (Pv (.bool (decide (low <= n /\ n <= high))) V []) := by
 refine Does.intro Tryz.func57 rfl rfl (le rfl) (fun B => ?_)
 refine Zs<|Zr<|Za Z<|Ze<|Zg<|Zs<|Zr<|Zm Z<|Zm Z<|Zv (Y.int Z Z Z)<|Zm Z<|?_
 refine Zq (decide (n >= low)) (fun h1 g1 => ?_) fun h1 g1 => ?_
 ·refine Zp h1<|Zm Z<|Zp h1<|Zm Z<|Zp h1<|Zv (Y.int Z Z Z)<|Zv (Y.pick_t Z h1 Z)<|Za Z<|Ze<|Zg<|Zu<|Ex.keep []<|?_
  exact Ex.ret1 rfl rfl  ⟨congrArg Value.bool (decide_eq_decide.2 W),rfl,rfl⟩
 refine Zo h1 Z<|Zo h1 Z<|Zo h1 Z<|Zv (Y.pick_f Z h1 Z)<|Za Z<|Ze<|Zg<|Zu<|Ex.keep []<|?_
 exact Ex.ret1 rfl rfl  ⟨congrArg Value.bool (decide_eq_false W).symm,rfl,rfl⟩
end Go.Proofs.YtfgblingojgafaaGreat
namespace Go.K
theorem Opn.one_flat {V : Vw} {L : List Opn} (h : Opn.Rds V L) : (L.flatMap Opn.cells).all one = true := by
  induction L with
  | nil => rfl
  | cons o L ih =>
    obtain ⟨p,c,e,_⟩ := (h o (List.mem_cons_self ..)).form
    rw [List.flatMap_cons,List.all_append,ih fun x hx => h x (List.mem_cons_of_mem _ hx)]
    simp only [Opn.cells,e]; rfl
theorem Opn.Rds.add {V : Vw} {L M : List Opn} (h : Opn.Rds V L) (k : Opn.Rds V M) : Opn.Rds V (L ++ M) := fun x hx => (List.mem_append.1 hx).elim (h x) (k x)
theorem Opn.be4 {V : Vw} {v : Value} {n : Int} (h : Rd V [] 1 v 4 ((Msg.be 4 n).map byteV)) : Rd V [] 1 v (Msg.be 4 n).length ((Msg.be 4 n).map byteV) := by rw [Msg.be_length]; exact h
namespace Eg
theorem pick_1 {q : Qy} {y : Le} (h : fst q.th q.l = (y,true)) : q.pick = (y,true) := by unfold Qy.pick; rw [h]; rfl
theorem pick_2 {q : Qy} (h : fst q.th q.l = (Le.dflt,false)) (k : ((Le.getE q.l q.addr).2 == 0) = true) (m : q.may (Le.getE q.l q.addr).1 = true) : q.pick = ((Le.getE q.l q.addr).1,true) := by
  have e : of q.may q.l q.addr = ((Le.getE q.l q.addr).1,true) := by unfold of; rw [k,m]; rfl
  unfold Qy.pick; rw [h,e]; rfl
theorem pick_3 {q : Qy} {r : Le × Bool} (h : fst q.th q.l = (Le.dflt,false)) (k : ((Le.getE q.l q.addr).2 == 0) = false \/ q.may (Le.getE q.l q.addr).1 = false) (m : fst q.may q.l = r) : q.pick = r := by
  have e : (of q.may q.l q.addr).2 = false := by
    unfold of
    rcases k with k | k
    · rw [k]; rfl
    · rw [k,Bool.and_false]
  unfold Qy.pick; rw [h,e]; exact m
theorem pick_la {q : Qy} (h : q.pick.2 = true) (k : ∀ y,y ∈ q.l -> 0 <= y.addr /\ y.addr <= 4294967295) : 0 <= q.pick.1.addr /\ q.pick.1.addr <= 4294967295 := by
  unfold Qy.pick at h ⊢
  by_cases h1 : (fst q.th q.l).2 = true
  · rw [if_pos h1] at h ⊢; exact fst_la h1 k
  · rw [if_neg h1] at h ⊢
    by_cases h2 : (of q.may q.l q.addr).2 = true
    · rw [if_pos h2] at h ⊢; exact of_la h2 k
    · rw [if_neg h2] at h ⊢; exact fst_la h k
theorem case_os {x : Si} {l : List Le} {c : Cs} {A : An} (h : Case x l c A) : A.reply.os.length <= 1000000 := by
  cases h with
  | none => exact Nat.zero_le _
  | note => exact Nat.zero_le _
  | rep => exact (by decide : 2 <= 1000000)
  | offer => exact (by decide : 5 <= 1000000)
  | ack => exact (by decide : 5 <= 1000000)
end Eg
end Go.K
namespace Go.Proofs.YtfgblingojgafaaGreat
open Go Go.K
theorem xag142 : aggsz Tryz.prog 142 = some 2 := by kernel_rfl
theorem xag162 : aggsz Tryz.prog 162 = some 3 := by kernel_rfl
theorem xag174 : aggsz Tryz.prog 174 = some 5 := by kernel_rfl
theorem xag177 : aggsz Tryz.prog 177 = some 32 := by kernel_rfl
theorem xag178 : aggsz Tryz.prog 178 = some 32 := by kernel_rfl
theorem xag205 : aggsz Tryz.prog 205 = some 256 := by kernel_rfl
theorem xag28 : aggsz Tryz.prog 28 = some 10 := by kernel_rfl
theorem xag30 : aggsz Tryz.prog 30 = some 13 := by kernel_rfl
theorem xag35 : aggsz Tryz.prog 35 = some 13 := by kernel_rfl
theorem xag43 : aggsz Tryz.prog 43 = some 8 := by kernel_rfl
theorem xag45 : aggsz Tryz.prog 45 = some 21 := by kernel_rfl
theorem xag58 : aggsz Tryz.prog 58 = some 3 := by kernel_rfl
theorem xag66 : aggsz Tryz.prog 66 = some 2 := by kernel_rfl
theorem xag81 : aggsz Tryz.prog 81 = some 2 := by kernel_rfl
theorem xal142 : arrT Tryz.prog 142 = some (2,1) := by kernel_rfl
theorem xal177 : arrT Tryz.prog 177 = some (32,1) := by kernel_rfl
theorem xal178 : arrT Tryz.prog 178 = some (32,1) := by kernel_rfl
theorem xal205 : arrT Tryz.prog 205 = some (256,1) := by kernel_rfl
theorem xas174 : arrS Tryz.prog 174 = some 5 := by kernel_rfl
theorem xea142 : elemA Tryz.prog 142 = some 1 := by kernel_rfl
theorem xea174 : elemA Tryz.prog 174 = some 1 := by kernel_rfl
theorem xes135 : elemS Tryz.prog 135 = some (134,1) := by kernel_rfl
theorem xes148 : elemS Tryz.prog 148 = some (3,1) := by kernel_rfl
theorem xes185 : elemS Tryz.prog 185 = some (142,2) := by kernel_rfl
theorem xes22 : elemS Tryz.prog 22 = some (43,8) := by kernel_rfl
theorem xes25 : elemS Tryz.prog 25 = some (5,1) := by kernel_rfl
theorem xes26 : elemS Tryz.prog 26 = some (81,2) := by kernel_rfl
theorem xes33 : elemS Tryz.prog 33 = some (66,2) := by kernel_rfl
theorem xfo128_0 : fieldOff Tryz.prog 128 0 = some 0 := by kernel_rfl
theorem xfo162_0 : fieldOff Tryz.prog 162 0 = some 0 := by kernel_rfl
theorem xfo162_1 : fieldOff Tryz.prog 162 1 = some 1 := by kernel_rfl
theorem xfo162_2 : fieldOff Tryz.prog 162 2 = some 2 := by kernel_rfl
theorem xfo28_0 : fieldOff Tryz.prog 28 0 = some 0 := by kernel_rfl
theorem xfo28_1 : fieldOff Tryz.prog 28 1 = some 1 := by kernel_rfl
theorem xfo28_2 : fieldOff Tryz.prog 28 2 = some 2 := by kernel_rfl
theorem xfo28_3 : fieldOff Tryz.prog 28 3 = some 3 := by kernel_rfl
theorem xfo28_4 : fieldOff Tryz.prog 28 4 = some 4 := by kernel_rfl
theorem xfo28_5 : fieldOff Tryz.prog 28 5 = some 5 := by kernel_rfl
theorem xfo28_6 : fieldOff Tryz.prog 28 6 = some 6 := by kernel_rfl
theorem xfo28_7 : fieldOff Tryz.prog 28 7 = some 7 := by kernel_rfl
theorem xfo28_8 : fieldOff Tryz.prog 28 8 = some 8 := by kernel_rfl
theorem xfo28_9 : fieldOff Tryz.prog 28 9 = some 9 := by kernel_rfl
theorem xfo30_0 : fieldOff Tryz.prog 30 0 = some 0 := by kernel_rfl
theorem xfo30_1 : fieldOff Tryz.prog 30 1 = some 1 := by kernel_rfl
theorem xfo30_2 : fieldOff Tryz.prog 30 2 = some 2 := by kernel_rfl
theorem xfo30_3 : fieldOff Tryz.prog 30 3 = some 3 := by kernel_rfl
theorem xfo35_0 : fieldOff Tryz.prog 35 0 = some 0 := by kernel_rfl
theorem xfo35_1 : fieldOff Tryz.prog 35 1 = some 1 := by kernel_rfl
theorem xfo35_10 : fieldOff Tryz.prog 35 10 = some 10 := by kernel_rfl
theorem xfo35_11 : fieldOff Tryz.prog 35 11 = some 11 := by kernel_rfl
theorem xfo35_12 : fieldOff Tryz.prog 35 12 = some 12 := by kernel_rfl
theorem xfo35_2 : fieldOff Tryz.prog 35 2 = some 2 := by kernel_rfl
theorem xfo35_3 : fieldOff Tryz.prog 35 3 = some 3 := by kernel_rfl
theorem xfo35_4 : fieldOff Tryz.prog 35 4 = some 4 := by kernel_rfl
theorem xfo35_5 : fieldOff Tryz.prog 35 5 = some 5 := by kernel_rfl
theorem xfo35_6 : fieldOff Tryz.prog 35 6 = some 6 := by kernel_rfl
theorem xfo35_9 : fieldOff Tryz.prog 35 9 = some 9 := by kernel_rfl
theorem xfo43_0 : fieldOff Tryz.prog 43 0 = some 0 := by kernel_rfl
theorem xfo43_1 : fieldOff Tryz.prog 43 1 = some 1 := by kernel_rfl
theorem xfo43_2 : fieldOff Tryz.prog 43 2 = some 2 := by kernel_rfl
theorem xfo43_3 : fieldOff Tryz.prog 43 3 = some 3 := by kernel_rfl
theorem xfo43_4 : fieldOff Tryz.prog 43 4 = some 4 := by kernel_rfl
theorem xfo43_5 : fieldOff Tryz.prog 43 5 = some 5 := by kernel_rfl
theorem xfo43_6 : fieldOff Tryz.prog 43 6 = some 6 := by kernel_rfl
theorem xfo43_7 : fieldOff Tryz.prog 43 7 = some 7 := by kernel_rfl
theorem xfo45_0 : fieldOff Tryz.prog 45 0 = some 0 := by kernel_rfl
theorem xfo45_1 : fieldOff Tryz.prog 45 1 = some 1 := by kernel_rfl
theorem xfo45_2 : fieldOff Tryz.prog 45 2 = some 11 := by kernel_rfl
theorem xfo45_3 : fieldOff Tryz.prog 45 3 = some 12 := by kernel_rfl
theorem xfo45_4 : fieldOff Tryz.prog 45 4 = some 20 := by kernel_rfl
theorem xfo58_0 : fieldOff Tryz.prog 58 0 = some 0 := by kernel_rfl
theorem xfo58_1 : fieldOff Tryz.prog 58 1 = some 1 := by kernel_rfl
theorem xfo58_2 : fieldOff Tryz.prog 58 2 = some 2 := by kernel_rfl
theorem xfo66_0 : fieldOff Tryz.prog 66 0 = some 0 := by kernel_rfl
theorem xfo66_1 : fieldOff Tryz.prog 66 1 = some 1 := by kernel_rfl
theorem xfo81_0 : fieldOff Tryz.prog 81 0 = some 0 := by kernel_rfl
theorem xfo81_1 : fieldOff Tryz.prog 81 1 = some 1 := by kernel_rfl
theorem xfo90_0 : fieldOff Tryz.prog 90 0 = some 0 := by kernel_rfl
theorem xfo90_1 : fieldOff Tryz.prog 90 1 = some 13 := by kernel_rfl
theorem xfo90_2 : fieldOff Tryz.prog 90 2 = some 16 := by kernel_rfl
theorem xfo90_3 : fieldOff Tryz.prog 90 3 = some 17 := by kernel_rfl
theorem xfo90_4 : fieldOff Tryz.prog 90 4 = some 18 := by kernel_rfl
theorem xfo90_5 : fieldOff Tryz.prog 90 5 = some 19 := by kernel_rfl
theorem xfo90_6 : fieldOff Tryz.prog 90 6 = some 20 := by kernel_rfl
theorem xfo90_7 : fieldOff Tryz.prog 90 7 = some 30 := by kernel_rfl
theorem xfo90_8 : fieldOff Tryz.prog 90 8 = some 31 := by kernel_rfl
theorem xfo90_9 : fieldOff Tryz.prog 90 9 = some 32 := by kernel_rfl
theorem xfo99_0 : fieldOff Tryz.prog 99 0 = some 0 := by kernel_rfl
theorem xfs35_11 : fieldS Tryz.prog 35 11 = some 11 := by kernel_rfl
theorem xft3_32 : fltT Tryz.prog 3 32 = some .f64 := by kernel_rfl
theorem xit195_3 : intT Tryz.prog 195 3 = some .i64 := by kernel_rfl
theorem xit218_5 : intT Tryz.prog 218 5 = some .u8 := by kernel_rfl
theorem xit24_3 : intT Tryz.prog 24 3 = some .i64 := by kernel_rfl
theorem xit32_3 : intT Tryz.prog 32 3 = some .i64 := by kernel_rfl
theorem xit3_195 : intT Tryz.prog 3 195 = some .u64 := by kernel_rfl
theorem xit3_222 : intT Tryz.prog 3 222 = some .u64 := by kernel_rfl
theorem xit3_24 : intT Tryz.prog 3 24 = some .u32 := by kernel_rfl
theorem xit3_5 : intT Tryz.prog 3 5 = some .u8 := by kernel_rfl
theorem xit5_3 : intT Tryz.prog 5 3 = some .i64 := by kernel_rfl
theorem xmo : Tryz.prog.follows .mixedOrders = true := by kernel_rfl
theorem xmt97 : mapT Tryz.prog 97 = some (.u32,24,43) := by kernel_rfl
theorem xpl128 : placesS Tryz.prog 128 = some [(0,1)] := by kernel_rfl
theorem xpl162 : placesS Tryz.prog 162 = some [(0,1),(1,1),(2,1)] := by kernel_rfl
theorem xpl28 : placesS Tryz.prog 28 = some [(0,1),(1,1),(2,1),(3,1),(4,1),(5,1),(6,1),(7,1),(8,1),(9,1)] := by kernel_rfl
theorem xpl35 : placesS Tryz.prog 35 = some [(0,1),(1,1),(2,1),(3,1),(4,1),(5,1),(6,1),(7,1),(8,1),(9,1),(10,1),(11,1),(12,1)] := by kernel_rfl
theorem xpl43 : placesS Tryz.prog 43 = some [(0,1),(1,1),(2,1),(3,1),(4,1),(5,1),(6,1),(7,1)] := by kernel_rfl
theorem xpl45 : placesS Tryz.prog 45 = some [(0,1),(1,10),(11,1),(12,8),(20,1)] := by kernel_rfl
theorem xpl58 : placesS Tryz.prog 58 = some [(0,1),(1,1),(2,1)] := by kernel_rfl
theorem xpl66 : placesS Tryz.prog 66 = some [(0,1),(1,1)] := by kernel_rfl
theorem xpl81 : placesS Tryz.prog 81 = some [(0,1),(1,1)] := by kernel_rfl
theorem xpl90 : placesS Tryz.prog 90 = some [(0,13),(13,3),(16,1),(17,1),(18,1),(19,1),(20,10),(30,1),(31,1),(32,1)] := by kernel_rfl
theorem xpl99 : placesS Tryz.prog 99 = some [(0,1)] := by kernel_rfl
theorem xpt38 : ptrT Tryz.prog 38 = true := by kernel_rfl
theorem xpt39 : ptrT Tryz.prog 39 = true := by kernel_rfl
theorem xsl25 : sliceT Tryz.prog 25 = true := by kernel_rfl
theorem xst9 : strT Tryz.prog 9 = true := by kernel_rfl
theorem xsz142 : sizeT Tryz.prog 142 = some 2 := by kernel_rfl
theorem xsz162 : sizeT Tryz.prog 162 = some 3 := by kernel_rfl
theorem xsz174 : sizeT Tryz.prog 174 = some 5 := by kernel_rfl
theorem xsz177 : sizeT Tryz.prog 177 = some 32 := by kernel_rfl
theorem xsz178 : sizeT Tryz.prog 178 = some 32 := by kernel_rfl
theorem xsz22 : sizeT Tryz.prog 22 = some 1 := by kernel_rfl
theorem xsz222 : sizeT Tryz.prog 222 = some 1 := by kernel_rfl
theorem xsz24 : sizeT Tryz.prog 24 = some 1 := by kernel_rfl
theorem xsz26 : sizeT Tryz.prog 26 = some 1 := by kernel_rfl
theorem xsz28 : sizeT Tryz.prog 28 = some 10 := by kernel_rfl
theorem xsz3 : sizeT Tryz.prog 3 = some 1 := by kernel_rfl
theorem xsz33 : sizeT Tryz.prog 33 = some 1 := by kernel_rfl
theorem xsz35 : sizeT Tryz.prog 35 = some 13 := by kernel_rfl
theorem xsz4 : sizeT Tryz.prog 4 = some 1 := by kernel_rfl
theorem xsz43 : sizeT Tryz.prog 43 = some 8 := by kernel_rfl
theorem xsz45 : sizeT Tryz.prog 45 = some 21 := by kernel_rfl
theorem xsz5 : sizeT Tryz.prog 5 = some 1 := by kernel_rfl
theorem xsz50 : sizeT Tryz.prog 50 = some 1 := by kernel_rfl
theorem xsz66 : sizeT Tryz.prog 66 = some 2 := by kernel_rfl
theorem xsz81 : sizeT Tryz.prog 81 = some 2 := by kernel_rfl
theorem xtg4 : tagOf Tryz.prog 4 = some (1,.i64) := by kernel_rfl
theorem xtg5 : tagOf Tryz.prog 5 = some (0,.u8) := by kernel_rfl
theorem xtgs43 : tags Tryz.prog 43 = some [(0,.u32),(0,.i64),(2,.i64),(0,.i64),(0,.i64),(0,.i64),(0,.i64),(0,.i64)] := by kernel_rfl
theorem xts102 : scal Tryz.prog 102 = true := by kernel_rfl
theorem xts134 : scal Tryz.prog 134 = true := by kernel_rfl
theorem xts22 : scal Tryz.prog 22 = true := by kernel_rfl
theorem xts222 : scal Tryz.prog 222 = true := by kernel_rfl
theorem xts23 : scal Tryz.prog 23 = true := by kernel_rfl
theorem xts24 : scal Tryz.prog 24 = true := by kernel_rfl
theorem xts25 : scal Tryz.prog 25 = true := by kernel_rfl
theorem xts26 : scal Tryz.prog 26 = true := by kernel_rfl
theorem xts3 : scal Tryz.prog 3 = true := by kernel_rfl
theorem xts32 : scal Tryz.prog 32 = true := by kernel_rfl
theorem xts33 : scal Tryz.prog 33 = true := by kernel_rfl
theorem xts38 : scal Tryz.prog 38 = true := by kernel_rfl
theorem xts4 : scal Tryz.prog 4 = true := by kernel_rfl
theorem xts5 : scal Tryz.prog 5 = true := by kernel_rfl
theorem xts50 : scal Tryz.prog 50 = true := by kernel_rfl
theorem xts88 : scal Tryz.prog 88 = true := by kernel_rfl
theorem xts9 : scal Tryz.prog 9 = true := by kernel_rfl
theorem xts94 : scal Tryz.prog 94 = true := by kernel_rfl
theorem xts97 : scal Tryz.prog 97 = true := by kernel_rfl
theorem xzi205 : zeroOf Tryz.prog 205 = some (.agg (Bk.ins fun _ => false).toArray) := by kernel_rfl
theorem xzi43 : zeroInfo Tryz.prog 43 = some (8,72,.agg #[.int .u32 0,.int .i64 0,.string ⟨#[]⟩,.int .i64 0,.int .i64 0,.int .i64 0,.int .i64 0,.int .i64 0]) := by kernel_rfl
theorem xzi5 : zeroInfo Tryz.prog 5 = some (1,1,.int .u8 0) := by kernel_rfl
theorem xzi66 : zeroInfo Tryz.prog 66 = some (2,8,.agg #[.int .u32 0,.int .u32 0]) := by kernel_rfl
theorem xzi81 : zeroInfo Tryz.prog 81 = some (2,32,.agg #[.int .i64 0,.slice none 0 0]) := by kernel_rfl
theorem xzm177 : zeroOf Tryz.prog 177 = some (.agg (Bk.mks fun _ => false).toArray) := by kernel_rfl
theorem xzm178 : zeroOf Tryz.prog 178 = some (.agg (Bk.mks fun _ => false).toArray) := by kernel_rfl
theorem xzo128 : zeroOf Tryz.prog 128 = some (.agg #[.slice none 0 0]) := by kernel_rfl
theorem xzo134 : zeroOf Tryz.prog 134 = some (.nilFunc) := by kernel_rfl
theorem xzo142 : zeroOf Tryz.prog 142 = some (.agg #[.int .i64 0,.int .i64 0]) := by kernel_rfl
theorem xzo162 : zeroOf Tryz.prog 162 = some (.agg #[.int .i64 0,.int .i64 0,.int .i64 0]) := by kernel_rfl
theorem xzo174 : zeroOf Tryz.prog 174 = some (.agg #[.pointer none,.pointer none,.pointer none,.pointer none,.pointer none]) := by kernel_rfl
theorem xzo222 : zeroOf Tryz.prog 222 = some (.int .u64 0) := by kernel_rfl
theorem xzo24 : zeroOf Tryz.prog 24 = some (.int .u32 0) := by kernel_rfl
theorem xzo28 : zeroOf Tryz.prog 28 = some (.agg #[.int .i64 0,.int .u32 0,.int .i64 0,.int .i64 0,.int .u32 0,.int .u32 0,.int .u32 0,.int .u32 0,.slice none 0 0,.slice none 0 0]) := by kernel_rfl
theorem xzo3 : zeroOf Tryz.prog 3 = some (.int .i64 0) := by kernel_rfl
theorem xzo35 : zeroOf Tryz.prog 35 = some (.agg #[.int .i64 0,.int .i64 0,.int .i64 0,.int .u32 0,.int .i64 0,.int .i64 0,.int .i64 0,.float .f64 0,.float .f64 0,.float .f64 0,.float .f64 0,.slice none 0 0,.int .i64 0]) := by kernel_rfl
theorem xzo43 : zeroOf Tryz.prog 43 = some (.agg #[.int .u32 0,.int .i64 0,.string ⟨#[]⟩,.int .i64 0,.int .i64 0,.int .i64 0,.int .i64 0,.int .i64 0]) := by kernel_rfl
theorem xzo45 : zeroOf Tryz.prog 45 = some (.agg #[.bool false,.int .i64 0,.int .u32 0,.int .i64 0,.int .i64 0,.int .u32 0,.int .u32 0,.int .u32 0,.int .u32 0,.slice none 0 0,.slice none 0 0,.bool false,.int .u32 0,.int .i64 0,.string ⟨#[]⟩,.int .i64 0,.int .i64 0,.int .i64 0,.int .i64 0,.int .i64 0,.int .i64 0]) := by kernel_rfl
theorem xzo5 : zeroOf Tryz.prog 5 = some (.int .u8 0) := by kernel_rfl
theorem xzo50 : zeroOf Tryz.prog 50 = some (.int .i64 0) := by kernel_rfl
theorem xzo58 : zeroOf Tryz.prog 58 = some (.agg #[.int .i64 0,.int .i64 0,.int .i64 0]) := by kernel_rfl
theorem xzo66 : zeroOf Tryz.prog 66 = some (.agg #[.int .u32 0,.int .u32 0]) := by kernel_rfl
theorem xzo81 : zeroOf Tryz.prog 81 = some (.agg #[.int .i64 0,.slice none 0 0]) := by kernel_rfl
theorem xzo90 : zeroOf Tryz.prog 90 = some (.agg #[.int .i64 0,.int .i64 0,.int .i64 0,.int .u32 0,.int .i64 0,.int .i64 0,.int .i64 0,.float .f64 0,.float .f64 0,.float .f64 0,.float .f64 0,.slice none 0 0,.int .i64 0,.int .i64 0,.int .i64 0,.int .i64 0,.pointer none,.int .i64 0,.int .i64 0,.int .i64 0,.int .i64 0,.int .u32 0,.int .i64 0,.int .i64 0,.int .u32 0,.int .u32 0,.int .u32 0,.int .u32 0,.slice none 0 0,.slice none 0 0,.string ⟨#[]⟩,.int .u32 0,.int .i64 0]) := by kernel_rfl
theorem xzo99 : zeroOf Tryz.prog 99 = some (.agg #[.map none]) := by kernel_rfl
end Go.Proofs.YtfgblingojgafaaGreat
