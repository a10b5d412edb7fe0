/- The arguments of the laws on answers, read.
Conditions: none; no program in sight. -/
import Derived.Test.YtfgblingojgafaaGreatEB
import Derived.Test.YtfgblingojgafaaGreatSA
import Derived.Test.YtfgblingojgafaaGreatKD
import Derived.Test.YtfgblingojgafaaGreatRA
import Derived.KernelRfl
import Derived.Test.YtfgblingojgafaaGreatProg
import Derived.Test.YtfgblingojgafaaGreatKA
set_option linter.unusedSimpArgs false
set_option linter.unusedVariables false
set_option linter.unusedSectionVars false
set_option maxRecDepth 4000
namespace Go.K
open Go.ChangeShapes Go.WideShapes Go.ChangeAt Go.RowKit
structure Eg.Csok (V : Vw) (c : Eg.Cs) : Prop where
  r : Pc.R V c.p c.hv c.ov
  ci : 0 ≤ c.p.ci ∧ c.p.ci ≤ 4294967295
theorem Eg.Csok.le {V V2 : Vw} {c : Eg.Cs} (h : Eg.Csok V c) (hl : V.le V2) : Eg.Csok V2 c := ⟨h.r.le hl,h.ci⟩
def strucT (P : Program) (t : TypeId) : Bool := match P.underlying t with
  | some (.struct _) => true
  | _ => false
def caseSh (b o : TypeId) : List Sh := [i64g,i64g,i64g,i64g,u32g,i64g,i64g,u32g,u32g,u32g,u32g,.sl b 1,.sl o 2]
def siteSh (g : TypeId) : List Sh := [i64g,i64g,i64g,u32g,i64g,i64g,i64g,.fl .f64,.fl .f64,.fl .f64,.fl .f64,.sl g 2,i64g]
section
variable {H : Type} {enc : TypeId × Value → H} {P : Program} {w : World} {base : Nat} {spare : Nat → Bool} {held : Bool}
theorem open_sh {r : Reach} {b0 : Nat} {d : Nat} {t : TypeId} {v : Value} {dd : DataW H} {ps : List MemPlace} {gs : List Sh} (hs : strucT P t = true) (ht : shN P d t = some gs) (hv : Value.okWide P w r b0 t v) (h : DataW.Trod enc P w base spare held t v dd ps) : ∃ cs : List Value,v = .agg cs.toArray ∧ shVs enc P w base spare held gs cs := by
  obtain ⟨fs,hs⟩ : ∃ fs,P.underlying t = some (.struct fs) := by
    unfold strucT at hs; split at hs
    · exact ⟨_,‹_›⟩
    · cases hs
  obtain ⟨cs,rfl,_⟩ := okWide_struct hs hv
  obtain ⟨fuel,hf⟩ := h
  exact ⟨cs.toList,by simp,trod_sh d ht (by simpa [Value.cells] using hf)⟩
theorem open_case {r : Reach} {b0 : Nat} {t b o : TypeId} {v : Value} {dd : DataW H} {ps : List MemPlace} (hs : strucT P t = true) (he : shN P 4 t = some (caseSh b o)) (hb : tagOf P b = some (0,.u8)) (ho : shN P 2 o = some [i64g,.sl b 1])
    (hv : Value.okWide P w r b0 t v) (h : DataW.Trod enc P w base spare held t v dd ps) : ∃ c : Eg.Cs,v = .agg c.cells ∧ Eg.Csok (allV w) c := by
  obtain ⟨cs,rfl,hsh⟩ := open_sh hs he hv h
  unfold caseSh at hsh
  obtain ⟨v0,c0,rfl,h0,k0⟩ := shVs_cons hsh
  obtain ⟨v1,c1,rfl,h1,k1⟩ := shVs_cons k0
  obtain ⟨v2,c2,rfl,h2,k2⟩ := shVs_cons k1
  obtain ⟨v3,c3,rfl,h3,k3⟩ := shVs_cons k2
  obtain ⟨v4,c4,rfl,h4,k4⟩ := shVs_cons k3
  obtain ⟨v5,c5,rfl,h5,k5⟩ := shVs_cons k4
  obtain ⟨v6,c6,rfl,h6,k6⟩ := shVs_cons k5
  obtain ⟨v7,c7,rfl,h7,k7⟩ := shVs_cons k6
  obtain ⟨v8,c8,rfl,h8,k8⟩ := shVs_cons k7
  obtain ⟨v9,c9,rfl,h9,k9⟩ := shVs_cons k8
  obtain ⟨va,ca,rfl,ha,ka⟩ := shVs_cons k9
  obtain ⟨vb,cb,rfl,hbb,kb⟩ := shVs_cons ka
  obtain ⟨vc,cc,rfl,hcc,kc⟩ := shVs_cons kb
  obtain rfl := shVs_nil kc
  obtain ⟨n0,rfl⟩ := shV_i64 h0
  obtain ⟨n1,rfl⟩ := shV_i64 h1
  obtain ⟨n2,rfl⟩ := shV_i64 h2
  obtain ⟨n3,rfl⟩ := shV_i64 h3
  obtain ⟨n4,rfl,w4⟩ := shV_u32 h4
  obtain ⟨n5,rfl⟩ := shV_i64 h5
  obtain ⟨n6,rfl⟩ := shV_i64 h6
  obtain ⟨n7,rfl,w7⟩ := shV_u32 h7
  obtain ⟨n8,rfl,w8⟩ := shV_u32 h8
  obtain ⟨n9,rfl,w9⟩ := shV_u32 h9
  obtain ⟨na,rfl,_⟩ := shV_u32 ha
  obtain ⟨hw,hhw⟩ := sh_bytes hb hbb
  obtain ⟨os,hos⟩ := sh_opts hb ho hcc
  exact ⟨⟨n0,n1,n2,⟨n3,n4,n5,n6,n7,n8,n9,na,hw,os⟩,vb,vc⟩,rfl,⟨⟨hhw,hos,w4,w8,w9⟩,w7⟩⟩
theorem sh_ranges {g : TypeId} {v : Value} (hg : flatN P 3 g = some Rg.tags) (h : shV enc P w base spare held (.sl g 2) v) : ∃ l : List Rg,Rd (allV w) [] 2 v l.length (l.flatMap Rg.cells) ∧ Rg.Oks l := by
  obtain ⟨rows,hr,_,hq⟩ := h
  obtain ⟨l,hL,hL2⟩ := rows_of Rg.cells Rg.Ok (rows := rows) (fun q hqq => by
    obtain ⟨fuel,x,hd⟩ := hq q hqq
    exact Rg.of_wf (trod_flatN 3 hg hd))
  subst hL
  rw [List.length_map,← List.flatMap_def] at hr
  exact ⟨l,hr,hL2⟩
theorem open_site {r : Reach} {b0 : Nat} {t g : TypeId} {v : Value} {dd : DataW H} {ps : List MemPlace} (hs : strucT P t = true) (he : shN P 4 t = some (siteSh g)) (hg : flatN P 3 g = some Rg.tags)
    (hv : Value.okWide P w r b0 t v) (h : DataW.Trod enc P w base spare held t v dd ps) : ∃ (x : Si) (pv : Value),v = .agg (x.cells pv) ∧ Rd (allV w) [] 2 pv x.pool.length (x.pool.flatMap Rg.cells) ∧ Rg.Oks x.pool ∧ (0 ≤ x.server ∧ x.server ≤ 4294967295) := by
  obtain ⟨cs,rfl,hsh⟩ := open_sh hs he hv h
  unfold siteSh at hsh
  obtain ⟨v0,c0,rfl,h0,k0⟩ := shVs_cons hsh
  obtain ⟨v1,c1,rfl,h1,k1⟩ := shVs_cons k0
  obtain ⟨v2,c2,rfl,h2,k2⟩ := shVs_cons k1
  obtain ⟨v3,c3,rfl,h3,k3⟩ := shVs_cons k2
  obtain ⟨v4,c4,rfl,h4,k4⟩ := shVs_cons k3
  obtain ⟨v5,c5,rfl,h5,k5⟩ := shVs_cons k4
  obtain ⟨v6,c6,rfl,h6,k6⟩ := shVs_cons k5
  obtain ⟨v7,c7,rfl,⟨f7,rfl⟩,k7⟩ := shVs_cons k6
  obtain ⟨v8,c8,rfl,⟨f8,rfl⟩,k8⟩ := shVs_cons k7
  obtain ⟨v9,c9,rfl,⟨f9,rfl⟩,k9⟩ := shVs_cons k8
  obtain ⟨va,ca,rfl,⟨fa,rfl⟩,ka⟩ := shVs_cons k9
  obtain ⟨vb,cb,rfl,hbb,kb⟩ := shVs_cons ka
  obtain ⟨vc,cc,rfl,hcc,kc⟩ := shVs_cons kb
  obtain rfl := shVs_nil kc
  obtain ⟨n0,rfl⟩ := shV_i64 h0
  obtain ⟨n1,rfl⟩ := shV_i64 h1
  obtain ⟨n2,rfl⟩ := shV_i64 h2
  obtain ⟨n3,rfl,w3⟩ := shV_u32 h3
  obtain ⟨n4,rfl⟩ := shV_i64 h4
  obtain ⟨n5,rfl⟩ := shV_i64 h5
  obtain ⟨n6,rfl⟩ := shV_i64 h6
  obtain ⟨nc,rfl⟩ := shV_i64 hcc
  obtain ⟨l,hl,hok⟩ := sh_ranges hg hbb
  exact ⟨⟨n0,n1,n2,n3,n4,n5,n6,f7,f8,f9,fa,l,nc⟩,vb,rfl,hl,hok,w3⟩
end
end Go.K
namespace Go.K
theorem Z {α : Sort _} {a : α} : a = a := rfl
theorem W {p : Prop} (h : p := by omega) : p := h
theorem WD {p : Prop} (h : p := by decide) : p := h
theorem WK {p : Prop} (h : p := by kernel_rfl) : p := h
theorem WB {p : Prop} (h : p := by first | omega | (simp only [swp_size,Array.size_setIfInBounds]; omega)) : p := h
theorem Zsplit (b : Bool) : (b = true ∧ b = true) ∨ (b = false ∧ b = false) := by cases b <;> simp
section
variable {C : Cx} {V : Vw} {H : Hp} {L : Sl} {Q : Exit → Act → World → Prop} {ops : Array Oper} {os : List Oper} {KQ : Act → World → Prop}
variable {ty : TypeId} {pos : String} {aft : Array Edge} {d : Nat}
theorem Zs {x y : Code} (h : Tr C V H L x (Exit.then (y.wp C.P Q) Q)) : Tr C V H L (.seq x y) Q := Tr.seq h
theorem Zr {id : Nat} {l : List Oper} (h : Run C l.toArray V H L l Q) : Tr C V H L (.region id l.toArray false) Q := Tr.region h
theorem Zb {id : Nat} {c : Code} (h : Tr C V H L c (Exit.inBlock id Q)) : Tr C V H L (.block id c) Q := Tr.block h
theorem Ze (h : Ex C V H L Q .normal) : Run C ops V H L [] Q := Run.to_end h
theorem ZE (h : Ex C V H L Q .normal) : RunQ C ops V H L [] (Q .normal) := RunQ.to_end h
theorem Zg {y : Code} (h : Tr C V H L y Q) : Ex C V H L (Exit.then (y.wp C.P Q) Q) .normal := h
theorem Zt (h : Ex C V H L Q .normal) : Tr C V H L .skip Q := Tr.to_end h
theorem Zu (h : Ex C V H L Q .ret) : Tr C V H L .ret Q := Tr.to_ret h
theorem Zx {id : Nat} (h : Ex C V H L Q (.exit id)) : Tr C V H L (.exit id) Q := Tr.to_exit h
theorem Zc {id : Nat} (h : Ex C V H L Q .normal) : Ex C V H L (Exit.inBlock id Q) .normal := h
theorem Zn {k : Act → World → Prop} (h : Ex C V H L Q .ret) : Ex C V H L (Exit.then k Q) .ret := h
theorem Zk {id : Nat} (h : Ex C V H L Q .ret) : Ex C V H L (Exit.inBlock id Q) .ret := h
theorem Zy {id : Nat} {k : Act → World → Prop} (h : Ex C V H L Q (.exit id)) : Ex C V H L (Exit.then k Q) (.exit id) := h
theorem Zi {id : Nat} (h : Ex C V H L Q .normal) : Ex C V H L (Exit.inBlock id Q) (.exit id) := Ex.exit_in h
theorem Zv {op : Op} {v : Value} (hx : Yl C V H L op ty v) (k : Run C ops V H ((d,v) :: L) os Q) (hd : Nat.blt d C.n = true := by exact rfl) : Run C ops V H L (⟨some d,op,ty,pos,aft,none⟩ :: os) Q := Run.val (lt hd) hx k
theorem Zm {x : Operand} {v : Value} (hx : ev L x = some v) (k : Run C ops V H ((d,v) :: L) os Q) (hd : Nat.blt d C.n = true := by exact rfl) : Run C ops V H L (⟨some d,.move x,ty,pos,aft,none⟩ :: os) Q := Run.val (lt hd) (Y.move hx) k
theorem Za {x : Operand} {v : Value} (hx : ev L x = some v) (k : Run C ops V H ((d,v) :: L) os Q) (hd : Nat.blt d C.n = true := by exact rfl) : Run C ops V H L (⟨some d,.assign x,ty,pos,aft,none⟩ :: os) Q := Run.val (lt hd) (Y.assign hx) k
theorem ZV {op : Op} {v : Value} (hx : Yl C V H L op ty v) (k : RunQ C ops V H ((d,v) :: L) os KQ) (hd : Nat.blt d C.n = true := by exact rfl) : RunQ C ops V H L (⟨some d,op,ty,pos,aft,none⟩ :: os) KQ := RunQ.val (lt hd) hx k
theorem ZM {x : Operand} {v : Value} (hx : ev L x = some v) (k : RunQ C ops V H ((d,v) :: L) os KQ) (hd : Nat.blt d C.n = true := by exact rfl) : RunQ C ops V H L (⟨some d,.move x,ty,pos,aft,none⟩ :: os) KQ := RunQ.val (lt hd) (Y.move hx) k
theorem ZA {x : Operand} {v : Value} (hx : ev L x = some v) (k : RunQ C ops V H ((d,v) :: L) os KQ) (hd : Nat.blt d C.n = true := by exact rfl) : RunQ C ops V H L (⟨some d,.assign x,ty,pos,aft,none⟩ :: os) KQ := RunQ.val (lt hd) (Y.assign hx) k
theorem Zo {o : Oper} {j : Nat} {t : Bool} {d dd : Nat} {b : Bool} (e : b = !t) (hd : o.dst = some dd) (k : Run C ops V H ((dd,undef) :: L) os Q) (hg : o.guard = some (j,t) := by exact rfl) (hj : ((ops[j]?).bind (·.dst)) = some d := by exact rfl) (hb : L.lookup d = some (.bool b) := by exact rfl) (hn : Nat.blt dd C.n = true := by exact rfl) : Run C ops V H L (o :: os) Q := Run.off hg hj hb e hd (lt hn) k
theorem ZO {o : Oper} {j : Nat} {t : Bool} {d dd : Nat} {b : Bool} (e : b = !t) (hd : o.dst = some dd) (k : RunQ C ops V H ((dd,undef) :: L) os KQ) (hg : o.guard = some (j,t) := by exact rfl) (hj : ((ops[j]?).bind (·.dst)) = some d := by exact rfl) (hb : L.lookup d = some (.bool b) := by exact rfl) (hn : Nat.blt dd C.n = true := by exact rfl) : RunQ C ops V H L (o :: os) KQ := RunQ.off hg hj hb e hd (lt hn) k
theorem Zp {o : Oper} {j : Nat} {t : Bool} {d : Nat} {b : Bool} (e : b = t) (k : Run C ops V H L (⟨o.dst,o.op,o.type,o.pos,o.after,none⟩ :: os) Q) (hg : o.guard = some (j,t) := by exact rfl) (hj : ((ops[j]?).bind (·.dst)) = some d := by exact rfl) (hb : L.lookup d = some (.bool b) := by exact rfl) : Run C ops V H L (o :: os) Q := Run.on hg hj hb e k
theorem ZP {o : Oper} {j : Nat} {t : Bool} {d : Nat} {b : Bool} (e : b = t) (k : RunQ C ops V H L (⟨o.dst,o.op,o.type,o.pos,o.after,none⟩ :: os) KQ) (hg : o.guard = some (j,t) := by exact rfl) (hj : ((ops[j]?).bind (·.dst)) = some d := by exact rfl) (hb : L.lookup d = some (.bool b) := by exact rfl) : RunQ C ops V H L (o :: os) KQ := RunQ.on hg hj hb e k
theorem ZK (i : Nat) {b : Nat} {o : Obj} {s : Sg} (h : H[i]? = some ((b,o) :: s)) : KnAll V H [(b,o)] := KnAll.cons (Kn.at i h) KnAll.nil
variable {S0 : Sg} {z : Nat}
theorem Zw {g : Nat} (i : Nat) {op : Op} {v : Value} {listed : Array Bool} (ho : ops[i]? = some ⟨some d,op,ty,pos,aft,none⟩) (hk : KnAll V H S0) (hy : ∀ B,Yl (CK C [] B) (VK []) [] L op ty v) (h : RunT C ops S0 z g (listed.setIfInBounds i true) V H ((d,v) :: L) Q)
    (hs : Region.noSelect ops = true := by kernel_rfl) (hf : Region.free .any ops listed i = true := by kernel_rfl) (hr : (Region.ready .any ops listed).contains i = true := by kernel_rfl) (hz : Nat.blt i z = true := by kernel_rfl) (hQ : ∀ c a w,Q (.panic c) (a.put (some d) v) w → Q (.panic c) a w := by exact fun _ _ _ h => h) (hd : d < C.n := by exact lt rfl) :
    RunT C ops S0 z (g + 1) listed V H L Q := RunT.pure ho hs hf hr hz hQ hd hk hy h
theorem Zwm {g : Nat} (i : Nat) {x : Operand} {v : Value} {listed : Array Bool} (ho : ops[i]? = some ⟨some d,.move x,ty,pos,aft,none⟩) (hx : ev L x = some v) (hk : KnAll V H S0) (h : RunT C ops S0 z g (listed.setIfInBounds i true) V H ((d,v) :: L) Q)
    (hs : Region.noSelect ops = true := by kernel_rfl) (hf : Region.free .any ops listed i = true := by kernel_rfl) (hr : (Region.ready .any ops listed).contains i = true := by kernel_rfl) (hz : Nat.blt i z = true := by kernel_rfl) (hQ : ∀ c a w,Q (.panic c) (a.put (some d) v) w → Q (.panic c) a w := by exact fun _ _ _ h => h) (hd : d < C.n := by exact lt rfl) :
    RunT C ops S0 z (g + 1) listed V H L Q := RunT.pure ho hs hf hr hz hQ hd hk (fun _ => Y.move hx) h
theorem ZT {g : Nat} (i : Nat) {op : Op} {v : Value} {listed : Array Bool} {b : Nat} {o : Obj} (m : Nat) (hm : S0[m]? = some (b,o)) (ho : ops[i]? = some ⟨some d,op,ty,pos,aft,none⟩) (hk : KnAll V H S0) (hy : ∀ B,Yl (CK C [(b,o)] B) (VK [(b,o)]) [] L op ty v) (h : RunT C ops S0 z g (listed.setIfInBounds i true) V H ((d,v) :: L) Q)
    (hs : Region.noSelect ops = true := by kernel_rfl) (hf : Region.free .any ops listed i = true := by kernel_rfl) (hr : (Region.ready .any ops listed).contains i = true := by kernel_rfl) (hz : (waitsAll .any ops z i && noneZ ops z listed && Nat.blt i z) = true := by kernel_rfl) (hQ : ∀ c a w,Q (.panic c) (a.put (some d) v) w → Q (.panic c) a w := by exact fun _ _ _ h => h) (hd : d < C.n := by exact lt rfl) :
    RunT C ops S0 z (g + 1) listed V H L Q := RunT.take m hm ho hs hf hr hz hQ hd hk hy h
theorem Zz {g : Nat} (i : Nat) {listed : Array Bool} (h : RunT C ops S0 z g listed V H L Q) (he : listed.getD i false = true := by exact rfl) (hz : Nat.ble z i = true := by exact rfl) (hi : Nat.blt i ops.size = true := by exact rfl) : Ex C V H L (Exit.then (fun a' w' => (preZ ops z listed → DK S0 w') ∧ K.anyT C.P .any ops (DK S0) z Q g listed a' w') Q) .normal := Ex.anyTz he hz hi h
theorem ZS {L L' : Sl} (h : subB L L' := by repeat (first | exact subB_nil _ | refine subB_cons (by first | rfl | exact congrArg (fun z => some (Value.int _ z)) (by omega)) ?_)) : subB L L' := h
theorem ZR {X : Type} {p : X → Prop} {μ : X → Nat} {V' : X → Vw} {H' : X → Hp} {L' : X → Sl} {m : Nat} (y : X) (hp : p y) (hm : μ y < m) (hL : subB L (L' y) := by repeat (first | exact subB_nil _ | refine subB_cons (by first | rfl | exact congrArg (fun z => some (Value.int _ z)) (by omega)) ?_)) (hV : V' y = V := by exact rfl) (hH : H' y = H := by exact rfl) :
    Ex C V H L (Exit.then (fun a w => ∃ y,p y ∧ μ y < m ∧ Is C (V' y) (H' y) (L' y) a w) Q) .normal := Ex.round y hp hm hV hH hL
theorem ZX {X : Type} {p : X → Prop} {V' : X → Vw} {H' : X → Hp} {L' : X → Sl} (y : X) (hp : p y) (hL : subB L (L' y) := by repeat (first | exact subB_nil _ | refine subB_cons (by first | rfl | exact congrArg (fun z => some (Value.int _ z)) (by omega)) ?_)) (hV : V' y = V := by exact rfl) (hH : H' y = H := by exact rfl) :
    Ex C V H L (Exit.then (fun a w => ∃ y,p y ∧ Is C (V' y) (H' y) (L' y) a w) Q) .normal := Ex.cutx y hp hV hH hL
theorem ZL {c : Code} {X : Type} (V' : X → Vw) (H' : X → Hp) (L' : X → Sl) (p : X → Prop) (m : X → Nat) (x0 : X) (h0 : p x0) (h : ∀ x,p x → Tr C (V' x) (H' x) (L' x) c (Exit.then (fun a w => ∃ y,p y ∧ m y < m x ∧ Is C (V' y) (H' y) (L' y) a w) Q))
    (hL : subB L (L' x0) := by repeat (first | exact subB_nil _ | refine subB_cons (by first | rfl | exact congrArg (fun z => some (Value.int _ z)) (by omega)) ?_)) (hV : V' x0 = V := by exact rfl) (hH : H' x0 = H := by exact rfl) : Tr C V H L (.loop c) Q := Tr.loop V' H' L' p m x0 h0 (fun a w i => by rw [hV,hH]; exact ⟨i.1.sub hL,i.2⟩) h
end
abbrev pZ (b : Nat) : Value := .pointer (some ⟨b,0,none⟩)
abbrev cL (T b d : Nat) : Sg := [(b,.cells #[.pointer (some ⟨d,0,none⟩)] T (0,0))]
end Go.K
namespace Go.Proofs.YtfgblingojgafaaGreat
open Go Go.K
attribute [local irreducible] Code.wp wpList Calls wpQuiet
theorem bnd_c {x lo hi : Int} {V : Vw} : Does Tryz.prog 109 [.int .i64 x,.int .i64 lo,.int .i64 hi] V [] (Pv (.int .i64 (Ck.bnd x lo hi)) V []) := by
 refine Does.intro Tryz.func109 rfl rfl (le rfl) (fun B => ?_)
 refine Zs<|Zr<|Za Z<|Ze<|Zg<|Zs<|Zr<|Zm Z<|Zm Z<|Zv (Y.max2 Z Z)<|Zm Z<|Zv (Y.min2 Z Z)<|Za Z<|Ze<|Zg<|Zu<|?_
 exact Ex.ret1 rfl rfl  ⟨rfl,rfl,rfl⟩
theorem bnd_c_h {x lo hi : Int} {V : Vw} {H : Hp} : Does Tryz.prog 109 [.int .i64 x,.int .i64 lo,.int .i64 hi] V H (Pv (.int .i64 (Ck.bnd x lo hi)) V H) := bnd_c.frame
theorem mo_c {n : Int} {V : Vw} : Does Tryz.prog 108 [.int .i64 n] V [] (Pv (.int .i64 (Ck.mo n)) V []) := by
 refine Does.intro Tryz.func108 rfl rfl (le rfl) (fun B => ?_)
 refine Zs<|Zr<|Za Z<|Ze<|Zg<|Zs<|Zr<|Zm Z<|Run.call0 (l := [.tmp 3,.const (.int .i64 0),.const (.int .i64 1099511627776)]) Z Z Z (lt Z) (bnd_c_h (x := n))<|Za Z<|Ze<|Zg<|Zu<|?_
 exact Ex.ret1 rfl rfl  ⟨rfl,rfl,rfl⟩
theorem mo_c_h {n : Int} {V : Vw} {H : Hp} : Does Tryz.prog 108 [.int .i64 n] V H (Pv (.int .i64 (Ck.mo n)) V H) := mo_c.frame
theorem add_c {t d : Int} {V : Vw} : Does Tryz.prog 48 [.int .i64 t,.int .i64 d] V [] (Pv (.int .i64 (Ck.add t d)) V []) := by
 have hmt := Ck.mo_bd t
 have hnt := Ck.bnd_bd t (lo := 0) (hi := 1099511627776) WD
 have hbd := Ck.bnd_bd d (lo := -1099511627776) (hi := 1099511627776) WD
 refine Does.intro Tryz.func48 rfl rfl (le rfl) (fun B => ?_)
 refine Zs<|Zr<|Za Z<|Ze<|Zg<|Zs<|Zr<|Zm Z<|Run.call0 (l := [.tmp 5]) Z Z Z (lt Z) (mo_c_h (n := t))<|Zm Z<|Run.call0 (l := [.tmp 7,.const (.int .i64 (-1099511627776)),.const (.int .i64 1099511627776)]) Z Z Z (lt Z) (bnd_c_h (x := d))<|Zv (Y.add Z Z W)<|Run.call0 (l := [.tmp 9]) Z Z Z (lt Z) (mo_c_h (n := (Ck.mo t) + (Ck.bnd d (-1099511627776) 1099511627776)))<|Za Z<|Ze<|Zg<|?_
 refine Zu ?_
 exact Ex.ret1 rfl rfl  ⟨rfl,rfl,rfl⟩
theorem add_c_h {t d : Int} {V : Vw} {H : Hp} : Does Tryz.prog 48 [.int .i64 t,.int .i64 d] V H (Pv (.int .i64 (Ck.add t d)) V H) := add_c.frame
theorem left_c {now til : Int} {V : Vw} : Does Tryz.prog 147 [.int .i64 now,.int .i64 til] V [] (Pv (.int .i64 (Ck.left now til)) V []) := by
 have hmnow := Ck.mo_bd now
 have hmtil := Ck.mo_bd til
 have hnnow := Ck.bnd_bd now (lo := 0) (hi := 1099511627776) WD
 have hntil := Ck.bnd_bd til (lo := 0) (hi := 1099511627776) WD
 refine Does.intro Tryz.func147 rfl rfl (le rfl) (fun B => ?_)
 refine Zs<|Zr<|Za Z<|Ze<|Zg<|Zs<|Zr<|Zm Z<|Run.call0 (l := [.tmp 5]) Z Z Z (lt Z) (mo_c_h (n := til))<|Zm Z<|Run.call0 (l := [.tmp 7]) Z Z Z (lt Z) (mo_c_h (n := now))<|Zv (Y.sub Z Z W)<|Run.call0 (l := [.tmp 9]) Z Z Z (lt Z) (mo_c_h (n := (Ck.mo til) - (Ck.mo now)))<|Za Z<|Ze<|Zg<|?_
 refine Zu ?_
 exact Ex.ret1 rfl rfl  ⟨rfl,rfl,rfl⟩
theorem left_c_h {now til : Int} {V : Vw} {H : Hp} : Does Tryz.prog 147 [.int .i64 now,.int .i64 til] V H (Pv (.int .i64 (Ck.left now til)) V H) := left_c.frame
theorem past_c {now til grd : Int} {V : Vw} : Does Tryz.prog 49 [.int .i64 now,.int .i64 til,.int .i64 grd] V [] (Pv (.bool (Ck.past now til grd)) V []) := by
 have hmnow := Ck.mo_bd now
 have hmtil := Ck.mo_bd til
 have hmgrd := Ck.mo_bd grd
 have hnnow := Ck.bnd_bd now (lo := 0) (hi := 1099511627776) WD
 have hntil := Ck.bnd_bd til (lo := 0) (hi := 1099511627776) WD
 have hngrd := Ck.bnd_bd grd (lo := 0) (hi := 1099511627776) WD
 refine Does.intro Tryz.func49 rfl rfl (le rfl) (fun B => ?_)
 refine Zs<|Zr<|Za Z<|Ze<|Zg<|Zs<|Zr<|Zm Z<|Run.call0 (l := [.tmp 7]) Z Z Z (lt Z) (mo_c_h (n := now))<|Zm Z<|Run.call0 (l := [.tmp 9]) Z Z Z (lt Z) (mo_c_h (n := til))<|Zm Z<|Run.call0 (l := [.tmp 11]) Z Z Z (lt Z) (mo_c_h (n := grd))<|Zv (Y.add Z Z W)<|Zv (Y.int Z Z Z)<|Za Z<|?_
 refine Ze<|Zg<|Zu<|?_
 exact Ex.ret1 rfl rfl  ⟨rfl,rfl,rfl⟩
theorem past_c_h {now til grd : Int} {V : Vw} {H : Hp} : Does Tryz.prog 49 [.int .i64 now,.int .i64 til,.int .i64 grd] V H (Pv (.bool (Ck.past now til grd)) V H) := past_c.frame
end Go.Proofs.YtfgblingojgafaaGreat
namespace Go.Proofs.YtfgblingojgafaaGreat
open Go Go.K
attribute [local irreducible] Code.wp wpList Calls wpQuiet
theorem Sortr_mo : Tryz.prog.follows .mixedOrders = true := by kernel_rfl
theorem Sortr_es33 : elemS Tryz.prog 33 = some (66,2) := by kernel_rfl
theorem Sortr_ag66 : aggsz Tryz.prog 66 = some 2 := by kernel_rfl
theorem Sortr_sz66 : sizeT Tryz.prog 66 = some 2 := by kernel_rfl
open Go.Sort
theorem ins_r {V : Vw} {n c b : Nat} {rest : List Value} {d0 : Array Rg} {gf : FuncId} {caps : List Value} {cm : Rg → Rg → Int} {x y : Nat}  (hN : n ≤ 1073741824) (hd : d0.size = n) (hx : x ≤ n) (hy : y ≤ n)  (hcmp : ∀ x y : Rg,Does Tryz.prog gf (.agg (Rg.cells x).toArray :: .agg (Rg.cells y).toArray :: caps) V [] (Pv (.int .i64 (cm x y)) V [])) (hswo : SWO (ltc cm))  : Does Tryz.prog 188 [.slice (some ⟨b,0,none⟩) n c,.int .i64 ((x : Nat) : Int),.int .i64 ((y : Nat) : Int),.func (.func gf) #[] caps.toArray] V [sgD Rg.cells 66 b rest d0] (fun v V' H' => V' = V ∧ v = .tuple #[] ∧ H' = [sgD Rg.cells 66 b rest (insertionSort (ltc cm) d0 x y)]) := by
 refine Does.intro Tryz.func188 rfl rfl (le rfl) (fun B => ?_)
 refine Zs<|Zr<|Zm Z<|Zv (Y.addN ((x + 1 : Nat) : Int) rfl rfl W W)<|Za Z<|Ze<|Zg<|Zb<|?_
 refine ZL (X := Nat × Array Rg) (fun z0 => V) (fun z0 => [sgD Rg.cells 66 b rest z0.2]) (fun z0 => [(0,.slice (some ⟨b,0,none⟩) n c),(1,.int .i64 ((x : Nat) : Int)),(2,.int .i64 ((y : Nat) : Int)),(3,.func (.func gf) #[] caps.toArray),(8,.int .i64 ((z0.1 : Nat) : Int))]) (fun z0 => insOuter (ltc cm) x y z0.1 z0.2 = insOuter (ltc cm) x y (x + 1) d0 ∧ z0.2.size = n ∧ x < z0.1) (fun z0 => y - z0.1) (⟨x + 1,d0⟩ : Nat × Array Rg) ⟨rfl,hd,by omega⟩ ?_
 rintro ⟨i,d⟩ ⟨r1,r2,r3⟩
 try dsimp only at r1 r2 r3 ⊢
 refine Zs<|Zs<|Zr<|Zm Z<|Zm Z<|Zv (Y.int Z Z Z)<|Ze<|Zg<|?_
 rcases Zsplit (decide (((i : Nat) : Int) < ((y : Nat) : Int))) with ⟨h1,g1⟩ | ⟨h1,g1⟩ <;> try simp only [kb] at g1
 ·refine Tr.cond_t Z h1<|Zt<|Zg<|Zs<|Zb<|Zs<|Zr<|Zm Z<|Za Z<|Ze<|Zg<|Zb<|?_
  refine ZL (X := Nat × Array Rg) (fun z0 => V) (fun z0 => [sgD Rg.cells 66 b rest z0.2]) (fun z0 => [(0,.slice (some ⟨b,0,none⟩) n c),(1,.int .i64 ((x : Nat) : Int)),(2,.int .i64 ((y : Nat) : Int)),(3,.func (.func gf) #[] caps.toArray),(8,.int .i64 ((i : Nat) : Int)),(9,.int .i64 ((z0.1 : Nat) : Int))]) (fun z0 => insOuter (ltc cm) x y (i + 1) (insInner (ltc cm) x z0.1 z0.2) = insOuter (ltc cm) x y (x + 1) d0 ∧ z0.2.size = n ∧ z0.1 ≤ i) (fun z0 => z0.1) (⟨i,d⟩ : Nat × Array Rg) ⟨(insOuter_go W).symm.trans r1,r2,Nat.le_refl _⟩ ?_
  rintro ⟨j,f⟩ ⟨k1,k2,k3⟩
  try dsimp only at k1 k2 k3 ⊢
  refine Zs<|Zs<|Tr.quiet Sortr_mo WK<|ZM Z<|ZM Z<|ZV (Y.int Z Z Z)<|ZM Z<|?_
  rcases Zsplit (decide (((j : Nat) : Int) > ((x : Nat) : Int))) with ⟨h2,g2⟩ | ⟨h2,g2⟩ <;> try simp only [kb] at g2
  ·refine ZP h2<|ZM Z<|ZP h2<|ZM Z<|ZP h2<|ZM Z<|ZP h2<|ZV (Y.idxN j Z Z Sortr_es33 W W)<|ZP h2<|ZV (Y.ldA (enc := Rg.cells) (d := f) (rest := rest) (e := 66) (i := j) Z Sortr_ag66 (Kn.at 0 rfl) Rg.enc WB rfl)<|ZP h2<|ZM Z<|ZP h2<|ZM Z<|ZP h2<|ZV (Y.subN ((j - 1 : Nat) : Int) rfl rfl W W)<|?_
   refine ZP h2<|ZV (Y.idxN (j - 1) rfl rfl Sortr_es33 W W)<|ZP h2<|ZV (Y.ldA (enc := Rg.cells) (d := f) (rest := rest) (e := 66) (i := (j - 1)) rfl Sortr_ag66 (Kn.at 0 rfl) Rg.enc WB rfl)<|ZP h2<|RunQ.call0 (l := [.tmp 26,.tmp 31]) Z Z Z (lt Z) ((hcmp (f[j]!) (f[j - 1]!)).frame)<|ZP h2<|ZV (Y.int Z Z Z)<|ZV (Y.pick_t Z h2 Z)<|ZE<|Zg<|?_
   rcases Zsplit (decide ((cm (f[j]!) (f[j - 1]!)) < 0)) with ⟨h3,g3⟩ | ⟨h3,g3⟩ <;> try simp only [kb] at g3
   ·refine Tr.cond_t Z h3<|Zt<|Zg<|Zs<|Zb<|Tr.anyT [(b,.cells (cel Rg.cells f rest).toArray 66 (0,0))] 15 Sortr_mo<|Zwm 0 Z Z (ZK 0 Z)<|Zwm 1 Z Z (ZK 0 Z)<|Zwm 2 Z Z (ZK 0 Z)<|Zwm 3 Z Z (ZK 0 Z)<|Zw 4 Z (ZK 0 Z) (fun _ => (Y.subN ((j - 1 : Nat) : Int) rfl rfl W W))<|Zwm 5 Z Z (ZK 0 Z)<|Zwm 6 Z Z (ZK 0 Z)<|Zw 7 Z (ZK 0 Z) (fun _ => (Y.subN ((j - 1 : Nat) : Int) rfl rfl W W))<|Zw 8 Z (ZK 0 Z) (fun _ => (Y.idxN (j - 1) rfl rfl Sortr_es33 W W))<|?_
    refine ZT 9 0 Z Z (ZK 0 Z) (fun _ => (Y.ldA (enc := Rg.cells) (d := f) (rest := rest) (e := 66) (i := (j - 1)) rfl Sortr_ag66 Kn.vk1 Rg.enc WB rfl))<|Zwm 10 Z Z (ZK 0 Z)<|Zwm 11 Z Z (ZK 0 Z)<|Zw 12 Z (ZK 0 Z) (fun _ => (Y.idxN j rfl rfl Sortr_es33 W W))<|ZT 13 0 Z Z (ZK 0 Z) (fun _ => (Y.ldA (enc := Rg.cells) (d := f) (rest := rest) (e := 66) (i := j) rfl Sortr_ag66 Kn.vk1 Rg.enc WB rfl))<|?_
    refine Zw 14 Z (ZK 0 Z) (fun _ => (Y.idxN j rfl rfl Sortr_es33 W W)) ?_
    refine RunT.one (i := 15) WK rfl  ?_
    refine Run.stD (enc := Rg.cells) (d := f) (rest := rest) (e := 66) (i := j) (s := 0) (f[j - 1]!) rfl rfl Sortr_sz66 rfl Rg.enc WB rfl<|Ze<|Zz 15<|?_
    refine RunT.one (i := 16) WK rfl  ?_
    refine Zv (Y.idxN (j - 1) rfl rfl Sortr_es33 W W)<|Ze<|Zz 16<|?_
    refine RunT.one (i := 17) WK rfl  ?_
    refine Run.stD (enc := Rg.cells) (d := (f).setIfInBounds j (f[j - 1]!)) (rest := rest) (e := 66) (i := (j - 1)) (s := 0) (f[j]!) rfl rfl Sortr_sz66 rfl Rg.enc WB rfl<|Run.heapTo (H' := [sgD Rg.cells 66 b rest (swp f j (j - 1))]) Z<|Ze<|Zz 17<|RunT.done WK<|Zc<|Zg<|Zr<|Zm Z<|Zv (Y.subN ((j - 1 : Nat) : Int) rfl rfl W W)<|?_
    refine Za Z<|Ze<|?_
    exact ZR (⟨j - 1,swp f j (j - 1)⟩ : Nat × Array Rg) ⟨by dsimp only; rw [← insInner_go W (by assumption)]; exact k1,by simp only [swp_size]; exact k2,by omega⟩ (by dsimp only; omega)
   ·refine Tr.cond_f Z h3<|Zx<|Zy<|Zy<|Zi<|Zc<|Zg<|Zr<|Zm Z<|Zv (Y.addN ((i + 1 : Nat) : Int) rfl rfl W W)<|Za Z<|Ze<|?_
    exact ZR (⟨i + 1,f⟩ : Nat × Array Rg) ⟨(congrArg (insOuter (ltc cm) x y (i + 1)) (insInner_stop (a := x) (by first | (left; omega) | (right; assumption)))).symm.trans k1,k2,by omega⟩ (by dsimp only; omega)
  ·refine ZO h2 Z<|ZO h2 Z<|ZO h2 Z<|ZO h2 Z<|ZO h2 Z<|ZO h2 Z<|ZO h2 Z<|ZO h2 Z<|ZO h2 Z<|ZO h2 Z<|ZO h2 Z<|ZO h2 Z<|ZV (Y.pick_f Z h2 Z)<|ZE<|Zg<|Tr.cond_f Z Z<|?_
   refine Zx<|Zy<|Zy<|Zi<|Zc<|Zg<|Zr<|Zm Z<|Zv (Y.addN ((i + 1 : Nat) : Int) rfl rfl W W)<|Za Z<|Ze<|?_
   exact ZR (⟨i + 1,f⟩ : Nat × Array Rg) ⟨(congrArg (insOuter (ltc cm) x y (i + 1)) (insInner_stop (a := x) (by first | (left; omega) | (right; assumption)))).symm.trans k1,k2,by omega⟩ (by dsimp only; omega)
 ·refine Tr.cond_f Z h1<|Zx<|Zy<|Zy<|Zi<|Ex.keep [0]<|?_
  exact Ex.end0 rfl ⟨rfl,rfl,by rw [insertionSort,← r1,insOuter_stop W]; rfl⟩
theorem sift_r {V : Vw} {n c b : Nat} {rest : List Value} {d0 : Array Rg} {gf : FuncId} {caps : List Value} {cm : Rg → Rg → Int} {l m f : Nat}  (hN : n ≤ 1073741824) (hd : d0.size = n) (hl : l ≤ n) (hm : f + m ≤ n)  (hcmp : ∀ x y : Rg,Does Tryz.prog gf (.agg (Rg.cells x).toArray :: .agg (Rg.cells y).toArray :: caps) V [] (Pv (.int .i64 (cm x y)) V [])) (hswo : SWO (ltc cm))  : Does Tryz.prog 202 [.slice (some ⟨b,0,none⟩) n c,.int .i64 ((l : Nat) : Int),.int .i64 ((m : Nat) : Int),.int .i64 ((f : Nat) : Int),.func (.func gf) #[] caps.toArray] V [sgD Rg.cells 66 b rest d0] (fun v V' H' => V' = V ∧ v = .tuple #[] ∧ H' = [sgD Rg.cells 66 b rest (siftDown (ltc cm) m f l d0)]) := by
 refine Does.intro Tryz.func202 rfl rfl (le rfl) (fun B => ?_)
 refine Zs<|Zr<|Zm Z<|Za Z<|Ze<|Zg<|Zb<|?_
 refine ZL (X := Nat × Array Rg) (fun z0 => V) (fun z0 => [sgD Rg.cells 66 b rest z0.2]) (fun z0 => [(0,.slice (some ⟨b,0,none⟩) n c),(1,.int .i64 ((l : Nat) : Int)),(2,.int .i64 ((m : Nat) : Int)),(3,.int .i64 ((f : Nat) : Int)),(4,.func (.func gf) #[] caps.toArray),(10,.int .i64 ((z0.1 : Nat) : Int))]) (fun z0 => siftDown (ltc cm) m f z0.1 z0.2 = siftDown (ltc cm) m f l d0 ∧ z0.2.size = n ∧ z0.1 ≤ n) (fun z0 => m - z0.1) (⟨l,d0⟩ : Nat × Array Rg) ⟨rfl,hd,hl⟩ ?_
 rintro ⟨r,d⟩ ⟨r1,r2,r3⟩
 try dsimp only at r1 r2 r3 ⊢
 refine Zb<|Zs<|Zr<|Zm Z<|Zv (Y.mulN ((2 * r : Nat) : Int) rfl rfl W W)<|Zv (Y.addN (((2 * r) + 1 : Nat) : Int) rfl rfl W W)<|Za Z<|Ze<|Zg<|Zs<|Zs<|Zr<|Zm Z<|Zm Z<|Zv (Y.int Z Z Z)<|Ze<|?_
 refine Zg ?_
 rcases Zsplit (decide ((((2 * r) + 1 : Nat) : Int) ≥ ((m : Nat) : Int))) with ⟨h1,g1⟩ | ⟨h1,g1⟩ <;> try simp only [kb] at g1
 ·refine Tr.cond_t Z h1<|Zx<|Zy<|Ex.exit_out Z<|Zy<|Zi<|Ex.keep [0]<|?_
  exact Ex.end0 rfl ⟨rfl,rfl,by rw [← r1]; first | rw [sift_end W]; rfl | rw [sift_stop2 W (by assumption) (by assumption)]; rfl | rw [sift_stop1 W (by first | (left; omega) | (right; assumption)) (by assumption)]; rfl⟩
 ·refine Tr.cond_f Z h1<|Zt<|Zg<|Zs<|Zs<|Tr.quiet Sortr_mo WK<|ZM Z<|ZV (Y.addN ((((2 * r) + 1) + 1 : Nat) : Int) rfl rfl W W)<|ZM Z<|ZV (Y.int Z Z Z)<|ZM Z<|?_
  rcases Zsplit (decide (((((2 * r) + 1) + 1 : Nat) : Int) < ((m : Nat) : Int))) with ⟨h2,g2⟩ | ⟨h2,g2⟩ <;> try simp only [kb] at g2
  ·refine ZP h2<|ZM Z<|ZP h2<|ZM Z<|ZP h2<|ZM Z<|ZP h2<|ZM Z<|ZP h2<|ZV (Y.addN ((f + ((2 * r) + 1) : Nat) : Int) rfl rfl W W)<|ZP h2<|ZV (Y.idxN (f + ((2 * r) + 1)) rfl rfl Sortr_es33 W W)<|ZP h2<|ZV (Y.ldA (enc := Rg.cells) (d := d) (rest := rest) (e := 66) (i := (f + ((2 * r) + 1))) rfl Sortr_ag66 (Kn.at 0 rfl) Rg.enc WB rfl)<|?_
   refine ZP h2<|ZM Z<|ZP h2<|ZM Z<|ZP h2<|ZM Z<|ZP h2<|ZV (Y.addN ((f + ((2 * r) + 1) : Nat) : Int) rfl rfl W W)<|ZP h2<|ZV (Y.addN (((f + ((2 * r) + 1)) + 1 : Nat) : Int) rfl rfl W W)<|ZP h2<|ZV (Y.idxN ((f + ((2 * r) + 1)) + 1) rfl rfl Sortr_es33 W W)<|ZP h2<|ZV (Y.ldA (enc := Rg.cells) (d := d) (rest := rest) (e := 66) (i := ((f + ((2 * r) + 1)) + 1)) rfl Sortr_ag66 (Kn.at 0 rfl) Rg.enc WB rfl)<|?_
   refine ZP h2<|RunQ.call0 (l := [.tmp 30,.tmp 37]) Z Z Z (lt Z) ((hcmp (d[f + ((2 * r) + 1)]!) (d[(f + ((2 * r) + 1)) + 1]!)).frame)<|ZP h2<|ZV (Y.int Z Z Z)<|ZV (Y.pick_t Z h2 Z)<|ZE<|Zg<|?_
   rcases Zsplit (decide ((cm (d[f + ((2 * r) + 1)]!) (d[(f + ((2 * r) + 1)) + 1]!)) < 0)) with ⟨h3,g3⟩ | ⟨h3,g3⟩ <;> try simp only [kb] at g3
   ·refine Tr.cond_t Z h3<|Zr<|Zm Z<|Zv (Y.addN ((((2 * r) + 1) + 1 : Nat) : Int) rfl rfl W W)<|Za Z<|Ze<|Zg<|Zs<|Zs<|Tr.quiet Sortr_mo WK<|ZM Z<|ZM Z<|ZM Z<|ZM Z<|ZV (Y.addN ((f + r : Nat) : Int) rfl rfl W W)<|ZV (Y.idxN (f + r) rfl rfl Sortr_es33 W W)<|?_
    refine ZV (Y.ldA (enc := Rg.cells) (d := d) (rest := rest) (e := 66) (i := (f + r)) rfl Sortr_ag66 (Kn.at 0 rfl) Rg.enc WB rfl)<|ZM Z<|ZM Z<|ZM Z<|ZV (Y.addN ((f + (((2 * r) + 1) + 1) : Nat) : Int) rfl rfl W W)<|ZV (Y.idxN (f + (((2 * r) + 1) + 1)) rfl rfl Sortr_es33 W W)<|ZV (Y.ldA (enc := Rg.cells) (d := d) (rest := rest) (e := 66) (i := (f + (((2 * r) + 1) + 1))) rfl Sortr_ag66 (Kn.at 0 rfl) Rg.enc WB rfl)<|?_
    refine RunQ.call0 (l := [.tmp 49,.tmp 55]) Z Z Z (lt Z) ((hcmp (d[f + r]!) (d[f + (((2 * r) + 1) + 1)]!)).frame)<|ZV (Y.int Z Z Z)<|ZV (Y.not Z)<|ZE<|Zg<|?_
    rcases Zsplit (decide ((cm (d[f + r]!) (d[f + (((2 * r) + 1) + 1)]!)) < 0)) with ⟨h4,g4⟩ | ⟨h4,g4⟩ <;> try simp only [kb] at g4
    ·refine Tr.cond_f Z (congrArg Bool.not h4)<|Zt<|Zg<|Zs<|Tr.anyT [(b,.cells (cel Rg.cells d rest).toArray 66 (0,0))] 21 Sortr_mo<|Zwm 0 Z Z (ZK 0 Z)<|Zwm 1 Z Z (ZK 0 Z)<|Zwm 2 Z Z (ZK 0 Z)<|Zw 3 Z (ZK 0 Z) (fun _ => (Y.addN ((f + r : Nat) : Int) rfl rfl W W))<|Zwm 4 Z Z (ZK 0 Z)<|Zwm 5 Z Z (ZK 0 Z)<|Zwm 6 Z Z (ZK 0 Z)<|Zw 7 Z (ZK 0 Z) (fun _ => (Y.addN ((f + (((2 * r) + 1) + 1) : Nat) : Int) rfl rfl W W))<|?_
     refine Zwm 8 Z Z (ZK 0 Z)<|Zwm 9 Z Z (ZK 0 Z)<|Zwm 10 Z Z (ZK 0 Z)<|Zw 11 Z (ZK 0 Z) (fun _ => (Y.addN ((f + (((2 * r) + 1) + 1) : Nat) : Int) rfl rfl W W))<|Zw 12 Z (ZK 0 Z) (fun _ => (Y.idxN (f + (((2 * r) + 1) + 1)) rfl rfl Sortr_es33 W W))<|ZT 13 0 Z Z (ZK 0 Z) (fun _ => (Y.ldA (enc := Rg.cells) (d := d) (rest := rest) (e := 66) (i := (f + (((2 * r) + 1) + 1))) rfl Sortr_ag66 Kn.vk1 Rg.enc WB rfl))<|?_
     refine Zwm 14 Z Z (ZK 0 Z)<|Zwm 15 Z Z (ZK 0 Z)<|Zwm 16 Z Z (ZK 0 Z)<|Zw 17 Z (ZK 0 Z) (fun _ => (Y.addN ((f + r : Nat) : Int) rfl rfl W W))<|Zw 18 Z (ZK 0 Z) (fun _ => (Y.idxN (f + r) rfl rfl Sortr_es33 W W))<|ZT 19 0 Z Z (ZK 0 Z) (fun _ => (Y.ldA (enc := Rg.cells) (d := d) (rest := rest) (e := 66) (i := (f + r)) rfl Sortr_ag66 Kn.vk1 Rg.enc WB rfl))<|?_
     refine Zw 20 Z (ZK 0 Z) (fun _ => (Y.idxN (f + r) rfl rfl Sortr_es33 W W)) ?_
     refine RunT.one (i := 21) WK rfl  ?_
     refine Run.stD (enc := Rg.cells) (d := d) (rest := rest) (e := 66) (i := (f + r)) (s := 0) (d[f + (((2 * r) + 1) + 1)]!) rfl rfl Sortr_sz66 rfl Rg.enc WB rfl<|Ze<|Zz 21<|?_
     refine RunT.one (i := 22) WK rfl  ?_
     refine Zv (Y.idxN (f + (((2 * r) + 1) + 1)) rfl rfl Sortr_es33 W W)<|Ze<|Zz 22<|?_
     refine RunT.one (i := 23) WK rfl  ?_
     refine Run.stD (enc := Rg.cells) (d := (d).setIfInBounds (f + r) (d[f + (((2 * r) + 1) + 1)]!)) (rest := rest) (e := 66) (i := (f + (((2 * r) + 1) + 1))) (s := 0) (d[f + r]!) rfl rfl Sortr_sz66 rfl Rg.enc WB rfl<|Run.heapTo (H' := [sgD Rg.cells 66 b rest (swp d (f + r) (f + (((2 * r) + 1) + 1)))]) Z<|Ze<|Zz 23<|RunT.done WK<|Zg<|Zr<|?_
     refine Zm Z<|Za Z<|Ze<|Zc<|?_
     exact ZR (⟨((2 * r) + 1) + 1,swp d (f + r) (f + (((2 * r) + 1) + 1))⟩ : Nat × Array Rg) ⟨by first | exact (sift_go2 W (by assumption) (by assumption)).symm.trans r1 | exact (sift_go1 W (by first | (left; omega) | (right; assumption)) (by assumption)).symm.trans r1,by simp only [swp_size]; exact r2,by (try dsimp only); omega⟩ (by dsimp only; omega)
    ·refine Tr.cond_t Z (congrArg Bool.not h4)<|Zu<|Zn<|Zk<|Zn<|Zk<|Ex.keep [0]<|?_
     exact Ex.ret0 rfl ⟨rfl,rfl,by rw [← r1]; first | rw [sift_end W]; rfl | rw [sift_stop2 W (by assumption) (by assumption)]; rfl | rw [sift_stop1 W (by first | (left; omega) | (right; assumption)) (by assumption)]; rfl⟩
   ·refine Tr.cond_f Z h3<|Zt<|Zg<|Zs<|Zs<|Tr.quiet Sortr_mo WK<|ZM Z<|ZM Z<|ZM Z<|ZM Z<|ZV (Y.addN ((f + r : Nat) : Int) rfl rfl W W)<|ZV (Y.idxN (f + r) rfl rfl Sortr_es33 W W)<|ZV (Y.ldA (enc := Rg.cells) (d := d) (rest := rest) (e := 66) (i := (f + r)) rfl Sortr_ag66 (Kn.at 0 rfl) Rg.enc WB rfl)<|ZM Z<|ZM Z<|ZM Z<|?_
    refine ZV (Y.addN ((f + ((2 * r) + 1) : Nat) : Int) rfl rfl W W)<|ZV (Y.idxN (f + ((2 * r) + 1)) rfl rfl Sortr_es33 W W)<|ZV (Y.ldA (enc := Rg.cells) (d := d) (rest := rest) (e := 66) (i := (f + ((2 * r) + 1))) rfl Sortr_ag66 (Kn.at 0 rfl) Rg.enc WB rfl)<|RunQ.call0 (l := [.tmp 49,.tmp 55]) Z Z Z (lt Z) ((hcmp (d[f + r]!) (d[f + ((2 * r) + 1)]!)).frame)<|?_
    refine ZV (Y.int Z Z Z)<|ZV (Y.not Z)<|ZE<|Zg<|?_
    rcases Zsplit (decide ((cm (d[f + r]!) (d[f + ((2 * r) + 1)]!)) < 0)) with ⟨h5,g5⟩ | ⟨h5,g5⟩ <;> try simp only [kb] at g5
    ·refine Tr.cond_f Z (congrArg Bool.not h5)<|Zt<|Zg<|Zs<|Tr.anyT [(b,.cells (cel Rg.cells d rest).toArray 66 (0,0))] 21 Sortr_mo<|Zwm 0 Z Z (ZK 0 Z)<|Zwm 1 Z Z (ZK 0 Z)<|Zwm 2 Z Z (ZK 0 Z)<|Zw 3 Z (ZK 0 Z) (fun _ => (Y.addN ((f + r : Nat) : Int) rfl rfl W W))<|Zwm 4 Z Z (ZK 0 Z)<|Zwm 5 Z Z (ZK 0 Z)<|Zwm 6 Z Z (ZK 0 Z)<|Zw 7 Z (ZK 0 Z) (fun _ => (Y.addN ((f + ((2 * r) + 1) : Nat) : Int) rfl rfl W W))<|?_
     refine Zwm 8 Z Z (ZK 0 Z)<|Zwm 9 Z Z (ZK 0 Z)<|Zwm 10 Z Z (ZK 0 Z)<|Zw 11 Z (ZK 0 Z) (fun _ => (Y.addN ((f + ((2 * r) + 1) : Nat) : Int) rfl rfl W W))<|Zw 12 Z (ZK 0 Z) (fun _ => (Y.idxN (f + ((2 * r) + 1)) rfl rfl Sortr_es33 W W))<|ZT 13 0 Z Z (ZK 0 Z) (fun _ => (Y.ldA (enc := Rg.cells) (d := d) (rest := rest) (e := 66) (i := (f + ((2 * r) + 1))) rfl Sortr_ag66 Kn.vk1 Rg.enc WB rfl))<|?_
     refine Zwm 14 Z Z (ZK 0 Z)<|Zwm 15 Z Z (ZK 0 Z)<|Zwm 16 Z Z (ZK 0 Z)<|Zw 17 Z (ZK 0 Z) (fun _ => (Y.addN ((f + r : Nat) : Int) rfl rfl W W))<|Zw 18 Z (ZK 0 Z) (fun _ => (Y.idxN (f + r) rfl rfl Sortr_es33 W W))<|ZT 19 0 Z Z (ZK 0 Z) (fun _ => (Y.ldA (enc := Rg.cells) (d := d) (rest := rest) (e := 66) (i := (f + r)) rfl Sortr_ag66 Kn.vk1 Rg.enc WB rfl))<|?_
     refine Zw 20 Z (ZK 0 Z) (fun _ => (Y.idxN (f + r) rfl rfl Sortr_es33 W W)) ?_
     refine RunT.one (i := 21) WK rfl  ?_
     refine Run.stD (enc := Rg.cells) (d := d) (rest := rest) (e := 66) (i := (f + r)) (s := 0) (d[f + ((2 * r) + 1)]!) rfl rfl Sortr_sz66 rfl Rg.enc WB rfl<|Ze<|Zz 21<|?_
     refine RunT.one (i := 22) WK rfl  ?_
     refine Zv (Y.idxN (f + ((2 * r) + 1)) rfl rfl Sortr_es33 W W)<|Ze<|Zz 22<|?_
     refine RunT.one (i := 23) WK rfl  ?_
     refine Run.stD (enc := Rg.cells) (d := (d).setIfInBounds (f + r) (d[f + ((2 * r) + 1)]!)) (rest := rest) (e := 66) (i := (f + ((2 * r) + 1))) (s := 0) (d[f + r]!) rfl rfl Sortr_sz66 rfl Rg.enc WB rfl<|Run.heapTo (H' := [sgD Rg.cells 66 b rest (swp d (f + r) (f + ((2 * r) + 1)))]) Z<|Ze<|Zz 23<|RunT.done WK<|Zg<|Zr<|Zm Z<|Za Z<|Ze<|Zc<|?_
     exact ZR (⟨(2 * r) + 1,swp d (f + r) (f + ((2 * r) + 1))⟩ : Nat × Array Rg) ⟨by first | exact (sift_go2 W (by assumption) (by assumption)).symm.trans r1 | exact (sift_go1 W (by first | (left; omega) | (right; assumption)) (by assumption)).symm.trans r1,by simp only [swp_size]; exact r2,by (try dsimp only); omega⟩ (by dsimp only; omega)
    ·refine Tr.cond_t Z (congrArg Bool.not h5)<|Zu<|Zn<|Zk<|Zn<|Zk<|Ex.keep [0]<|?_
     exact Ex.ret0 rfl ⟨rfl,rfl,by rw [← r1]; first | rw [sift_end W]; rfl | rw [sift_stop2 W (by assumption) (by assumption)]; rfl | rw [sift_stop1 W (by first | (left; omega) | (right; assumption)) (by assumption)]; rfl⟩
  ·refine ZO h2 Z<|ZO h2 Z<|ZO h2 Z<|ZO h2 Z<|ZO h2 Z<|ZO h2 Z<|ZO h2 Z<|ZO h2 Z<|ZO h2 Z<|ZO h2 Z<|ZO h2 Z<|ZO h2 Z<|ZO h2 Z<|ZO h2 Z<|ZO h2 Z<|ZO h2 Z<|?_
   refine ZV (Y.pick_f Z h2 Z)<|ZE<|Zg<|Tr.cond_f Z Z<|Zt<|Zg<|Zs<|Zs<|Tr.quiet Sortr_mo WK<|ZM Z<|ZM Z<|ZM Z<|ZM Z<|ZV (Y.addN ((f + r : Nat) : Int) rfl rfl W W)<|ZV (Y.idxN (f + r) rfl rfl Sortr_es33 W W)<|ZV (Y.ldA (enc := Rg.cells) (d := d) (rest := rest) (e := 66) (i := (f + r)) rfl Sortr_ag66 (Kn.at 0 rfl) Rg.enc WB rfl)<|?_
   refine ZM Z<|ZM Z<|ZM Z<|ZV (Y.addN ((f + ((2 * r) + 1) : Nat) : Int) rfl rfl W W)<|ZV (Y.idxN (f + ((2 * r) + 1)) rfl rfl Sortr_es33 W W)<|ZV (Y.ldA (enc := Rg.cells) (d := d) (rest := rest) (e := 66) (i := (f + ((2 * r) + 1))) rfl Sortr_ag66 (Kn.at 0 rfl) Rg.enc WB rfl)<|RunQ.call0 (l := [.tmp 49,.tmp 55]) Z Z Z (lt Z) ((hcmp (d[f + r]!) (d[f + ((2 * r) + 1)]!)).frame)<|?_
   refine ZV (Y.int Z Z Z)<|ZV (Y.not Z)<|ZE<|Zg<|?_
   rcases Zsplit (decide ((cm (d[f + r]!) (d[f + ((2 * r) + 1)]!)) < 0)) with ⟨h6,g6⟩ | ⟨h6,g6⟩ <;> try simp only [kb] at g6
   ·refine Tr.cond_f Z (congrArg Bool.not h6)<|Zt<|Zg<|Zs<|Tr.anyT [(b,.cells (cel Rg.cells d rest).toArray 66 (0,0))] 21 Sortr_mo<|Zwm 0 Z Z (ZK 0 Z)<|Zwm 1 Z Z (ZK 0 Z)<|Zwm 2 Z Z (ZK 0 Z)<|Zw 3 Z (ZK 0 Z) (fun _ => (Y.addN ((f + r : Nat) : Int) rfl rfl W W))<|Zwm 4 Z Z (ZK 0 Z)<|Zwm 5 Z Z (ZK 0 Z)<|Zwm 6 Z Z (ZK 0 Z)<|Zw 7 Z (ZK 0 Z) (fun _ => (Y.addN ((f + ((2 * r) + 1) : Nat) : Int) rfl rfl W W))<|?_
    refine Zwm 8 Z Z (ZK 0 Z)<|Zwm 9 Z Z (ZK 0 Z)<|Zwm 10 Z Z (ZK 0 Z)<|Zw 11 Z (ZK 0 Z) (fun _ => (Y.addN ((f + ((2 * r) + 1) : Nat) : Int) rfl rfl W W))<|Zw 12 Z (ZK 0 Z) (fun _ => (Y.idxN (f + ((2 * r) + 1)) rfl rfl Sortr_es33 W W))<|ZT 13 0 Z Z (ZK 0 Z) (fun _ => (Y.ldA (enc := Rg.cells) (d := d) (rest := rest) (e := 66) (i := (f + ((2 * r) + 1))) rfl Sortr_ag66 Kn.vk1 Rg.enc WB rfl))<|?_
    refine Zwm 14 Z Z (ZK 0 Z)<|Zwm 15 Z Z (ZK 0 Z)<|Zwm 16 Z Z (ZK 0 Z)<|Zw 17 Z (ZK 0 Z) (fun _ => (Y.addN ((f + r : Nat) : Int) rfl rfl W W))<|Zw 18 Z (ZK 0 Z) (fun _ => (Y.idxN (f + r) rfl rfl Sortr_es33 W W))<|ZT 19 0 Z Z (ZK 0 Z) (fun _ => (Y.ldA (enc := Rg.cells) (d := d) (rest := rest) (e := 66) (i := (f + r)) rfl Sortr_ag66 Kn.vk1 Rg.enc WB rfl))<|?_
    refine Zw 20 Z (ZK 0 Z) (fun _ => (Y.idxN (f + r) rfl rfl Sortr_es33 W W)) ?_
    refine RunT.one (i := 21) WK rfl  ?_
    refine Run.stD (enc := Rg.cells) (d := d) (rest := rest) (e := 66) (i := (f + r)) (s := 0) (d[f + ((2 * r) + 1)]!) rfl rfl Sortr_sz66 rfl Rg.enc WB rfl<|Ze<|Zz 21<|?_
    refine RunT.one (i := 22) WK rfl  ?_
    refine Zv (Y.idxN (f + ((2 * r) + 1)) rfl rfl Sortr_es33 W W)<|Ze<|Zz 22<|?_
    refine RunT.one (i := 23) WK rfl  ?_
    refine Run.stD (enc := Rg.cells) (d := (d).setIfInBounds (f + r) (d[f + ((2 * r) + 1)]!)) (rest := rest) (e := 66) (i := (f + ((2 * r) + 1))) (s := 0) (d[f + r]!) rfl rfl Sortr_sz66 rfl Rg.enc WB rfl<|Run.heapTo (H' := [sgD Rg.cells 66 b rest (swp d (f + r) (f + ((2 * r) + 1)))]) Z<|Ze<|Zz 23<|RunT.done WK<|Zg<|Zr<|Zm Z<|Za Z<|Ze<|Zc<|?_
    exact ZR (⟨(2 * r) + 1,swp d (f + r) (f + ((2 * r) + 1))⟩ : Nat × Array Rg) ⟨by first | exact (sift_go2 W (by assumption) (by assumption)).symm.trans r1 | exact (sift_go1 W (by first | (left; omega) | (right; assumption)) (by assumption)).symm.trans r1,by simp only [swp_size]; exact r2,by (try dsimp only); omega⟩ (by dsimp only; omega)
   ·refine Tr.cond_t Z (congrArg Bool.not h6)<|Zu<|Zn<|Zk<|Zn<|Zk<|Ex.keep [0]<|?_
    exact Ex.ret0 rfl ⟨rfl,rfl,by rw [← r1]; first | rw [sift_end W]; rfl | rw [sift_stop2 W (by assumption) (by assumption)]; rfl | rw [sift_stop1 W (by first | (left; omega) | (right; assumption)) (by assumption)]; rfl⟩
theorem heap_r {V : Vw} {n c b : Nat} {rest : List Value} {d0 : Array Rg} {gf : FuncId} {caps : List Value} {cm : Rg → Rg → Int} {x y : Nat}  (hN : n ≤ 1073741824) (hd : d0.size = n) (hx : x < y) (hy : y ≤ n)  (hcmp : ∀ x y : Rg,Does Tryz.prog gf (.agg (Rg.cells x).toArray :: .agg (Rg.cells y).toArray :: caps) V [] (Pv (.int .i64 (cm x y)) V [])) (hswo : SWO (ltc cm))  : Does Tryz.prog 189 [.slice (some ⟨b,0,none⟩) n c,.int .i64 ((x : Nat) : Int),.int .i64 ((y : Nat) : Int),.func (.func gf) #[] caps.toArray] V [sgD Rg.cells 66 b rest d0] (fun v V' H' => V' = V ∧ v = .tuple #[] ∧ H' = [sgD Rg.cells 66 b rest (heapSort (ltc cm) d0 x y)]) := by
 refine Does.intro Tryz.func189 rfl rfl (le rfl) (fun B => ?_)
 refine Zs<|Zr<|Zm Z<|Za Z<|Ze<|Zg<|Zs<|Zr<|Za Z<|Ze<|Zg<|Zs<|Zr<|Zm Z<|Zm Z<|Zv (Y.subN ((y - x : Nat) : Int) rfl rfl W W)<|?_
 refine Za Z<|Ze<|Zg<|Zs<|Zs<|Zr<|Zm Z<|Zv (Y.subN (((y - x) - 1 : Nat) : Int) rfl rfl W W)<|Zv (Y.quoN (m := (y - x) - 1) (n := 2) rfl rfl W W)<|Za Z<|Ze<|Zg<|Zb<|?_
 refine ZL (X := Int × Array Rg) (fun z0 => V) (fun z0 => [sgD Rg.cells 66 b rest z0.2]) (fun z0 => [(0,.slice (some ⟨b,0,none⟩) n c),(1,.int .i64 ((x : Nat) : Int)),(2,.int .i64 ((y : Nat) : Int)),(3,.func (.func gf) #[] caps.toArray),(8,.int .i64 ((x : Nat) : Int)),(9,.int .i64 0),(10,.int .i64 ((y - x : Nat) : Int)),(11,.int .i64 z0.1)]) (fun z0 => heapBuild (ltc cm) (y - x) x (z0.1 + 1).toNat z0.2 = heapBuild (ltc cm) (y - x) x ((y - x - 1) / 2 + 1) d0 ∧ z0.2.size = n ∧ -1 ≤ z0.1 ∧ z0.1 < ((y - x : Nat) : Int)) (fun z0 => (z0.1 + 1).toNat) (⟨(((y - x) - 1) / 2 : Nat),d0⟩ : Int × Array Rg) ⟨rfl,hd,by (try dsimp only); omega,by (try dsimp only); omega⟩ ?_
 rintro ⟨i,d⟩ ⟨r1,r2,r3,r4⟩
 try dsimp only at r1 r2 r3 r4 ⊢
 refine Zs<|Zs<|Zr<|Zm Z<|Zv (Y.int Z Z Z)<|Ze<|Zg<|?_
 rcases Zsplit (decide (i ≥ 0)) with ⟨h1,g1⟩ | ⟨h1,g1⟩ <;> try simp only [kb] at g1
 ·obtain ⟨k,rfl⟩ : ∃ k : Nat,i = (k : Int) := ⟨i.toNat,by omega⟩
  refine Tr.cond_t Z h1<|Zt<|Zg<|Zs<|Zb<|Zr<|Zm Z<|Zm Z<|Zm Z<|Zm Z<|Zm Z<|?_
  refine Run.call [0] (l := [.tmp 24,.tmp 25,.tmp 26,.tmp 27,.tmp 28]) rfl rfl rfl (lt rfl) (sift_r (l := k) (m := y - x) (f := x) (d0 := d) hN (by first | assumption | (simp only [swp_size,sift_sz]; assumption)) W W hcmp hswo) (fun v2 V2 H2 hle3 hR => ?_)
  obtain ⟨hV,rfl,rfl⟩ := hR; replace hV := hV.symm; subst hV
  refine Run.heapTo (H' := [sgD Rg.cells 66 b rest (siftDown (ltc cm) (y - x) x k d)]) Z<|Ze<|Zc<|Zg<|Zr<|Zm Z<|Zv (Y.sub Z Z W)<|Za Z<|Ze<|?_
  exact ZR (⟨(k : Int) - 1,siftDown (ltc cm) (y - x) x k d⟩ : Int × Array Rg) ⟨by dsimp only; rw [show ((k : Int) - 1 + 1).toNat = k by omega]; exact r1,by simp only [sift_sz]; exact r2,by (try dsimp only); omega,by (try dsimp only); omega⟩ (by dsimp only; omega)
 ·refine Tr.cond_f Z h1<|Zx<|Zy<|Zy<|Zi<|Zg<|Zs<|Zr<|Zm Z<|Zv (Y.subN (((y - x) - 1 : Nat) : Int) rfl rfl W W)<|Za Z<|Ze<|Zg<|Zb<|?_
  refine ZL (X := Int × Array Rg) (fun z0 => V) (fun z0 => [sgD Rg.cells 66 b rest z0.2]) (fun z0 => [(0,.slice (some ⟨b,0,none⟩) n c),(1,.int .i64 ((x : Nat) : Int)),(2,.int .i64 ((y : Nat) : Int)),(3,.func (.func gf) #[] caps.toArray),(8,.int .i64 ((x : Nat) : Int)),(9,.int .i64 0),(10,.int .i64 ((y - x : Nat) : Int)),(12,.int .i64 z0.1)]) (fun z0 => heapPop (ltc cm) x (z0.1 + 1).toNat z0.2 = heapSort (ltc cm) d0 x y ∧ z0.2.size = n ∧ -1 ≤ z0.1 ∧ z0.1 < ((y - x : Nat) : Int)) (fun z0 => (z0.1 + 1).toNat) (⟨((y - x) - 1 : Nat),d⟩ : Int × Array Rg) ⟨by dsimp only; rw [heapSort,← r1,show i = -1 by omega,show ((((y - x) - 1 : Nat) : Int) + 1).toNat = y - x by omega]; rfl,r2,by (try dsimp only); omega,by (try dsimp only); omega⟩ ?_
  rintro ⟨u,f⟩ ⟨k1,k2,k3,k4⟩
  try dsimp only at k1 k2 k3 k4 ⊢
  refine Zs<|Zs<|Zr<|Zm Z<|Zv (Y.int Z Z Z)<|Ze<|Zg<|?_
  rcases Zsplit (decide (u ≥ 0)) with ⟨h4,g4⟩ | ⟨h4,g4⟩ <;> try simp only [kb] at g4
  ·obtain ⟨k,rfl⟩ : ∃ k : Nat,u = (k : Int) := ⟨u.toNat,by omega⟩
   refine Tr.cond_t Z h4<|Zt<|Zg<|Zs<|Zb<|Zs<|Tr.anyT [(b,.cells (cel Rg.cells f rest).toArray 66 (0,0))] 17 Sortr_mo<|Zwm 0 Z Z (ZK 0 Z)<|Zwm 1 Z Z (ZK 0 Z)<|Zwm 2 Z Z (ZK 0 Z)<|Zwm 3 Z Z (ZK 0 Z)<|Zwm 4 Z Z (ZK 0 Z)<|Zw 5 Z (ZK 0 Z) (fun _ => (Y.addN ((x + k : Nat) : Int) rfl rfl W W))<|Zwm 6 Z Z (ZK 0 Z)<|Zwm 7 Z Z (ZK 0 Z)<|Zwm 8 Z Z (ZK 0 Z)<|?_
   refine Zw 9 Z (ZK 0 Z) (fun _ => (Y.addN ((x + k : Nat) : Int) rfl rfl W W))<|Zw 10 Z (ZK 0 Z) (fun _ => (Y.idxN (x + k) rfl rfl Sortr_es33 W W))<|ZT 11 0 Z Z (ZK 0 Z) (fun _ => (Y.ldA (enc := Rg.cells) (d := f) (rest := rest) (e := 66) (i := (x + k)) rfl Sortr_ag66 Kn.vk1 Rg.enc WB rfl))<|Zwm 12 Z Z (ZK 0 Z)<|?_
   refine Zwm 13 Z Z (ZK 0 Z)<|Zw 14 Z (ZK 0 Z) (fun _ => (Y.idxN x rfl rfl Sortr_es33 W W))<|ZT 15 0 Z Z (ZK 0 Z) (fun _ => (Y.ldA (enc := Rg.cells) (d := f) (rest := rest) (e := 66) (i := x) rfl Sortr_ag66 Kn.vk1 Rg.enc WB rfl))<|Zw 16 Z (ZK 0 Z) (fun _ => (Y.idxN x rfl rfl Sortr_es33 W W))<|?_
   refine RunT.one (i := 17) WK rfl  ?_
   refine Run.stD (enc := Rg.cells) (d := f) (rest := rest) (e := 66) (i := x) (s := 0) (f[x + k]!) rfl rfl Sortr_sz66 rfl Rg.enc WB rfl<|Ze<|Zz 17<|?_
   refine RunT.one (i := 18) WK rfl  ?_
   refine Zv (Y.idxN (x + k) rfl rfl Sortr_es33 W W)<|Ze<|Zz 18<|?_
   refine RunT.one (i := 19) WK rfl  ?_
   refine Run.stD (enc := Rg.cells) (d := (f).setIfInBounds x (f[x + k]!)) (rest := rest) (e := 66) (i := (x + k)) (s := 0) (f[x]!) rfl rfl Sortr_sz66 rfl Rg.enc WB rfl<|Run.heapTo (H' := [sgD Rg.cells 66 b rest (swp f x (x + k))]) Z<|Ze<|Zz 19<|RunT.done WK<|Zg<|Zr<|Zm Z<|Zm Z<|Zm Z<|Zm Z<|Zm Z<|?_
   refine Run.call [0] (l := [.tmp 54,.tmp 55,.tmp 56,.tmp 57,.tmp 58]) rfl rfl rfl (lt rfl) (sift_r (l := 0) (m := k) (f := x) (d0 := swp f x (x + k)) hN (by first | assumption | (simp only [swp_size,sift_sz]; assumption)) W W hcmp hswo) (fun v5 V2 H2 hle6 hR => ?_)
   obtain ⟨hV,rfl,rfl⟩ := hR; replace hV := hV.symm; subst hV
   refine Run.heapTo (H' := [sgD Rg.cells 66 b rest (siftDown (ltc cm) k x 0 (swp f x (x + k)))]) Z<|Ze<|Zc<|Zg<|Zr<|Zm Z<|Zv (Y.sub Z Z W)<|Za Z<|Ze<|?_
   exact ZR (⟨(k : Int) - 1,siftDown (ltc cm) k x 0 (swp f x (x + k))⟩ : Int × Array Rg) ⟨by dsimp only; rw [show ((k : Int) - 1 + 1).toNat = k by omega]; exact k1,by simp only [sift_sz,swp_size]; exact k2,by (try dsimp only); omega,by (try dsimp only); omega⟩ (by dsimp only; omega)
  ·refine Tr.cond_f Z h4<|Zx<|Zy<|Zy<|Zi<|Ex.keep [0]<|?_
   exact Ex.end0 rfl ⟨rfl,rfl,by rw [← k1,show u = -1 by omega]; rfl⟩
theorem rev_r {V : Vw} {n c b : Nat} {rest : List Value} {d0 : Array Rg} {gf : FuncId} {caps : List Value} {cm : Rg → Rg → Int} {x y : Nat}  (hN : n ≤ 1073741824) (hd : d0.size = n) (hx : x < y) (hy : y ≤ n)  (hcmp : ∀ x y : Rg,Does Tryz.prog gf (.agg (Rg.cells x).toArray :: .agg (Rg.cells y).toArray :: caps) V [] (Pv (.int .i64 (cm x y)) V [])) (hswo : SWO (ltc cm))  : Does Tryz.prog 192 [.slice (some ⟨b,0,none⟩) n c,.int .i64 ((x : Nat) : Int),.int .i64 ((y : Nat) : Int),.func (.func gf) #[] caps.toArray] V [sgD Rg.cells 66 b rest d0] (fun v V' H' => V' = V ∧ v = .tuple #[] ∧ H' = [sgD Rg.cells 66 b rest (reverseRange d0 x y)]) := by
 refine Does.intro Tryz.func192 rfl rfl (le rfl) (fun B => ?_)
 refine Zs<|Zr<|Zm Z<|Za Z<|Ze<|Zg<|Zs<|Zr<|Zm Z<|Zv (Y.subN ((y - 1 : Nat) : Int) rfl rfl W W)<|Za Z<|Ze<|Zg<|Zb<|?_
 refine ZL (X := Nat × Nat × Array Rg) (fun z0 => V) (fun z0 => [sgD Rg.cells 66 b rest z0.2.2]) (fun z0 => [(0,.slice (some ⟨b,0,none⟩) n c),(1,.int .i64 ((x : Nat) : Int)),(2,.int .i64 ((y : Nat) : Int)),(3,.func (.func gf) #[] caps.toArray),(8,.int .i64 ((z0.1 : Nat) : Int)),(9,.int .i64 ((z0.2.1 : Nat) : Int))]) (fun z0 => reverseLoop z0.1 z0.2.1 z0.2.2 = reverseRange d0 x y ∧ z0.2.2.size = n ∧ z0.2.1 < n) (fun z0 => z0.2.1 - z0.1) (⟨x,y - 1,d0⟩ : Nat × Nat × Array Rg) ⟨rfl,hd,by (try dsimp only); omega⟩ ?_
 rintro ⟨i,j,d⟩ ⟨r1,r2,r3⟩
 try dsimp only at r1 r2 r3 ⊢
 refine Zs<|Zs<|Zr<|Zm Z<|Zm Z<|Zv (Y.int Z Z Z)<|Ze<|Zg<|?_
 rcases Zsplit (decide (((i : Nat) : Int) < ((j : Nat) : Int))) with ⟨h1,g1⟩ | ⟨h1,g1⟩ <;> try simp only [kb] at g1
 ·refine Tr.cond_t Z h1<|Zt<|Zg<|Zb<|Zs<|Tr.anyT [(b,.cells (cel Rg.cells d rest).toArray 66 (0,0))] 13 Sortr_mo<|Zwm 0 Z Z (ZK 0 Z)<|Zwm 1 Z Z (ZK 0 Z)<|Zwm 2 Z Z (ZK 0 Z)<|Zwm 3 Z Z (ZK 0 Z)<|Zwm 4 Z Z (ZK 0 Z)<|Zwm 5 Z Z (ZK 0 Z)<|Zw 6 Z (ZK 0 Z) (fun _ => (Y.idxN j rfl rfl Sortr_es33 W W))<|ZT 7 0 Z Z (ZK 0 Z) (fun _ => (Y.ldA (enc := Rg.cells) (d := d) (rest := rest) (e := 66) (i := j) rfl Sortr_ag66 Kn.vk1 Rg.enc WB rfl))<|?_
  refine Zwm 8 Z Z (ZK 0 Z)<|Zwm 9 Z Z (ZK 0 Z)<|Zw 10 Z (ZK 0 Z) (fun _ => (Y.idxN i rfl rfl Sortr_es33 W W))<|ZT 11 0 Z Z (ZK 0 Z) (fun _ => (Y.ldA (enc := Rg.cells) (d := d) (rest := rest) (e := 66) (i := i) rfl Sortr_ag66 Kn.vk1 Rg.enc WB rfl))<|Zw 12 Z (ZK 0 Z) (fun _ => (Y.idxN i rfl rfl Sortr_es33 W W))<|?_
  refine RunT.one (i := 13) WK rfl  ?_
  refine Run.stD (enc := Rg.cells) (d := d) (rest := rest) (e := 66) (i := i) (s := 0) (d[j]!) rfl rfl Sortr_sz66 rfl Rg.enc WB rfl<|Ze<|Zz 13<|?_
  refine RunT.one (i := 14) WK rfl  ?_
  refine Zv (Y.idxN j Z Z Sortr_es33 W W)<|Ze<|Zz 14<|?_
  refine RunT.one (i := 15) WK rfl  ?_
  refine Run.stD (enc := Rg.cells) (d := (d).setIfInBounds i (d[j]!)) (rest := rest) (e := 66) (i := j) (s := 0) (d[i]!) rfl rfl Sortr_sz66 rfl Rg.enc WB rfl<|Run.heapTo (H' := [sgD Rg.cells 66 b rest (swp d i j)]) Z<|Ze<|Zz 15<|RunT.done WK<|Zg<|Zs<|Zr<|Zm Z<|Zv (Y.addN ((i + 1 : Nat) : Int) rfl rfl W W)<|Za Z<|Ze<|Zg<|Zr<|Zm Z<|Zv (Y.subN ((j - 1 : Nat) : Int) rfl rfl W W)<|?_
  refine Za Z<|Ze<|Zc<|?_
  exact ZR (⟨i + 1,j - 1,swp d i j⟩ : Nat × Nat × Array Rg) ⟨(reverseLoop_go W).symm.trans r1,by simp only [swp_size]; exact r2,by (try dsimp only); omega⟩ (by dsimp only; omega)
 ·refine Tr.cond_f Z h1<|Zx<|Zy<|Zy<|Zi<|Ex.keep [0]<|?_
  exact Ex.end0 rfl ⟨rfl,rfl,by rw [← r1,reverseLoop_stop W]; rfl⟩
theorem part_r {V : Vw} {n c b : Nat} {rest : List Value} {d0 : Array Rg} {gf : FuncId} {caps : List Value} {cm : Rg → Rg → Int} {x y p : Nat}  (hN : n ≤ 1073741824) (hd : d0.size = n) (hx : x ≤ p) (hp : p < y) (hy : y ≤ n)  (hcmp : ∀ x y : Rg,Does Tryz.prog gf (.agg (Rg.cells x).toArray :: .agg (Rg.cells y).toArray :: caps) V [] (Pv (.int .i64 (cm x y)) V [])) (hswo : SWO (ltc cm))  : Does Tryz.prog 195 [.slice (some ⟨b,0,none⟩) n c,.int .i64 ((x : Nat) : Int),.int .i64 ((y : Nat) : Int),.int .i64 ((p : Nat) : Int),.func (.func gf) #[] caps.toArray] V [sgD Rg.cells 66 b rest d0] (fun v V' H' => V' = V ∧ v = .tuple #[.int .i64 ((partition (ltc cm) d0 x y p).1 : Int),.bool (partition (ltc cm) d0 x y p).2.1] ∧ H' = [sgD Rg.cells 66 b rest ((partition (ltc cm) d0 x y p).2.2)]) := by
 refine Does.intro Tryz.func195 rfl rfl (le rfl) (fun B => ?_)
 refine Zs<|Zr<|Za Z<|Za Z<|Ze<|Zg<|Zs<|Tr.anyT [(b,.cells (cel Rg.cells d0 rest).toArray 66 (0,0))] 13 Sortr_mo<|Zwm 0 Z Z (ZK 0 Z)<|Zwm 1 Z Z (ZK 0 Z)<|Zwm 2 Z Z (ZK 0 Z)<|Zwm 3 Z Z (ZK 0 Z)<|Zwm 4 Z Z (ZK 0 Z)<|Zwm 5 Z Z (ZK 0 Z)<|Zw 6 Z (ZK 0 Z) (fun _ => (Y.idxN p rfl rfl Sortr_es33 W W))<|ZT 7 0 Z Z (ZK 0 Z) (fun _ => (Y.ldA (enc := Rg.cells) (d := d0) (rest := rest) (e := 66) (i := p) rfl Sortr_ag66 Kn.vk1 Rg.enc WB rfl))<|?_
 refine Zwm 8 Z Z (ZK 0 Z)<|Zwm 9 Z Z (ZK 0 Z)<|Zw 10 Z (ZK 0 Z) (fun _ => (Y.idxN x rfl rfl Sortr_es33 W W))<|ZT 11 0 Z Z (ZK 0 Z) (fun _ => (Y.ldA (enc := Rg.cells) (d := d0) (rest := rest) (e := 66) (i := x) rfl Sortr_ag66 Kn.vk1 Rg.enc WB rfl))<|Zw 12 Z (ZK 0 Z) (fun _ => (Y.idxN x rfl rfl Sortr_es33 W W))<|?_
 refine RunT.one (i := 13) WK rfl  ?_
 refine Run.stD (enc := Rg.cells) (d := d0) (rest := rest) (e := 66) (i := x) (s := 0) (d0[p]!) rfl rfl Sortr_sz66 rfl Rg.enc WB rfl<|Ze<|Zz 13<|?_
 refine RunT.one (i := 14) WK rfl  ?_
 refine Zv (Y.idxN p Z Z Sortr_es33 W W)<|Ze<|Zz 14<|?_
 refine RunT.one (i := 15) WK rfl  ?_
 refine Run.stD (enc := Rg.cells) (d := (d0).setIfInBounds x (d0[p]!)) (rest := rest) (e := 66) (i := p) (s := 0) (d0[x]!) rfl rfl Sortr_sz66 rfl Rg.enc WB rfl<|Run.heapTo (H' := [sgD Rg.cells 66 b rest (swp d0 x p)]) Z<|Ze<|Zz 15<|RunT.done WK<|Zg<|Zs<|Zr<|?_
 obtain ⟨d1,hd1⟩ : ∃ z,swp d0 x p = z := ⟨_,rfl⟩
 rw [hd1]
 have sd1 : d1.size = n := by rw [← hd1]; rw [swp_size]; exact hd
 refine Zm Z<|Zv (Y.addN ((x + 1 : Nat) : Int) rfl rfl W W)<|Zm Z<|Zv (Y.subN ((y - 1 : Nat) : Int) rfl rfl W W)<|Za Z<|Za Z<|Ze<|Zg<|?_
 refine Tr.cutx (X := Nat) (fun i1 => V) (fun i1 => [sgD Rg.cells 66 b rest d1]) (fun i1 => [(0,.slice (some ⟨b,0,none⟩) n c),(1,.int .i64 ((x : Nat) : Int)),(2,.int .i64 ((y : Nat) : Int)),(3,.int .i64 ((p : Nat) : Int)),(4,.func (.func gf) #[] caps.toArray),(10,.int .i64 0),(11,.bool false),(12,.int .i64 ((i1 : Nat) : Int)),(13,.int .i64 ((y - 1 : Nat) : Int))]) (fun i1 => up1 (ltc cm) d1 x (y - 1) (x + 1) = i1 ∧ x < i1 ∧ i1 ≤ y) ?_ ?_
 ·refine Zb ?_
  refine ZL (X := Nat) (fun z0 => V) (fun z0 => [sgD Rg.cells 66 b rest d1]) (fun z0 => [(0,.slice (some ⟨b,0,none⟩) n c),(1,.int .i64 ((x : Nat) : Int)),(2,.int .i64 ((y : Nat) : Int)),(3,.int .i64 ((p : Nat) : Int)),(4,.func (.func gf) #[] caps.toArray),(10,.int .i64 0),(11,.bool false),(12,.int .i64 ((z0 : Nat) : Int)),(13,.int .i64 ((y - 1 : Nat) : Int))]) (fun z0 => up1 (ltc cm) d1 x (y - 1) z0 = up1 (ltc cm) d1 x (y - 1) (x + 1) ∧ x < z0 ∧ z0 ≤ y) (fun z0 => y - z0) (x + 1 : Nat) ⟨rfl,by omega,by omega⟩ ?_
  rintro i ⟨r1,r2,r3⟩
  try dsimp only at r1 r2 r3 ⊢
  refine Zs<|Zs<|Tr.quiet Sortr_mo WK<|ZM Z<|ZM Z<|ZV (Y.int Z Z Z)<|ZM Z<|?_
  rcases Zsplit (decide (((i : Nat) : Int) ≤ ((y - 1 : Nat) : Int))) with ⟨h1,g1⟩ | ⟨h1,g1⟩ <;> try simp only [kb] at g1
  ·refine ZP h1<|ZM Z<|ZP h1<|ZM Z<|ZP h1<|ZM Z<|ZP h1<|ZV (Y.idxN i Z Z Sortr_es33 W W)<|ZP h1<|ZV (Y.ldA (enc := Rg.cells) (d := d1) (rest := rest) (e := 66) (i := i) Z Sortr_ag66 (Kn.at 0 rfl) Rg.enc WB rfl)<|ZP h1<|ZM Z<|ZP h1<|ZM Z<|ZP h1<|ZV (Y.idxN x Z Z Sortr_es33 W W)<|?_
   refine ZP h1<|ZV (Y.ldA (enc := Rg.cells) (d := d1) (rest := rest) (e := 66) (i := x) Z Sortr_ag66 (Kn.at 0 rfl) Rg.enc WB rfl)<|ZP h1<|RunQ.call0 (l := [.tmp 40,.tmp 44]) Z Z Z (lt Z) ((hcmp (d1[i]!) (d1[x]!)).frame)<|ZP h1<|ZV (Y.int Z Z Z)<|ZV (Y.pick_t Z h1 Z)<|ZE<|Zg<|?_
   rcases Zsplit (decide ((cm (d1[i]!) (d1[x]!)) < 0)) with ⟨h2,g2⟩ | ⟨h2,g2⟩ <;> try simp only [kb] at g2
   ·refine Tr.cond_t Z h2<|Zt<|Zg<|Zb<|Zr<|Zm Z<|Zv (Y.addN ((i + 1 : Nat) : Int) rfl rfl W W)<|Za Z<|Ze<|Zc<|?_
    exact ZR (i + 1 : Nat) ⟨(up1_go W (by assumption)).trans r1,by omega,by omega⟩ W
   ·refine Tr.cond_f Z h2<|Zx<|Zy<|Zy<|Zi<|?_
    exact ZX i ⟨r1.symm.trans (up1_stop (by first | (left; omega) | (right; assumption))),r2,r3⟩
  ·refine ZO h1 Z<|ZO h1 Z<|ZO h1 Z<|ZO h1 Z<|ZO h1 Z<|ZO h1 Z<|ZO h1 Z<|ZO h1 Z<|ZO h1 Z<|ZO h1 Z<|ZO h1 Z<|ZV (Y.pick_f Z h1 Z)<|ZE<|Zg<|Tr.cond_f Z Z<|Zx<|?_
   refine Zy<|Zy<|Zi<|?_
   exact ZX i ⟨r1.symm.trans (up1_stop (by first | (left; omega) | (right; assumption))),r2,r3⟩
 ·rintro i1 ⟨c1,c2,c3⟩
  refine Tr.cutx (X := Nat) (fun j1 => V) (fun j1 => [sgD Rg.cells 66 b rest d1]) (fun j1 => [(0,.slice (some ⟨b,0,none⟩) n c),(1,.int .i64 ((x : Nat) : Int)),(2,.int .i64 ((y : Nat) : Int)),(3,.int .i64 ((p : Nat) : Int)),(4,.func (.func gf) #[] caps.toArray),(10,.int .i64 0),(11,.bool false),(12,.int .i64 ((i1 : Nat) : Int)),(13,.int .i64 ((j1 : Nat) : Int))]) (fun j1 => dn1 (ltc cm) d1 x i1 (y - 1) = j1 ∧ i1 ≤ j1 + 1 ∧ j1 < y) ?_ ?_
  ·refine Zb ?_
   refine ZL (X := Nat) (fun z0 => V) (fun z0 => [sgD Rg.cells 66 b rest d1]) (fun z0 => [(0,.slice (some ⟨b,0,none⟩) n c),(1,.int .i64 ((x : Nat) : Int)),(2,.int .i64 ((y : Nat) : Int)),(3,.int .i64 ((p : Nat) : Int)),(4,.func (.func gf) #[] caps.toArray),(10,.int .i64 0),(11,.bool false),(12,.int .i64 ((i1 : Nat) : Int)),(13,.int .i64 ((z0 : Nat) : Int))]) (fun z0 => dn1 (ltc cm) d1 x i1 z0 = dn1 (ltc cm) d1 x i1 (y - 1) ∧ i1 ≤ z0 + 1 ∧ z0 < y) (fun z0 => z0) (y - 1 : Nat) ⟨rfl,by omega,by omega⟩ ?_
   rintro j ⟨q1,q2,q3⟩
   try dsimp only at q1 q2 q3 ⊢
   refine Zs<|Zs<|Tr.quiet Sortr_mo WK<|ZM Z<|ZM Z<|ZV (Y.int Z Z Z)<|ZM Z<|?_
   rcases Zsplit (decide (((i1 : Nat) : Int) ≤ ((j : Nat) : Int))) with ⟨h3,g3⟩ | ⟨h3,g3⟩ <;> try simp only [kb] at g3
   ·refine ZP h3<|ZM Z<|ZP h3<|ZM Z<|ZP h3<|ZM Z<|ZP h3<|ZV (Y.idxN j Z Z Sortr_es33 W W)<|ZP h3<|ZV (Y.ldA (enc := Rg.cells) (d := d1) (rest := rest) (e := 66) (i := j) Z Sortr_ag66 (Kn.at 0 rfl) Rg.enc WB rfl)<|ZP h3<|ZM Z<|ZP h3<|ZM Z<|ZP h3<|ZV (Y.idxN x Z Z Sortr_es33 W W)<|?_
    refine ZP h3<|ZV (Y.ldA (enc := Rg.cells) (d := d1) (rest := rest) (e := 66) (i := x) Z Sortr_ag66 (Kn.at 0 rfl) Rg.enc WB rfl)<|ZP h3<|RunQ.call0 (l := [.tmp 58,.tmp 62]) Z Z Z (lt Z) ((hcmp (d1[j]!) (d1[x]!)).frame)<|ZP h3<|ZV (Y.int Z Z Z)<|ZP h3<|ZV (Y.not Z)<|ZV (Y.pick_t Z h3 Z)<|ZE<|Zg<|?_
    rcases Zsplit (decide ((cm (d1[j]!) (d1[x]!)) < 0)) with ⟨h4,g4⟩ | ⟨h4,g4⟩ <;> try simp only [kb] at g4
    ·refine Tr.cond_f Z (congrArg Bool.not h4)<|Zx<|Zy<|Zy<|Zi<|?_
     exact ZX j ⟨q1.symm.trans (dn1_stop W (by first | (left; omega) | (right; assumption))),q2,q3⟩
    ·refine Tr.cond_t Z (congrArg Bool.not h4)<|Zt<|Zg<|Zb<|Zr<|Zm Z<|Zv (Y.subN ((j - 1 : Nat) : Int) rfl rfl W W)<|Za Z<|Ze<|Zc<|?_
     exact ZR (j - 1 : Nat) ⟨(dn1_go W W (by assumption)).trans q1,by omega,by omega⟩ W
   ·refine ZO h3 Z<|ZO h3 Z<|ZO h3 Z<|ZO h3 Z<|ZO h3 Z<|ZO h3 Z<|ZO h3 Z<|ZO h3 Z<|ZO h3 Z<|ZO h3 Z<|ZO h3 Z<|ZO h3 Z<|ZV (Y.pick_f Z h3 Z)<|ZE<|Zg<|Tr.cond_f Z Z<|?_
    refine Zx<|Zy<|Zy<|Zi<|?_
    exact ZX j ⟨q1.symm.trans (dn1_stop W (by first | (left; omega) | (right; assumption))),q2,q3⟩
  ·rintro j1 ⟨e1,e2,e3⟩
   refine Zs<|Zs<|Zr<|Zm Z<|Zm Z<|Zv (Y.int Z Z Z)<|Ze<|Zg<|?_
   rcases Zsplit (decide (((i1 : Nat) : Int) > ((j1 : Nat) : Int))) with ⟨h5,g5⟩ | ⟨h5,g5⟩ <;> try simp only [kb] at g5
   ·refine Tr.cond_t Z h5<|Zs<|Tr.anyT [(b,.cells (cel Rg.cells d1 rest).toArray 66 (0,0))] 13 Sortr_mo<|Zwm 0 Z Z (ZK 0 Z)<|Zwm 1 Z Z (ZK 0 Z)<|Zwm 2 Z Z (ZK 0 Z)<|Zwm 3 Z Z (ZK 0 Z)<|Zwm 4 Z Z (ZK 0 Z)<|Zwm 5 Z Z (ZK 0 Z)<|Zw 6 Z (ZK 0 Z) (fun _ => (Y.idxN x rfl rfl Sortr_es33 W W))<|ZT 7 0 Z Z (ZK 0 Z) (fun _ => (Y.ldA (enc := Rg.cells) (d := d1) (rest := rest) (e := 66) (i := x) rfl Sortr_ag66 Kn.vk1 Rg.enc WB rfl))<|?_
    refine Zwm 8 Z Z (ZK 0 Z)<|Zwm 9 Z Z (ZK 0 Z)<|Zw 10 Z (ZK 0 Z) (fun _ => (Y.idxN j1 rfl rfl Sortr_es33 W W))<|ZT 11 0 Z Z (ZK 0 Z) (fun _ => (Y.ldA (enc := Rg.cells) (d := d1) (rest := rest) (e := 66) (i := j1) rfl Sortr_ag66 Kn.vk1 Rg.enc WB rfl))<|Zw 12 Z (ZK 0 Z) (fun _ => (Y.idxN j1 rfl rfl Sortr_es33 W W))<|?_
    refine RunT.one (i := 13) WK rfl  ?_
    refine Run.stD (enc := Rg.cells) (d := d1) (rest := rest) (e := 66) (i := j1) (s := 0) (d1[x]!) rfl rfl Sortr_sz66 rfl Rg.enc WB rfl<|Ze<|Zz 13<|?_
    refine RunT.one (i := 14) WK rfl  ?_
    refine Zv (Y.idxN x Z Z Sortr_es33 W W)<|Ze<|Zz 14<|?_
    refine RunT.one (i := 15) WK rfl  ?_
    refine Run.stD (enc := Rg.cells) (d := (d1).setIfInBounds j1 (d1[x]!)) (rest := rest) (e := 66) (i := x) (s := 0) (d1[j1]!) rfl rfl Sortr_sz66 rfl Rg.enc WB rfl<|Run.heapTo (H' := [sgD Rg.cells 66 b rest (swp d1 j1 x)]) Z<|Ze<|Zz 15<|RunT.done WK<|Zg<|Zs<|Zr<|Zm Z<|Za Z<|Za Z<|Ze<|Zg<|Zu<|Zn<|Ex.keep [0]<|?_
    exact Ex.ret2 rfl rfl rfl  ⟨rfl,by subst hd1; rw [partition_one c1 e1 W],by subst hd1; rw [partition_one c1 e1 W]; rfl⟩
   ·refine Tr.cond_f Z h5<|Zt<|Zg<|Zs<|Tr.anyT [(b,.cells (cel Rg.cells d1 rest).toArray 66 (0,0))] 13 Sortr_mo<|Zwm 0 Z Z (ZK 0 Z)<|Zwm 1 Z Z (ZK 0 Z)<|Zwm 2 Z Z (ZK 0 Z)<|Zwm 3 Z Z (ZK 0 Z)<|Zwm 4 Z Z (ZK 0 Z)<|Zwm 5 Z Z (ZK 0 Z)<|Zw 6 Z (ZK 0 Z) (fun _ => (Y.idxN j1 rfl rfl Sortr_es33 W W))<|ZT 7 0 Z Z (ZK 0 Z) (fun _ => (Y.ldA (enc := Rg.cells) (d := d1) (rest := rest) (e := 66) (i := j1) rfl Sortr_ag66 Kn.vk1 Rg.enc WB rfl))<|?_
    refine Zwm 8 Z Z (ZK 0 Z)<|Zwm 9 Z Z (ZK 0 Z)<|Zw 10 Z (ZK 0 Z) (fun _ => (Y.idxN i1 rfl rfl Sortr_es33 W W))<|ZT 11 0 Z Z (ZK 0 Z) (fun _ => (Y.ldA (enc := Rg.cells) (d := d1) (rest := rest) (e := 66) (i := i1) rfl Sortr_ag66 Kn.vk1 Rg.enc WB rfl))<|Zw 12 Z (ZK 0 Z) (fun _ => (Y.idxN i1 rfl rfl Sortr_es33 W W))<|?_
    refine RunT.one (i := 13) WK rfl  ?_
    refine Run.stD (enc := Rg.cells) (d := d1) (rest := rest) (e := 66) (i := i1) (s := 0) (d1[j1]!) rfl rfl Sortr_sz66 rfl Rg.enc WB rfl<|Ze<|Zz 13<|?_
    refine RunT.one (i := 14) WK rfl  ?_
    refine Zv (Y.idxN j1 Z Z Sortr_es33 W W)<|Ze<|Zz 14<|?_
    refine RunT.one (i := 15) WK rfl  ?_
    refine Run.stD (enc := Rg.cells) (d := (d1).setIfInBounds i1 (d1[j1]!)) (rest := rest) (e := 66) (i := j1) (s := 0) (d1[i1]!) rfl rfl Sortr_sz66 rfl Rg.enc WB rfl<|Run.heapTo (H' := [sgD Rg.cells 66 b rest (swp d1 i1 j1)]) Z<|Ze<|Zz 15<|RunT.done WK<|Zg<|Zs<|Zr<|?_
    have hx1 := cross1 c1 e1 W W W
    refine Zm Z<|Zv (Y.addN ((i1 + 1 : Nat) : Int) rfl rfl W W)<|Za Z<|Ze<|Zg<|Zs<|Zr<|Zm Z<|Zv (Y.subN ((j1 - 1 : Nat) : Int) rfl rfl W W)<|Za Z<|Ze<|Zg<|Zs<|Zb<|?_
    refine ZL (X := Nat × Nat × Array Rg) (fun z0 => V) (fun z0 => [sgD Rg.cells 66 b rest z0.2.2]) (fun z0 => [(0,.slice (some ⟨b,0,none⟩) n c),(1,.int .i64 ((x : Nat) : Int)),(2,.int .i64 ((y : Nat) : Int)),(3,.int .i64 ((p : Nat) : Int)),(4,.func (.func gf) #[] caps.toArray),(10,.int .i64 0),(11,.bool false),(12,.int .i64 ((z0.1 : Nat) : Int)),(13,.int .i64 ((z0.2.1 : Nat) : Int))]) (fun z0 => partLoop (ltc cm) x z0.1 z0.2.1 z0.2.2 = partLoop (ltc cm) x (i1 + 1) (j1 - 1) (swp d1 i1 j1) ∧ z0.2.2.size = n ∧ x < z0.1 ∧ z0.1 ≤ z0.2.1 + 1 ∧ z0.2.1 < y) (fun z0 => z0.2.1 + 1 - z0.1) (⟨i1 + 1,j1 - 1,swp d1 i1 j1⟩ : Nat × Nat × Array Rg) ⟨rfl,by simp only [swp_size]; exact sd1,by (try dsimp only); omega,by (try dsimp only); omega,by (try dsimp only); omega⟩ ?_
    rintro ⟨i,j,d⟩ ⟨k1,k2,k3,k4,k5⟩
    try dsimp only at k1 k2 k3 k4 k5 ⊢
    refine Zb ?_
    refine Tr.cutx (X := Nat) (fun i2 => V) (fun i2 => [sgD Rg.cells 66 b rest d]) (fun i2 => [(0,.slice (some ⟨b,0,none⟩) n c),(1,.int .i64 ((x : Nat) : Int)),(2,.int .i64 ((y : Nat) : Int)),(3,.int .i64 ((p : Nat) : Int)),(4,.func (.func gf) #[] caps.toArray),(10,.int .i64 0),(11,.bool false),(12,.int .i64 ((i2 : Nat) : Int)),(13,.int .i64 ((j : Nat) : Int))]) (fun i2 => up1 (ltc cm) d x j i = i2 ∧ i ≤ i2 ∧ i2 ≤ j + 1) ?_ ?_
    ·refine Zb ?_
     refine ZL (X := Nat) (fun z0 => V) (fun z0 => [sgD Rg.cells 66 b rest d]) (fun z0 => [(0,.slice (some ⟨b,0,none⟩) n c),(1,.int .i64 ((x : Nat) : Int)),(2,.int .i64 ((y : Nat) : Int)),(3,.int .i64 ((p : Nat) : Int)),(4,.func (.func gf) #[] caps.toArray),(10,.int .i64 0),(11,.bool false),(12,.int .i64 ((z0 : Nat) : Int)),(13,.int .i64 ((j : Nat) : Int))]) (fun z0 => up1 (ltc cm) d x j z0 = up1 (ltc cm) d x j i ∧ i ≤ z0 ∧ z0 ≤ j + 1) (fun z0 => j + 1 - z0) (i : Nat) ⟨rfl,Nat.le_refl _,by omega⟩ ?_
     rintro u ⟨m1,m2,m3⟩
     try dsimp only at m1 m2 m3 ⊢
     refine Zs<|Zs<|Tr.quiet Sortr_mo WK<|ZM Z<|ZM Z<|ZV (Y.int Z Z Z)<|ZM Z<|?_
     rcases Zsplit (decide (((u : Nat) : Int) ≤ ((j : Nat) : Int))) with ⟨h6,g6⟩ | ⟨h6,g6⟩ <;> try simp only [kb] at g6
     ·refine ZP h6<|ZM Z<|ZP h6<|ZM Z<|ZP h6<|ZM Z<|ZP h6<|ZV (Y.idxN u Z Z Sortr_es33 W W)<|ZP h6<|ZV (Y.ldA (enc := Rg.cells) (d := d) (rest := rest) (e := 66) (i := u) Z Sortr_ag66 (Kn.at 0 rfl) Rg.enc WB rfl)<|ZP h6<|ZM Z<|ZP h6<|ZM Z<|ZP h6<|ZV (Y.idxN x Z Z Sortr_es33 W W)<|?_
      refine ZP h6<|ZV (Y.ldA (enc := Rg.cells) (d := d) (rest := rest) (e := 66) (i := x) Z Sortr_ag66 (Kn.at 0 rfl) Rg.enc WB rfl)<|ZP h6<|RunQ.call0 (l := [.tmp 113,.tmp 117]) Z Z Z (lt Z) ((hcmp (d[u]!) (d[x]!)).frame)<|ZP h6<|ZV (Y.int Z Z Z)<|ZV (Y.pick_t Z h6 Z)<|ZE<|Zg<|?_
      rcases Zsplit (decide ((cm (d[u]!) (d[x]!)) < 0)) with ⟨h7,g7⟩ | ⟨h7,g7⟩ <;> try simp only [kb] at g7
      ·refine Tr.cond_t Z h7<|Zt<|Zg<|Zb<|Zr<|Zm Z<|Zv (Y.addN ((u + 1 : Nat) : Int) rfl rfl W W)<|Za Z<|Ze<|Zc<|?_
       exact ZR (u + 1 : Nat) ⟨(up1_go W (by assumption)).trans m1,by omega,by omega⟩ W
      ·refine Tr.cond_f Z h7<|Zx<|Zy<|Zy<|Zi<|?_
       exact ZX u ⟨m1.symm.trans (up1_stop (by first | (left; omega) | (right; assumption))),m2,m3⟩
     ·refine ZO h6 Z<|ZO h6 Z<|ZO h6 Z<|ZO h6 Z<|ZO h6 Z<|ZO h6 Z<|ZO h6 Z<|ZO h6 Z<|ZO h6 Z<|ZO h6 Z<|ZO h6 Z<|ZV (Y.pick_f Z h6 Z)<|ZE<|Zg<|Tr.cond_f Z Z<|Zx<|?_
      refine Zy<|Zy<|Zi<|?_
      exact ZX u ⟨m1.symm.trans (up1_stop (by first | (left; omega) | (right; assumption))),m2,m3⟩
    ·rintro i2 ⟨f1,f2,f3⟩
     refine Tr.cutx (X := Nat) (fun j2 => V) (fun j2 => [sgD Rg.cells 66 b rest d]) (fun j2 => [(0,.slice (some ⟨b,0,none⟩) n c),(1,.int .i64 ((x : Nat) : Int)),(2,.int .i64 ((y : Nat) : Int)),(3,.int .i64 ((p : Nat) : Int)),(4,.func (.func gf) #[] caps.toArray),(10,.int .i64 0),(11,.bool false),(12,.int .i64 ((i2 : Nat) : Int)),(13,.int .i64 ((j2 : Nat) : Int))]) (fun j2 => dn1 (ltc cm) d x i2 j = j2 ∧ i2 ≤ j2 + 1 ∧ j2 ≤ j) ?_ ?_
     ·refine Zb ?_
      refine ZL (X := Nat) (fun z0 => V) (fun z0 => [sgD Rg.cells 66 b rest d]) (fun z0 => [(0,.slice (some ⟨b,0,none⟩) n c),(1,.int .i64 ((x : Nat) : Int)),(2,.int .i64 ((y : Nat) : Int)),(3,.int .i64 ((p : Nat) : Int)),(4,.func (.func gf) #[] caps.toArray),(10,.int .i64 0),(11,.bool false),(12,.int .i64 ((i2 : Nat) : Int)),(13,.int .i64 ((z0 : Nat) : Int))]) (fun z0 => dn1 (ltc cm) d x i2 z0 = dn1 (ltc cm) d x i2 j ∧ i2 ≤ z0 + 1 ∧ z0 ≤ j) (fun z0 => z0) (j : Nat) ⟨rfl,by omega,Nat.le_refl _⟩ ?_
      rintro t ⟨n1,n2,n3⟩
      try dsimp only at n1 n2 n3 ⊢
      refine Zs<|Zs<|Tr.quiet Sortr_mo WK<|ZM Z<|ZM Z<|ZV (Y.int Z Z Z)<|ZM Z<|?_
      rcases Zsplit (decide (((i2 : Nat) : Int) ≤ ((t : Nat) : Int))) with ⟨h8,g8⟩ | ⟨h8,g8⟩ <;> try simp only [kb] at g8
      ·refine ZP h8<|ZM Z<|ZP h8<|ZM Z<|ZP h8<|ZM Z<|ZP h8<|ZV (Y.idxN t Z Z Sortr_es33 W W)<|ZP h8<|ZV (Y.ldA (enc := Rg.cells) (d := d) (rest := rest) (e := 66) (i := t) Z Sortr_ag66 (Kn.at 0 rfl) Rg.enc WB rfl)<|ZP h8<|ZM Z<|ZP h8<|ZM Z<|ZP h8<|ZV (Y.idxN x Z Z Sortr_es33 W W)<|?_
       refine ZP h8<|ZV (Y.ldA (enc := Rg.cells) (d := d) (rest := rest) (e := 66) (i := x) Z Sortr_ag66 (Kn.at 0 rfl) Rg.enc WB rfl)<|ZP h8<|RunQ.call0 (l := [.tmp 131,.tmp 135]) Z Z Z (lt Z) ((hcmp (d[t]!) (d[x]!)).frame)<|ZP h8<|ZV (Y.int Z Z Z)<|ZP h8<|ZV (Y.not Z)<|ZV (Y.pick_t Z h8 Z)<|ZE<|Zg<|?_
       rcases Zsplit (decide ((cm (d[t]!) (d[x]!)) < 0)) with ⟨h9,g9⟩ | ⟨h9,g9⟩ <;> try simp only [kb] at g9
       ·refine Tr.cond_f Z (congrArg Bool.not h9)<|Zx<|Zy<|Zy<|Zi<|?_
        exact ZX t ⟨n1.symm.trans (dn1_stop W (by first | (left; omega) | (right; assumption))),n2,n3⟩
       ·refine Tr.cond_t Z (congrArg Bool.not h9)<|Zt<|Zg<|Zb<|Zr<|Zm Z<|Zv (Y.subN ((t - 1 : Nat) : Int) rfl rfl W W)<|Za Z<|Ze<|Zc<|?_
        exact ZR (t - 1 : Nat) ⟨(dn1_go W W (by assumption)).trans n1,by omega,by omega⟩ W
      ·refine ZO h8 Z<|ZO h8 Z<|ZO h8 Z<|ZO h8 Z<|ZO h8 Z<|ZO h8 Z<|ZO h8 Z<|ZO h8 Z<|ZO h8 Z<|ZO h8 Z<|ZO h8 Z<|ZO h8 Z<|ZV (Y.pick_f Z h8 Z)<|ZE<|Zg<|Tr.cond_f Z Z<|?_
       refine Zx<|Zy<|Zy<|Zi<|?_
       exact ZX t ⟨n1.symm.trans (dn1_stop W (by first | (left; omega) | (right; assumption))),n2,n3⟩
     ·rintro j2 ⟨g1,g2,g3⟩
      refine Zs<|Zs<|Zr<|Zm Z<|Zm Z<|Zv (Y.int Z Z Z)<|Ze<|Zg<|?_
      rcases Zsplit (decide (((i2 : Nat) : Int) > ((j2 : Nat) : Int))) with ⟨h10,g10⟩ | ⟨h10,g10⟩ <;> try simp only [kb] at g10
      ·refine Tr.cond_t Z h10<|Zx<|Zy<|Ex.exit_out Z<|Zy<|Zi<|Zg<|Zs<|Tr.anyT [(b,.cells (cel Rg.cells d rest).toArray 66 (0,0))] 13 Sortr_mo<|Zwm 0 Z Z (ZK 0 Z)<|Zwm 1 Z Z (ZK 0 Z)<|Zwm 2 Z Z (ZK 0 Z)<|Zwm 3 Z Z (ZK 0 Z)<|Zwm 4 Z Z (ZK 0 Z)<|Zwm 5 Z Z (ZK 0 Z)<|Zw 6 Z (ZK 0 Z) (fun _ => (Y.idxN x rfl rfl Sortr_es33 W W))<|?_
       refine ZT 7 0 Z Z (ZK 0 Z) (fun _ => (Y.ldA (enc := Rg.cells) (d := d) (rest := rest) (e := 66) (i := x) rfl Sortr_ag66 Kn.vk1 Rg.enc WB rfl))<|Zwm 8 Z Z (ZK 0 Z)<|Zwm 9 Z Z (ZK 0 Z)<|Zw 10 Z (ZK 0 Z) (fun _ => (Y.idxN j2 rfl rfl Sortr_es33 W W))<|ZT 11 0 Z Z (ZK 0 Z) (fun _ => (Y.ldA (enc := Rg.cells) (d := d) (rest := rest) (e := 66) (i := j2) rfl Sortr_ag66 Kn.vk1 Rg.enc WB rfl))<|?_
       refine Zw 12 Z (ZK 0 Z) (fun _ => (Y.idxN j2 rfl rfl Sortr_es33 W W)) ?_
       refine RunT.one (i := 13) WK rfl  ?_
       refine Run.stD (enc := Rg.cells) (d := d) (rest := rest) (e := 66) (i := j2) (s := 0) (d[x]!) rfl rfl Sortr_sz66 rfl Rg.enc WB rfl<|Ze<|Zz 13<|?_
       refine RunT.one (i := 14) WK rfl  ?_
       refine Zv (Y.idxN x Z Z Sortr_es33 W W)<|Ze<|Zz 14<|?_
       refine RunT.one (i := 15) WK rfl  ?_
       refine Run.stD (enc := Rg.cells) (d := (d).setIfInBounds j2 (d[x]!)) (rest := rest) (e := 66) (i := x) (s := 0) (d[j2]!) rfl rfl Sortr_sz66 rfl Rg.enc WB rfl<|Run.heapTo (H' := [sgD Rg.cells 66 b rest (swp d j2 x)]) Z<|Ze<|Zz 15<|RunT.done WK<|Zg<|Zs<|Zr<|Zm Z<|Za Z<|Za Z<|Ze<|Zg<|Zu<|Ex.keep [0]<|?_
       exact Ex.ret2 rfl rfl rfl  ⟨rfl,by subst hd1; rw [partition_two c1 e1 W (k1.symm.trans (partLoop_end f1 g1 W))],by subst hd1; rw [partition_two c1 e1 W (k1.symm.trans (partLoop_end f1 g1 W))]; rfl⟩
      ·refine Tr.cond_f Z h10<|Zt<|Zg<|Zs<|Tr.anyT [(b,.cells (cel Rg.cells d rest).toArray 66 (0,0))] 13 Sortr_mo<|Zwm 0 Z Z (ZK 0 Z)<|Zwm 1 Z Z (ZK 0 Z)<|Zwm 2 Z Z (ZK 0 Z)<|Zwm 3 Z Z (ZK 0 Z)<|Zwm 4 Z Z (ZK 0 Z)<|Zwm 5 Z Z (ZK 0 Z)<|Zw 6 Z (ZK 0 Z) (fun _ => (Y.idxN j2 rfl rfl Sortr_es33 W W))<|ZT 7 0 Z Z (ZK 0 Z) (fun _ => (Y.ldA (enc := Rg.cells) (d := d) (rest := rest) (e := 66) (i := j2) rfl Sortr_ag66 Kn.vk1 Rg.enc WB rfl))<|?_
       refine Zwm 8 Z Z (ZK 0 Z)<|Zwm 9 Z Z (ZK 0 Z)<|Zw 10 Z (ZK 0 Z) (fun _ => (Y.idxN i2 rfl rfl Sortr_es33 W W))<|ZT 11 0 Z Z (ZK 0 Z) (fun _ => (Y.ldA (enc := Rg.cells) (d := d) (rest := rest) (e := 66) (i := i2) rfl Sortr_ag66 Kn.vk1 Rg.enc WB rfl))<|Zw 12 Z (ZK 0 Z) (fun _ => (Y.idxN i2 rfl rfl Sortr_es33 W W))<|?_
       refine RunT.one (i := 13) WK rfl  ?_
       refine Run.stD (enc := Rg.cells) (d := d) (rest := rest) (e := 66) (i := i2) (s := 0) (d[j2]!) rfl rfl Sortr_sz66 rfl Rg.enc WB rfl<|Ze<|Zz 13<|?_
       refine RunT.one (i := 14) WK rfl  ?_
       refine Zv (Y.idxN j2 Z Z Sortr_es33 W W)<|Ze<|Zz 14<|?_
       refine RunT.one (i := 15) WK rfl  ?_
       refine Run.stD (enc := Rg.cells) (d := (d).setIfInBounds i2 (d[j2]!)) (rest := rest) (e := 66) (i := j2) (s := 0) (d[i2]!) rfl rfl Sortr_sz66 rfl Rg.enc WB rfl<|Run.heapTo (H' := [sgD Rg.cells 66 b rest (swp d i2 j2)]) Z<|Ze<|Zz 15<|RunT.done WK<|Zg<|Zs<|Zr<|Zm Z<|Zv (Y.addN ((i2 + 1 : Nat) : Int) rfl rfl W W)<|Za Z<|Ze<|Zg<|Zr<|?_
       refine Zm Z<|Zv (Y.subN ((j2 - 1 : Nat) : Int) rfl rfl W W)<|Za Z<|Ze<|Zc<|?_
       exact ZR (⟨i2 + 1,j2 - 1,swp d i2 j2⟩ : Nat × Nat × Array Rg) ⟨(partLoop_go f1 g1 W).symm.trans k1,by simp only [swp_size]; exact k2,by have := cross1 f1 g1 W W W; dsimp only; omega,by have := cross1 f1 g1 W W W; dsimp only; omega,by (try dsimp only); omega⟩ (by dsimp only; omega)
theorem pareq_r {V : Vw} {n c b : Nat} {rest : List Value} {d0 : Array Rg} {gf : FuncId} {caps : List Value} {cm : Rg → Rg → Int} {x y p : Nat}  (hN : n ≤ 1073741824) (hd : d0.size = n) (hx : x ≤ p) (hp : p < y) (hy : y ≤ n)  (hcmp : ∀ x y : Rg,Does Tryz.prog gf (.agg (Rg.cells x).toArray :: .agg (Rg.cells y).toArray :: caps) V [] (Pv (.int .i64 (cm x y)) V [])) (hswo : SWO (ltc cm))  : Does Tryz.prog 194 [.slice (some ⟨b,0,none⟩) n c,.int .i64 ((x : Nat) : Int),.int .i64 ((y : Nat) : Int),.int .i64 ((p : Nat) : Int),.func (.func gf) #[] caps.toArray] V [sgD Rg.cells 66 b rest d0] (fun v V' H' => V' = V ∧ v = .int .i64 ((partitionEqual (ltc cm) d0 x y p).1 : Int) ∧ H' = [sgD Rg.cells 66 b rest ((partitionEqual (ltc cm) d0 x y p).2)]) := by
 refine Does.intro Tryz.func194 rfl rfl (le rfl) (fun B => ?_)
 refine Zs<|Zr<|Za Z<|Ze<|Zg<|Zs<|Tr.anyT [(b,.cells (cel Rg.cells d0 rest).toArray 66 (0,0))] 13 Sortr_mo<|Zwm 0 Z Z (ZK 0 Z)<|Zwm 1 Z Z (ZK 0 Z)<|Zwm 2 Z Z (ZK 0 Z)<|Zwm 3 Z Z (ZK 0 Z)<|Zwm 4 Z Z (ZK 0 Z)<|Zwm 5 Z Z (ZK 0 Z)<|Zw 6 Z (ZK 0 Z) (fun _ => (Y.idxN p rfl rfl Sortr_es33 W W))<|ZT 7 0 Z Z (ZK 0 Z) (fun _ => (Y.ldA (enc := Rg.cells) (d := d0) (rest := rest) (e := 66) (i := p) rfl Sortr_ag66 Kn.vk1 Rg.enc WB rfl))<|?_
 refine Zwm 8 Z Z (ZK 0 Z)<|Zwm 9 Z Z (ZK 0 Z)<|Zw 10 Z (ZK 0 Z) (fun _ => (Y.idxN x rfl rfl Sortr_es33 W W))<|ZT 11 0 Z Z (ZK 0 Z) (fun _ => (Y.ldA (enc := Rg.cells) (d := d0) (rest := rest) (e := 66) (i := x) rfl Sortr_ag66 Kn.vk1 Rg.enc WB rfl))<|Zw 12 Z (ZK 0 Z) (fun _ => (Y.idxN x rfl rfl Sortr_es33 W W))<|?_
 refine RunT.one (i := 13) WK rfl  ?_
 refine Run.stD (enc := Rg.cells) (d := d0) (rest := rest) (e := 66) (i := x) (s := 0) (d0[p]!) rfl rfl Sortr_sz66 rfl Rg.enc WB rfl<|Ze<|Zz 13<|?_
 refine RunT.one (i := 14) WK rfl  ?_
 refine Zv (Y.idxN p Z Z Sortr_es33 W W)<|Ze<|Zz 14<|?_
 refine RunT.one (i := 15) WK rfl  ?_
 refine Run.stD (enc := Rg.cells) (d := (d0).setIfInBounds x (d0[p]!)) (rest := rest) (e := 66) (i := p) (s := 0) (d0[x]!) rfl rfl Sortr_sz66 rfl Rg.enc WB rfl<|Run.heapTo (H' := [sgD Rg.cells 66 b rest (swp d0 x p)]) Z<|Ze<|Zz 15<|RunT.done WK<|Zg<|Zs<|Zr<|Zm Z<|Zv (Y.addN ((x + 1 : Nat) : Int) rfl rfl W W)<|Zm Z<|Zv (Y.subN ((y - 1 : Nat) : Int) rfl rfl W W)<|?_
 refine Za Z<|Za Z<|Ze<|Zg<|Zs<|Zb<|?_
 refine ZL (X := Nat × Nat × Array Rg) (fun z0 => V) (fun z0 => [sgD Rg.cells 66 b rest z0.2.2]) (fun z0 => [(0,.slice (some ⟨b,0,none⟩) n c),(1,.int .i64 ((x : Nat) : Int)),(2,.int .i64 ((y : Nat) : Int)),(3,.int .i64 ((p : Nat) : Int)),(4,.func (.func gf) #[] caps.toArray),(10,.int .i64 0),(11,.int .i64 ((z0.1 : Nat) : Int)),(12,.int .i64 ((z0.2.1 : Nat) : Int))]) (fun z0 => partEqLoop (ltc cm) x z0.1 z0.2.1 z0.2.2 = partitionEqual (ltc cm) d0 x y p ∧ z0.2.2.size = n ∧ x < z0.1 ∧ z0.1 ≤ z0.2.1 + 1 ∧ z0.2.1 < y) (fun z0 => z0.2.1 + 1 - z0.1) (⟨x + 1,y - 1,swp d0 x p⟩ : Nat × Nat × Array Rg) ⟨rfl,by simp only [swp_size]; exact hd,by (try dsimp only); omega,by (try dsimp only); omega,by (try dsimp only); omega⟩ ?_
 rintro ⟨i,j,d⟩ ⟨k1,k2,k3,k4,k5⟩
 try dsimp only at k1 k2 k3 k4 k5 ⊢
 refine Zb ?_
 refine Tr.cutx (X := Nat) (fun i2 => V) (fun i2 => [sgD Rg.cells 66 b rest d]) (fun i2 => [(0,.slice (some ⟨b,0,none⟩) n c),(1,.int .i64 ((x : Nat) : Int)),(2,.int .i64 ((y : Nat) : Int)),(3,.int .i64 ((p : Nat) : Int)),(4,.func (.func gf) #[] caps.toArray),(10,.int .i64 0),(11,.int .i64 ((i2 : Nat) : Int)),(12,.int .i64 ((j : Nat) : Int))]) (fun i2 => up2 (ltc cm) d x j i = i2 ∧ i ≤ i2 ∧ i2 ≤ j + 1) ?_ ?_
 ·refine Zb ?_
  refine ZL (X := Nat) (fun z0 => V) (fun z0 => [sgD Rg.cells 66 b rest d]) (fun z0 => [(0,.slice (some ⟨b,0,none⟩) n c),(1,.int .i64 ((x : Nat) : Int)),(2,.int .i64 ((y : Nat) : Int)),(3,.int .i64 ((p : Nat) : Int)),(4,.func (.func gf) #[] caps.toArray),(10,.int .i64 0),(11,.int .i64 ((z0 : Nat) : Int)),(12,.int .i64 ((j : Nat) : Int))]) (fun z0 => up2 (ltc cm) d x j z0 = up2 (ltc cm) d x j i ∧ i ≤ z0 ∧ z0 ≤ j + 1) (fun z0 => j + 1 - z0) (i : Nat) ⟨rfl,Nat.le_refl _,by omega⟩ ?_
  rintro u ⟨m1,m2,m3⟩
  try dsimp only at m1 m2 m3 ⊢
  refine Zs<|Zs<|Tr.quiet Sortr_mo WK<|ZM Z<|ZM Z<|ZV (Y.int Z Z Z)<|ZM Z<|?_
  rcases Zsplit (decide (((u : Nat) : Int) ≤ ((j : Nat) : Int))) with ⟨h1,g1⟩ | ⟨h1,g1⟩ <;> try simp only [kb] at g1
  ·refine ZP h1<|ZM Z<|ZP h1<|ZM Z<|ZP h1<|ZM Z<|ZP h1<|ZV (Y.idxN x Z Z Sortr_es33 W W)<|ZP h1<|ZV (Y.ldA (enc := Rg.cells) (d := d) (rest := rest) (e := 66) (i := x) Z Sortr_ag66 (Kn.at 0 rfl) Rg.enc WB rfl)<|ZP h1<|ZM Z<|ZP h1<|ZM Z<|ZP h1<|ZV (Y.idxN u Z Z Sortr_es33 W W)<|?_
   refine ZP h1<|ZV (Y.ldA (enc := Rg.cells) (d := d) (rest := rest) (e := 66) (i := u) Z Sortr_ag66 (Kn.at 0 rfl) Rg.enc WB rfl)<|ZP h1<|RunQ.call0 (l := [.tmp 39,.tmp 43]) Z Z Z (lt Z) ((hcmp (d[x]!) (d[u]!)).frame)<|ZP h1<|ZV (Y.int Z Z Z)<|ZP h1<|ZV (Y.not Z)<|ZV (Y.pick_t Z h1 Z)<|ZE<|Zg<|?_
   rcases Zsplit (decide ((cm (d[x]!) (d[u]!)) < 0)) with ⟨h2,g2⟩ | ⟨h2,g2⟩ <;> try simp only [kb] at g2
   ·refine Tr.cond_f Z (congrArg Bool.not h2)<|Zx<|Zy<|Zy<|Zi<|?_
    exact ZX u ⟨m1.symm.trans (up2_stop (by first | (left; omega) | (right; assumption))),m2,m3⟩
   ·refine Tr.cond_t Z (congrArg Bool.not h2)<|Zt<|Zg<|Zb<|Zr<|Zm Z<|Zv (Y.addN ((u + 1 : Nat) : Int) rfl rfl W W)<|Za Z<|Ze<|Zc<|?_
    exact ZR (u + 1 : Nat) ⟨(up2_go W (by assumption)).trans m1,by omega,by omega⟩ W
  ·refine ZO h1 Z<|ZO h1 Z<|ZO h1 Z<|ZO h1 Z<|ZO h1 Z<|ZO h1 Z<|ZO h1 Z<|ZO h1 Z<|ZO h1 Z<|ZO h1 Z<|ZO h1 Z<|ZO h1 Z<|ZV (Y.pick_f Z h1 Z)<|ZE<|Zg<|Tr.cond_f Z Z<|?_
   refine Zx<|Zy<|Zy<|Zi<|?_
   exact ZX u ⟨m1.symm.trans (up2_stop (by first | (left; omega) | (right; assumption))),m2,m3⟩
 ·rintro i2 ⟨f1,f2,f3⟩
  refine Tr.cutx (X := Nat) (fun j2 => V) (fun j2 => [sgD Rg.cells 66 b rest d]) (fun j2 => [(0,.slice (some ⟨b,0,none⟩) n c),(1,.int .i64 ((x : Nat) : Int)),(2,.int .i64 ((y : Nat) : Int)),(3,.int .i64 ((p : Nat) : Int)),(4,.func (.func gf) #[] caps.toArray),(10,.int .i64 0),(11,.int .i64 ((i2 : Nat) : Int)),(12,.int .i64 ((j2 : Nat) : Int))]) (fun j2 => dn2 (ltc cm) d x i2 j = j2 ∧ i2 ≤ j2 + 1 ∧ j2 ≤ j) ?_ ?_
  ·refine Zb ?_
   refine ZL (X := Nat) (fun z0 => V) (fun z0 => [sgD Rg.cells 66 b rest d]) (fun z0 => [(0,.slice (some ⟨b,0,none⟩) n c),(1,.int .i64 ((x : Nat) : Int)),(2,.int .i64 ((y : Nat) : Int)),(3,.int .i64 ((p : Nat) : Int)),(4,.func (.func gf) #[] caps.toArray),(10,.int .i64 0),(11,.int .i64 ((i2 : Nat) : Int)),(12,.int .i64 ((z0 : Nat) : Int))]) (fun z0 => dn2 (ltc cm) d x i2 z0 = dn2 (ltc cm) d x i2 j ∧ i2 ≤ z0 + 1 ∧ z0 ≤ j) (fun z0 => z0) (j : Nat) ⟨rfl,by omega,Nat.le_refl _⟩ ?_
   rintro t ⟨n1,n2,n3⟩
   try dsimp only at n1 n2 n3 ⊢
   refine Zs<|Zs<|Tr.quiet Sortr_mo WK<|ZM Z<|ZM Z<|ZV (Y.int Z Z Z)<|ZM Z<|?_
   rcases Zsplit (decide (((i2 : Nat) : Int) ≤ ((t : Nat) : Int))) with ⟨h3,g3⟩ | ⟨h3,g3⟩ <;> try simp only [kb] at g3
   ·refine ZP h3<|ZM Z<|ZP h3<|ZM Z<|ZP h3<|ZM Z<|ZP h3<|ZV (Y.idxN x Z Z Sortr_es33 W W)<|ZP h3<|ZV (Y.ldA (enc := Rg.cells) (d := d) (rest := rest) (e := 66) (i := x) Z Sortr_ag66 (Kn.at 0 rfl) Rg.enc WB rfl)<|ZP h3<|ZM Z<|ZP h3<|ZM Z<|ZP h3<|ZV (Y.idxN t Z Z Sortr_es33 W W)<|?_
    refine ZP h3<|ZV (Y.ldA (enc := Rg.cells) (d := d) (rest := rest) (e := 66) (i := t) Z Sortr_ag66 (Kn.at 0 rfl) Rg.enc WB rfl)<|ZP h3<|RunQ.call0 (l := [.tmp 58,.tmp 62]) Z Z Z (lt Z) ((hcmp (d[x]!) (d[t]!)).frame)<|ZP h3<|ZV (Y.int Z Z Z)<|ZV (Y.pick_t Z h3 Z)<|ZE<|Zg<|?_
    rcases Zsplit (decide ((cm (d[x]!) (d[t]!)) < 0)) with ⟨h4,g4⟩ | ⟨h4,g4⟩ <;> try simp only [kb] at g4
    ·refine Tr.cond_t Z h4<|Zt<|Zg<|Zb<|Zr<|Zm Z<|Zv (Y.subN ((t - 1 : Nat) : Int) rfl rfl W W)<|Za Z<|Ze<|Zc<|?_
     exact ZR (t - 1 : Nat) ⟨(dn2_go W W (by assumption)).trans n1,by omega,by omega⟩ W
    ·refine Tr.cond_f Z h4<|Zx<|Zy<|Zy<|Zi<|?_
     exact ZX t ⟨n1.symm.trans (dn2_stop W (by first | (left; omega) | (right; assumption))),n2,n3⟩
   ·refine ZO h3 Z<|ZO h3 Z<|ZO h3 Z<|ZO h3 Z<|ZO h3 Z<|ZO h3 Z<|ZO h3 Z<|ZO h3 Z<|ZO h3 Z<|ZO h3 Z<|ZO h3 Z<|ZV (Y.pick_f Z h3 Z)<|ZE<|Zg<|Tr.cond_f Z Z<|Zx<|?_
    refine Zy<|Zy<|Zi<|?_
    exact ZX t ⟨n1.symm.trans (dn2_stop W (by first | (left; omega) | (right; assumption))),n2,n3⟩
  ·rintro j2 ⟨g1,g2,g3⟩
   refine Zs<|Zs<|Zr<|Zm Z<|Zm Z<|Zv (Y.int Z Z Z)<|Ze<|Zg<|?_
   rcases Zsplit (decide (((i2 : Nat) : Int) > ((j2 : Nat) : Int))) with ⟨h5,g5⟩ | ⟨h5,g5⟩ <;> try simp only [kb] at g5
   ·refine Tr.cond_t Z h5<|Zx<|Zy<|Ex.exit_out Z<|Zy<|Zi<|Zg<|Zs<|Zr<|Zm Z<|Za Z<|Ze<|Zg<|Zu<|Ex.keep [0]<|?_
    exact Ex.ret1 rfl rfl  ⟨rfl,by rw [← k1,partEqLoop_end f1 g1 W],by rw [← k1,partEqLoop_end f1 g1 W]; rfl⟩
   ·refine Tr.cond_f Z h5<|Zt<|Zg<|Zs<|Tr.anyT [(b,.cells (cel Rg.cells d rest).toArray 66 (0,0))] 13 Sortr_mo<|Zwm 0 Z Z (ZK 0 Z)<|Zwm 1 Z Z (ZK 0 Z)<|Zwm 2 Z Z (ZK 0 Z)<|Zwm 3 Z Z (ZK 0 Z)<|Zwm 4 Z Z (ZK 0 Z)<|Zwm 5 Z Z (ZK 0 Z)<|Zw 6 Z (ZK 0 Z) (fun _ => (Y.idxN j2 rfl rfl Sortr_es33 W W))<|ZT 7 0 Z Z (ZK 0 Z) (fun _ => (Y.ldA (enc := Rg.cells) (d := d) (rest := rest) (e := 66) (i := j2) rfl Sortr_ag66 Kn.vk1 Rg.enc WB rfl))<|?_
    refine Zwm 8 Z Z (ZK 0 Z)<|Zwm 9 Z Z (ZK 0 Z)<|Zw 10 Z (ZK 0 Z) (fun _ => (Y.idxN i2 rfl rfl Sortr_es33 W W))<|ZT 11 0 Z Z (ZK 0 Z) (fun _ => (Y.ldA (enc := Rg.cells) (d := d) (rest := rest) (e := 66) (i := i2) rfl Sortr_ag66 Kn.vk1 Rg.enc WB rfl))<|Zw 12 Z (ZK 0 Z) (fun _ => (Y.idxN i2 rfl rfl Sortr_es33 W W))<|?_
    refine RunT.one (i := 13) WK rfl  ?_
    refine Run.stD (enc := Rg.cells) (d := d) (rest := rest) (e := 66) (i := i2) (s := 0) (d[j2]!) rfl rfl Sortr_sz66 rfl Rg.enc WB rfl<|Ze<|Zz 13<|?_
    refine RunT.one (i := 14) WK rfl  ?_
    refine Zv (Y.idxN j2 Z Z Sortr_es33 W W)<|Ze<|Zz 14<|?_
    refine RunT.one (i := 15) WK rfl  ?_
    refine Run.stD (enc := Rg.cells) (d := (d).setIfInBounds i2 (d[j2]!)) (rest := rest) (e := 66) (i := j2) (s := 0) (d[i2]!) rfl rfl Sortr_sz66 rfl Rg.enc WB rfl<|Run.heapTo (H' := [sgD Rg.cells 66 b rest (swp d i2 j2)]) Z<|Ze<|Zz 15<|RunT.done WK<|Zg<|Zs<|Zr<|Zm Z<|Zv (Y.addN ((i2 + 1 : Nat) : Int) rfl rfl W W)<|Za Z<|Ze<|Zg<|Zr<|?_
    refine Zm Z<|Zv (Y.subN ((j2 - 1 : Nat) : Int) rfl rfl W W)<|Za Z<|Ze<|Zc<|?_
    exact ZR (⟨i2 + 1,j2 - 1,swp d i2 j2⟩ : Nat × Nat × Array Rg) ⟨(partEqLoop_go f1 g1 W).symm.trans k1,by simp only [swp_size]; exact k2,by have := cross2 f1 g1 W W W; dsimp only; omega,by have := cross2 f1 g1 W W W; dsimp only; omega,by (try dsimp only); omega⟩ (by dsimp only; omega)
end Go.Proofs.YtfgblingojgafaaGreat
namespace Go.Proofs.YtfgblingojgafaaGreat
open Go Go.K
attribute [local irreducible] Code.wp wpList Calls wpQuiet
theorem Sortnum_it218_5 : intT Tryz.prog 218 5 = some .u8 := by kernel_rfl
theorem Sortnum_st9 : strT Tryz.prog 9 = true := by kernel_rfl
theorem Sortnum_it5_3 : intT Tryz.prog 5 3 = some .i64 := by kernel_rfl
theorem Sortnum_it3_195 : intT Tryz.prog 3 195 = some .u64 := by kernel_rfl
theorem Sortnum_mo : Tryz.prog.follows .mixedOrders = true := by kernel_rfl
theorem Sortnum_ts222 : scal Tryz.prog 222 = true := by kernel_rfl
theorem Sortnum_sz222 : sizeT Tryz.prog 222 = some 1 := by kernel_rfl
open Go.Sort
def tabL : ByteArray := ⟨#[0,1,2,2,3,3,3,3,4,4,4,4,4,4,4,4,5,5,5,5,5,5,5,5,5,5,5,5,5,5,5,5,6,6,6,6,6,6,6,6,6,6,6,6,6,6,6,6,6,6,6,6,6,6,6,6,6,6,6,6,6,6,6,6,7,7,7,7,7,7,7,7,7,7,7,7,7,7,7,7,7,7,7,7,7,7,7,7,7,7,7,7,7,7,7,7,7,7,7,7,7,7,7,7,7,7,7,7,7,7,7,7,7,7,7,7,7,7,7,7,7,7,7,7,7,7,7,7,8,8,8,8,8,8,8,8,8,8,8,8,8,8,8,8,8,8,8,8,8,8,8,8,8,8,8,8,8,8,8,8,8,8,8,8,8,8,8,8,8,8,8,8,8,8,8,8,8,8,8,8,8,8,8,8,8,8,8,8,8,8,8,8,8,8,8,8,8,8,8,8,8,8,8,8,8,8,8,8,8,8,8,8,8,8,8,8,8,8,8,8,8,8,8,8,8,8,8,8,8,8,8,8,8,8,8,8,8,8,8,8,8,8,8,8,8,8,8,8,8,8,8,8,8,8,8,8]⟩
def tabN (i : Nat) : Nat := (tabL.data.toList.getD i 0).toNat
theorem tabN_all : ((List.range 256).all fun i => decide (tabN i ≤ 8) && (decide (i = 0) || decide (2 ^ tabN i ≤ 2 * i))) = true := by decide +kernel
theorem tabN_le {i : Nat} (h : i ≤ 255) : tabN i ≤ 8 ∧ (0 < i → 2 ^ tabN i ≤ 2 * i) := by
  have := List.all_eq_true.1 tabN_all i (List.mem_range.2 W)
  simp only [Bool.and_eq_true,Bool.or_eq_true,decide_eq_true_eq] at this
  exact ⟨this.1,fun h => this.2.resolve_left W⟩
theorem tab_at {C : Cx} {V : Vw} {H : Hp} {L : Sl} {ty : TypeId} {y : Operand} {t : TypeId} {i : Nat} (hy : ev L y = some (.int .u8 (i : Int))) (hs : strT C.P t = true) (h : i ≤ 255) : Yl C V H L (.index t (.const (.string tabL)) y) ty (.int .u8 ((tabN i : Nat) : Int)) := by
  have h2 : tabL.size = 256 := by decide +kernel
  have := Y.idxStr (C := C) (V := V) (H := H) (L := L) (ty := ty) (x := .const (.string tabL)) rfl hy hs W (by rw [h2]; omega)
  rw [show (tabL.toList.getD (Int.toNat (i : Int)) 0) = tabL.data.toList.getD i 0 by rw [ByteArray.toList_eq]; rfl] at this
  exact this
theorem len_of {s m : Nat} (q : Nat) (hq : q * 2 ^ s ≤ m) (h : q ≤ 255) (h0 : 0 < m → 0 < q) (hs : s ≤ 24) : s + tabN q ≤ 40 ∧ (0 < m → 2 ^ (s + tabN q) ≤ 2 * m) :=
  ⟨by have := (tabN_le h).1; omega,fun hm => len_bound hq ((tabN_le h).2 (h0 hm))⟩
theorem len64_0 {V : Vw} {m : Nat} (hm : m ≤ 1073741824)  : Does Tryz.prog 197 [.int .u64 ((m : Nat) : Int)] V [] (fun v V' H' => V' = V ∧ (∃ k : Nat,v = .int .i64 (k : Int) ∧ k ≤ 40 ∧ (0 < m → 2 ^ k ≤ 2 * m)) ∧ H' = []) := by
 refine Does.intro Tryz.func197 rfl rfl (le rfl) (fun B => ?_)
 refine Zs<|Zr<|Za Z<|Ze<|Zg<|Zs<|Zs<|Zr<|Zm Z<|Zv (Y.int Z Z Z)<|Ze<|Zg<|?_
 rcases Zsplit (decide (((m : Nat) : Int) ≥ 4294967296)) with ⟨h1,g1⟩ | ⟨h1,g1⟩ <;> try simp only [kb] at g1
 ·omega
 ·refine Tr.cond_f Z h1<|Zt<|Zg<|Zs<|Zs<|Zr<|Zm Z<|Zv (Y.int Z Z Z)<|Ze<|Zg<|?_
  rcases Zsplit (decide (((m : Nat) : Int) ≥ 65536)) with ⟨h2,g2⟩ | ⟨h2,g2⟩ <;> try simp only [kb] at g2
  ·refine Tr.cond_t Z h2<|Zs<|Zr<|Zm Z<|Zv (Y.shrN (m := m) (q := 65536) Z Z WD WD)<|Za Z<|Ze<|Zg<|Zr<|Zm Z<|Zv (Y.addN ((0 + 16 : Nat) : Int) rfl rfl W W)<|Za Z<|Ze<|Zg<|Zs<|Zs<|?_
   refine Zr<|Zm Z<|Zv (Y.int Z Z Z)<|Ze<|Zg<|?_
   rcases Zsplit (decide (((m / 65536 : Nat) : Int) ≥ 256)) with ⟨h3,g3⟩ | ⟨h3,g3⟩ <;> try simp only [kb] at g3
   ·refine Tr.cond_t Z h3<|Zs<|Zr<|Zm Z<|Zv (Y.shrN (m := m / 65536) (q := 256) Z Z WD WD)<|Za Z<|Ze<|Zg<|Zr<|Zm Z<|Zv (Y.addN (((0 + 16) + 8 : Nat) : Int) rfl rfl W W)<|Za Z<|Ze<|Zg<|Zs<|Zr<|?_
    refine Zm Z<|Zm Z<|Zv (Y.conv ((((m / 65536) / 256 : Nat) : Int)) rfl Sortnum_it218_5 (wrap_u8 W))<|Zv (tab_at (i := (m / 65536) / 256) rfl Sortnum_st9 W)<|?_
    have ht := tabN_le (i := (m / 65536) / 256) W
    refine Zv (Y.conv (((tabN ((m / 65536) / 256) : Nat) : Int)) rfl Sortnum_it5_3 (wrap_i64 W))<|Zv (Y.addN ((((0 + 16) + 8) + (tabN ((m / 65536) / 256)) : Nat) : Int) rfl rfl W W)<|Za Z<|Ze<|Zg<|Zu<|Ex.keep []<|?_
    exact Ex.ret1 rfl rfl  ⟨rfl,⟨_,rfl,by have := len_of (s := 24) (m := m) ((m / 65536) / 256) W W W W; first | exact this | simpa using this⟩,rfl⟩
   ·refine Tr.cond_f Z h3<|Zt<|Zg<|Zs<|Zr<|Zm Z<|Zm Z<|Zv (Y.conv (((m / 65536 : Nat) : Int)) rfl Sortnum_it218_5 (wrap_u8 W))<|Zv (tab_at (i := m / 65536) Z Sortnum_st9 W)<|?_
    have ht := tabN_le (i := m / 65536) W
    refine Zv (Y.conv (((tabN (m / 65536) : Nat) : Int)) rfl Sortnum_it5_3 (wrap_i64 W))<|Zv (Y.addN (((0 + 16) + (tabN (m / 65536)) : Nat) : Int) rfl rfl W W)<|Za Z<|Ze<|Zg<|Zu<|Ex.keep []<|?_
    exact Ex.ret1 rfl rfl  ⟨rfl,⟨_,rfl,by have := len_of (s := 16) (m := m) (m / 65536) W W W W; first | exact this | simpa using this⟩,rfl⟩
  ·refine Tr.cond_f Z h2<|Zt<|Zg<|Zs<|Zs<|Zr<|Zm Z<|Zv (Y.int Z Z Z)<|Ze<|Zg<|?_
   rcases Zsplit (decide (((m : Nat) : Int) ≥ 256)) with ⟨h4,g4⟩ | ⟨h4,g4⟩ <;> try simp only [kb] at g4
   ·refine Tr.cond_t Z h4<|Zs<|Zr<|Zm Z<|Zv (Y.shrN (m := m) (q := 256) Z Z WD WD)<|Za Z<|Ze<|Zg<|Zr<|Zm Z<|Zv (Y.addN ((0 + 8 : Nat) : Int) rfl rfl W W)<|Za Z<|Ze<|Zg<|Zs<|Zr<|?_
    refine Zm Z<|Zm Z<|Zv (Y.conv (((m / 256 : Nat) : Int)) rfl Sortnum_it218_5 (wrap_u8 W))<|Zv (tab_at (i := m / 256) Z Sortnum_st9 W)<|?_
    have ht := tabN_le (i := m / 256) W
    refine Zv (Y.conv (((tabN (m / 256) : Nat) : Int)) rfl Sortnum_it5_3 (wrap_i64 W))<|Zv (Y.addN (((0 + 8) + (tabN (m / 256)) : Nat) : Int) rfl rfl W W)<|Za Z<|Ze<|Zg<|Zu<|Ex.keep []<|?_
    exact Ex.ret1 rfl rfl  ⟨rfl,⟨_,rfl,by have := len_of (s := 8) (m := m) (m / 256) W W W W; first | exact this | simpa using this⟩,rfl⟩
   ·refine Tr.cond_f Z h4<|Zt<|Zg<|Zs<|Zr<|Zm Z<|Zm Z<|Zv (Y.conv (((m : Nat) : Int)) rfl Sortnum_it218_5 (wrap_u8 W))<|Zv (tab_at (i := m) Z Sortnum_st9 W)<|?_
    have ht := tabN_le (i := m) W
    refine Zv (Y.conv (((tabN m : Nat) : Int)) rfl Sortnum_it5_3 (wrap_i64 W))<|Zv (Y.addN ((0 + (tabN m) : Nat) : Int) rfl rfl W W)<|Za Z<|Ze<|Zg<|Zu<|Ex.keep []<|?_
    exact Ex.ret1 rfl rfl  ⟨rfl,⟨_,rfl,by have := len_of (s := 0) (m := m) (m) W W W W; first | exact this | simpa using this⟩,rfl⟩
theorem len_0 {V : Vw} {m : Nat} (hm : m ≤ 1073741824)  : Does Tryz.prog 178 [.int .u64 ((m : Nat) : Int)] V [] (fun v V' H' => V' = V ∧ (∃ k : Nat,v = .int .i64 (k : Int) ∧ k ≤ 40 ∧ (0 < m → 2 ^ k ≤ 2 * m)) ∧ H' = []) := by
 refine Does.intro Tryz.func178 rfl rfl (le rfl) (fun B => ?_)
 refine Zs<|Zr<|Za Z<|Ze<|Zg<|Zs<|Tr.cond_f Z Z<|Zt<|Zg<|Zs<|Zr<|Zm Z<|?_
 refine Run.call [] (l := [.tmp 6]) rfl rfl rfl (lt rfl) (len64_0 hm) (fun v V2 H2 hle hR => ?_)
 obtain ⟨hV,⟨k,rfl,hk1,hk2⟩,rfl⟩ := hR; replace hV := hV.symm; subst hV
 refine Za Z<|Ze<|Zg<|Zu<|Ex.keep []<|?_
 exact Ex.ret1 rfl rfl  ⟨rfl,⟨k,rfl,hk1,hk2⟩,rfl⟩
theorem npow_0 {V : Vw} {m : Nat} (h8 : 1 ≤ m) (hm : m ≤ 1073741824)  : Does Tryz.prog 203 [.int .i64 ((m : Nat) : Int)] V [] (fun v V' H' => V' = V ∧ (∃ q : Nat,v = .int .u64 (q : Int) ∧ 1 ≤ q ∧ q ≤ 2 * m) ∧ H' = []) := by
 refine Does.intro Tryz.func203 rfl rfl (le rfl) (fun B => ?_)
 refine Zs<|Zr<|Za Z<|Ze<|Zg<|Zs<|Zr<|Zm Z<|Zv (Y.conv (((m : Nat) : Int)) rfl Sortnum_it3_195 (wrap_u64 W))<|?_
 refine Run.call [] (l := [.tmp 4]) rfl rfl rfl (lt rfl) (len_0 (m := m) W) (fun v V2 H2 hle hR => ?_)
 obtain ⟨hV,⟨k1,rfl,hk1,hk2⟩,rfl⟩ := hR; replace hV := hV.symm; subst hV
 refine Run.heapTo (H' := []) Z<|Zv (Y.shl (((2 ^ k1 : Nat) : Int)) rfl rfl W (shl_one W))<|Za Z<|Ze<|Zg<|Zu<|Ex.keep []<|?_
 exact Ex.ret1 rfl rfl  ⟨rfl,⟨_,rfl,Nat.one_le_two_pow,hk2 W⟩,rfl⟩
theorem next_0 {V : Vw} {bx e : Nat} {r : Int}  : Does Tryz.prog 204 [(pZ bx)] V [[(bx,.cells #[.int .u64 r] e (0,0))]] (fun v V' H' => V' = V ∧ ∃ r' : Int,v = .int .u64 r' ∧ H' = [[(bx,.cells #[.int .u64 r'] e (0,0))]]) := by
 refine Does.intro Tryz.func204 rfl rfl (le rfl) (fun B => ?_)
 refine Zs<|Zr<|Za Z<|Ze<|Zg<|Zs<|Tr.tail 9 Sortnum_mo WK<|ZM Z<|ZV (Y.nilCheck Z)<|ZV (Y.load Z Sortnum_ts222 (Kn.at 0 Z) Z)<|ZM Z<|ZV (Y.nilCheck Z)<|ZV (Y.load Z Sortnum_ts222 (Kn.at 0 Z) Z)<|ZV (Y.shl (shlU r 13) rfl rfl WD rfl)<|ZV (Y.int (r := .int .u64 (xorU r (shlU r 13))) Z Z Z)<|ZV (Y.nilCheck Z)<|?_
 refine RunQ.nil_run<|Run.store (s := [(bx,.cells #[.int .u64 (xorU r (shlU r 13))] e (0,0))]) Z Z Sortnum_sz222 (i := 0) Z Z (le Z) Z Z<|Ze<|Zg<|Zs<|Tr.tail 9 Sortnum_mo WK<|?_
 obtain ⟨ra,hra⟩ : ∃ z,xorU r (shlU r 13) = z := ⟨_,rfl⟩
 rw [hra]
 refine ZM Z<|ZV (Y.nilCheck Z)<|ZV (Y.load Z Sortnum_ts222 (Kn.at 0 Z) Z)<|ZM Z<|ZV (Y.nilCheck Z)<|ZV (Y.load Z Sortnum_ts222 (Kn.at 0 Z) Z)<|ZV (Y.shr (shrU ra 7) rfl rfl WD rfl)<|ZV (Y.int (r := .int .u64 (xorU ra (shrU ra 7))) Z Z Z)<|ZV (Y.nilCheck Z)<|RunQ.nil_run<|Run.store (s := [(bx,.cells #[.int .u64 (xorU ra (shrU ra 7))] e (0,0))]) Z Z Sortnum_sz222 (i := 0) Z Z (le Z) Z Z<|Ze<|Zg<|Zs<|Tr.tail 9 Sortnum_mo WK<|?_
 obtain ⟨rb,hrb⟩ : ∃ z,xorU ra (shrU ra 7) = z := ⟨_,rfl⟩
 rw [hrb]
 refine ZM Z<|ZV (Y.nilCheck Z)<|ZV (Y.load Z Sortnum_ts222 (Kn.at 0 Z) Z)<|ZM Z<|ZV (Y.nilCheck Z)<|ZV (Y.load Z Sortnum_ts222 (Kn.at 0 Z) Z)<|ZV (Y.shl (shlU rb 17) rfl rfl WD rfl)<|ZV (Y.int (r := .int .u64 (xorU rb (shlU rb 17))) Z Z Z)<|ZV (Y.nilCheck Z)<|RunQ.nil_run<|Run.store (s := [(bx,.cells #[.int .u64 (xorU rb (shlU rb 17))] e (0,0))]) Z Z Sortnum_sz222 (i := 0) Z Z (le Z) Z Z<|Ze<|Zg<|Zs<|Zr<|?_
 obtain ⟨rc,hrc⟩ : ∃ z,xorU rb (shlU rb 17) = z := ⟨_,rfl⟩
 rw [hrc]
 refine Zm Z<|Zv (Y.nilCheck Z)<|Zv (Y.load Z Sortnum_ts222 (Kn.at 0 Z) Z)<|Za Z<|Ze<|Zg<|Zu<|Ex.keep [0]<|?_
 exact Ex.ret1 rfl rfl  ⟨rfl,_,rfl,rfl⟩
end Go.Proofs.YtfgblingojgafaaGreat
