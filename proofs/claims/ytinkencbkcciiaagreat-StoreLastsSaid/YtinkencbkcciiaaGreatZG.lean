/- Short names for the rules of the walks: nothing new is said here.
Conditions: none; nothing here speaks of a program. -/
import Derived.Test.YtinkencbkcciiaaGreatKF
import Derived.Test.YtinkencbkcciiaaGreatKB
import Derived.Test.YtinkencbkcciiaaGreatKC
import Derived.KernelRfl
set_option linter.unusedSimpArgs false
set_option linter.unusedVariables false
set_option linter.unusedSectionVars false
namespace Go.K
theorem Z {α : Sort _} {a : α} : a = a := rfl
theorem W {p : Prop} (h : p := by omega) : p := h
theorem WD {p : Prop} (h : p := by decide) : p := h
theorem WK {p : Prop} (h : p := by kernel_rfl) : p := h
theorem WB {p : Prop} (h : p := by first | omega | (simp only [swp_size,Array.size_setIfInBounds]; omega)) : p := h
theorem Zsplit (b : Bool) : (b = true ∧ b = true) ∨ (b = false ∧ b = false) := by cases b <;> simp
section
variable {C : Cx} {V : Vw} {H : Hp} {L : Sl} {Q : Exit → Act → World → Prop} {ops : Array Oper} {os : List Oper} {KQ : Act → World → Prop}
variable {ty : TypeId} {pos : String} {aft : Array Edge} {d : Nat}
theorem Zs {x y : Code} (h : Tr C V H L x (Exit.then (y.wp C.P Q) Q)) : Tr C V H L (.seq x y) Q := Tr.seq h
theorem Zr {id : Nat} {l : List Oper} (h : Run C l.toArray V H L l Q) : Tr C V H L (.region id l.toArray false) Q := Tr.region h
theorem Zb {id : Nat} {c : Code} (h : Tr C V H L c (Exit.inBlock id Q)) : Tr C V H L (.block id c) Q := Tr.block h
theorem Ze (h : Ex C V H L Q .normal) : Run C ops V H L [] Q := Run.to_end h
theorem ZE (h : Ex C V H L Q .normal) : RunQ C ops V H L [] (Q .normal) := RunQ.to_end h
theorem Zg {y : Code} (h : Tr C V H L y Q) : Ex C V H L (Exit.then (y.wp C.P Q) Q) .normal := h
theorem Zt (h : Ex C V H L Q .normal) : Tr C V H L .skip Q := Tr.to_end h
theorem Zu (h : Ex C V H L Q .ret) : Tr C V H L .ret Q := Tr.to_ret h
theorem Zx {id : Nat} (h : Ex C V H L Q (.exit id)) : Tr C V H L (.exit id) Q := Tr.to_exit h
theorem Zc {id : Nat} (h : Ex C V H L Q .normal) : Ex C V H L (Exit.inBlock id Q) .normal := h
theorem Zn {k : Act → World → Prop} (h : Ex C V H L Q .ret) : Ex C V H L (Exit.then k Q) .ret := h
theorem Zk {id : Nat} (h : Ex C V H L Q .ret) : Ex C V H L (Exit.inBlock id Q) .ret := h
theorem Zy {id : Nat} {k : Act → World → Prop} (h : Ex C V H L Q (.exit id)) : Ex C V H L (Exit.then k Q) (.exit id) := h
theorem Zi {id : Nat} (h : Ex C V H L Q .normal) : Ex C V H L (Exit.inBlock id Q) (.exit id) := Ex.exit_in h
theorem Zv {op : Op} {v : Value} (hx : Yl C V H L op ty v) (k : Run C ops V H ((d,v) :: L) os Q) (hd : Nat.blt d C.n = true := by exact rfl) : Run C ops V H L (⟨some d,op,ty,pos,aft,none⟩ :: os) Q := Run.val (lt hd) hx k
theorem Zm {x : Operand} {v : Value} (hx : ev L x = some v) (k : Run C ops V H ((d,v) :: L) os Q) (hd : Nat.blt d C.n = true := by exact rfl) : Run C ops V H L (⟨some d,.move x,ty,pos,aft,none⟩ :: os) Q := Run.val (lt hd) (Y.move hx) k
theorem Za {x : Operand} {v : Value} (hx : ev L x = some v) (k : Run C ops V H ((d,v) :: L) os Q) (hd : Nat.blt d C.n = true := by exact rfl) : Run C ops V H L (⟨some d,.assign x,ty,pos,aft,none⟩ :: os) Q := Run.val (lt hd) (Y.assign hx) k
theorem ZV {op : Op} {v : Value} (hx : Yl C V H L op ty v) (k : RunQ C ops V H ((d,v) :: L) os KQ) (hd : Nat.blt d C.n = true := by exact rfl) : RunQ C ops V H L (⟨some d,op,ty,pos,aft,none⟩ :: os) KQ := RunQ.val (lt hd) hx k
theorem ZM {x : Operand} {v : Value} (hx : ev L x = some v) (k : RunQ C ops V H ((d,v) :: L) os KQ) (hd : Nat.blt d C.n = true := by exact rfl) : RunQ C ops V H L (⟨some d,.move x,ty,pos,aft,none⟩ :: os) KQ := RunQ.val (lt hd) (Y.move hx) k
theorem ZA {x : Operand} {v : Value} (hx : ev L x = some v) (k : RunQ C ops V H ((d,v) :: L) os KQ) (hd : Nat.blt d C.n = true := by exact rfl) : RunQ C ops V H L (⟨some d,.assign x,ty,pos,aft,none⟩ :: os) KQ := RunQ.val (lt hd) (Y.assign hx) k
theorem Zo {o : Oper} {j : Nat} {t : Bool} {d dd : Nat} {b : Bool} (e : b = !t) (hd : o.dst = some dd) (k : Run C ops V H ((dd,undef) :: L) os Q) (hg : o.guard = some (j,t) := by exact rfl) (hj : ((ops[j]?).bind (·.dst)) = some d := by exact rfl) (hb : L.lookup d = some (.bool b) := by exact rfl) (hn : Nat.blt dd C.n = true := by exact rfl) : Run C ops V H L (o :: os) Q := Run.off hg hj hb e hd (lt hn) k
theorem ZO {o : Oper} {j : Nat} {t : Bool} {d dd : Nat} {b : Bool} (e : b = !t) (hd : o.dst = some dd) (k : RunQ C ops V H ((dd,undef) :: L) os KQ) (hg : o.guard = some (j,t) := by exact rfl) (hj : ((ops[j]?).bind (·.dst)) = some d := by exact rfl) (hb : L.lookup d = some (.bool b) := by exact rfl) (hn : Nat.blt dd C.n = true := by exact rfl) : RunQ C ops V H L (o :: os) KQ := RunQ.off hg hj hb e hd (lt hn) k
theorem Zp {o : Oper} {j : Nat} {t : Bool} {d : Nat} {b : Bool} (e : b = t) (k : Run C ops V H L (⟨o.dst,o.op,o.type,o.pos,o.after,none⟩ :: os) Q) (hg : o.guard = some (j,t) := by exact rfl) (hj : ((ops[j]?).bind (·.dst)) = some d := by exact rfl) (hb : L.lookup d = some (.bool b) := by exact rfl) : Run C ops V H L (o :: os) Q := Run.on hg hj hb e k
theorem ZP {o : Oper} {j : Nat} {t : Bool} {d : Nat} {b : Bool} (e : b = t) (k : RunQ C ops V H L (⟨o.dst,o.op,o.type,o.pos,o.after,none⟩ :: os) KQ) (hg : o.guard = some (j,t) := by exact rfl) (hj : ((ops[j]?).bind (·.dst)) = some d := by exact rfl) (hb : L.lookup d = some (.bool b) := by exact rfl) : RunQ C ops V H L (o :: os) KQ := RunQ.on hg hj hb e k
theorem ZK (i : Nat) {b : Nat} {o : Obj} {s : Sg} (h : H[i]? = some ((b,o) :: s)) : KnAll V H [(b,o)] := KnAll.cons (Kn.at i h) KnAll.nil
variable {S0 : Sg} {z : Nat}
theorem Zw {g : Nat} (i : Nat) {op : Op} {v : Value} {listed : Array Bool} (ho : ops[i]? = some ⟨some d,op,ty,pos,aft,none⟩) (hk : KnAll V H S0) (hy : ∀ B,Yl (CK C [] B) (VK []) [] L op ty v) (h : RunT C ops S0 z g (listed.setIfInBounds i true) V H ((d,v) :: L) Q)
    (hs : Region.noSelect ops = true := by kernel_rfl) (hf : Region.free .any ops listed i = true := by kernel_rfl) (hr : (Region.ready .any ops listed).contains i = true := by kernel_rfl) (hz : Nat.blt i z = true := by kernel_rfl) (hQ : ∀ c a w,Q (.panic c) (a.put (some d) v) w → Q (.panic c) a w := by exact fun _ _ _ h => h) (hd : d < C.n := by exact lt rfl) :
    RunT C ops S0 z (g + 1) listed V H L Q := RunT.pure ho hs hf hr hz hQ hd hk hy h
theorem Zwm {g : Nat} (i : Nat) {x : Operand} {v : Value} {listed : Array Bool} (ho : ops[i]? = some ⟨some d,.move x,ty,pos,aft,none⟩) (hx : ev L x = some v) (hk : KnAll V H S0) (h : RunT C ops S0 z g (listed.setIfInBounds i true) V H ((d,v) :: L) Q)
    (hs : Region.noSelect ops = true := by kernel_rfl) (hf : Region.free .any ops listed i = true := by kernel_rfl) (hr : (Region.ready .any ops listed).contains i = true := by kernel_rfl) (hz : Nat.blt i z = true := by kernel_rfl) (hQ : ∀ c a w,Q (.panic c) (a.put (some d) v) w → Q (.panic c) a w := by exact fun _ _ _ h => h) (hd : d < C.n := by exact lt rfl) :
    RunT C ops S0 z (g + 1) listed V H L Q := RunT.pure ho hs hf hr hz hQ hd hk (fun _ => Y.move hx) h
theorem ZT {g : Nat} (i : Nat) {op : Op} {v : Value} {listed : Array Bool} {b : Nat} {o : Obj} (m : Nat) (hm : S0[m]? = some (b,o)) (ho : ops[i]? = some ⟨some d,op,ty,pos,aft,none⟩) (hk : KnAll V H S0) (hy : ∀ B,Yl (CK C [(b,o)] B) (VK [(b,o)]) [] L op ty v) (h : RunT C ops S0 z g (listed.setIfInBounds i true) V H ((d,v) :: L) Q)
    (hs : Region.noSelect ops = true := by kernel_rfl) (hf : Region.free .any ops listed i = true := by kernel_rfl) (hr : (Region.ready .any ops listed).contains i = true := by kernel_rfl) (hz : (waitsAll .any ops z i && noneZ ops z listed && Nat.blt i z) = true := by kernel_rfl) (hQ : ∀ c a w,Q (.panic c) (a.put (some d) v) w → Q (.panic c) a w := by exact fun _ _ _ h => h) (hd : d < C.n := by exact lt rfl) :
    RunT C ops S0 z (g + 1) listed V H L Q := RunT.take m hm ho hs hf hr hz hQ hd hk hy h
theorem Zz {g : Nat} (i : Nat) {listed : Array Bool} (h : RunT C ops S0 z g listed V H L Q) (he : listed.getD i false = true := by exact rfl) (hz : Nat.ble z i = true := by exact rfl) (hi : Nat.blt i ops.size = true := by exact rfl) : Ex C V H L (Exit.then (fun a' w' => (preZ ops z listed → DK S0 w') ∧ K.anyT C.P .any ops (DK S0) z Q g listed a' w') Q) .normal := Ex.anyTz he hz hi h
theorem ZR {X : Type} {p : X → Prop} {μ : X → Nat} {V' : X → Vw} {H' : X → Hp} {L' : X → Sl} {m : Nat} (y : X) (hp : p y) (hm : μ y < m) (hL : subB L (L' y) := by repeat (first | exact subB_nil _ | refine subB_cons (by first | rfl | exact congrArg (fun z => some (Value.int _ z)) (by omega)) ?_)) (hV : V' y = V := by exact rfl) (hH : H' y = H := by exact rfl) :
    Ex C V H L (Exit.then (fun a w => ∃ y,p y ∧ μ y < m ∧ Is C (V' y) (H' y) (L' y) a w) Q) .normal := Ex.round y hp hm hV hH hL
theorem ZX {X : Type} {p : X → Prop} {V' : X → Vw} {H' : X → Hp} {L' : X → Sl} (y : X) (hp : p y) (hL : subB L (L' y) := by repeat (first | exact subB_nil _ | refine subB_cons (by first | rfl | exact congrArg (fun z => some (Value.int _ z)) (by omega)) ?_)) (hV : V' y = V := by exact rfl) (hH : H' y = H := by exact rfl) :
    Ex C V H L (Exit.then (fun a w => ∃ y,p y ∧ Is C (V' y) (H' y) (L' y) a w) Q) .normal := Ex.cutx y hp hV hH hL
theorem ZL {c : Code} {X : Type} (V' : X → Vw) (H' : X → Hp) (L' : X → Sl) (p : X → Prop) (m : X → Nat) (x0 : X) (h0 : p x0) (h : ∀ x,p x → Tr C (V' x) (H' x) (L' x) c (Exit.then (fun a w => ∃ y,p y ∧ m y < m x ∧ Is C (V' y) (H' y) (L' y) a w) Q))
    (hL : subB L (L' x0) := by repeat (first | exact subB_nil _ | refine subB_cons (by first | rfl | exact congrArg (fun z => some (Value.int _ z)) (by omega)) ?_)) (hV : V' x0 = V := by exact rfl) (hH : H' x0 = H := by exact rfl) : Tr C V H L (.loop c) Q := Tr.loop V' H' L' p m x0 h0 (fun a w i => by rw [hV,hH]; exact ⟨i.1.sub hL,i.2⟩) h
end
abbrev pZ (b : Nat) : Value := .pointer (some ⟨b,0,none⟩)
abbrev cL (T b d : Nat) : Sg := [(b,.cells #[.pointer (some ⟨d,0,none⟩)] T (0,0))]
abbrev cD (T b : Nat) (r : Int) (v : Value) (l i : Int) : Sg := [(b,.cells #[.int .i64 r,v,.int .i64 l,.int .i64 i] T (0,0))]
end Go.K
