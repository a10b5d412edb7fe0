/- The rules of the walks: one for each form of code and for each operation that stays in its slots, or reads.
Conditions: none; nothing here speaks of a program. -/
import Derived.Test.YtjfacdepgkdoeaaK
namespace Go.K

structure Cx where
  P : Program
  n : Nat
  B : World
  S : List Nat
  U : Vw
  D : List Deferred := []

def Is (C : Cx) (V : Vw) (H : Hp) (L : Sl) (a : Act) (w : World) : Prop := Env C.n L a C.D ∧ St C.B C.S C.U V H w
def Tr (C : Cx) (V : Vw) (H : Hp) (L : Sl) (c : Code) (Q : Exit → Act → World → Prop) : Prop := ∀ a w, Is C V H L a w → c.wp C.P Q a w
def Run (C : Cx) (ops : Array Oper) (V : Vw) (H : Hp) (L : Sl) (os : List Oper) (Q : Exit → Act → World → Prop) : Prop := ∀ a w, Is C V H L a w → wpList C.P ops Q os a w

/-- What a function does: with what stays as V, and with H owned. -/
def Does (P : Program) (f : FuncId) (args : List Value) (V : Vw) (H : Hp) (R : Value → Vw → Hp → Prop) : Prop :=
  (∃ fn, P.funcs[f]? = some fn ∧ (fn.name == "runtime.NumGoroutine") = false ∧ fn.body.isNone = false) ∧
  ∀ B, St B (keys H) V V H B → Calls P f args.toArray B fun e w' => ∃ v V' H', e = .returned v ∧ R v V' H' ∧ St B (keys H) V V' H' w'

section
variable {C : Cx} {V : Vw} {H : Hp} {L : Sl} {Q : Exit → Act → World → Prop} {ops : Array Oper} {os : List Oper}

theorem Does.mono {P : Program} {f : FuncId} {args : List Value} {R R' : Value → Vw → Hp → Prop} (h : Does P f args V H R) (k : ∀ v V' H', R v V' H' → R' v V' H') : Does P f args V H R' :=
  ⟨h.1, fun B hB => (h.2 B hB).mono fun _ _ ⟨v, V', H', e, r, s⟩ => ⟨v, V', H', e, k _ _ _ r, s⟩⟩

theorem Does.intro {P : Program} {f : FuncId} {fn : Func} {c : Code} {args : List Value} {R : Value → Vw → Hp → Prop} (hf : P.funcs[f]? = some fn) (hb : fn.body = some c) (hnm : (fn.name == "runtime.NumGoroutine") = false) (hn : args.length ≤ fn.ntmps)
    (h : ∀ B, Tr ⟨P, fn.ntmps, B, keys H, V, []⟩ V H ((List.range args.length).zip args) c (bodyPost P fn fun e w' => ∃ v V' H', e = .returned v ∧ R v V' H' ∧ St B (keys H) V V' H' w')) :
    Does P f args V H R := ⟨⟨fn, hf, hnm, by rw [hb]; rfl⟩, fun B hB => calls_of_wp hf hb (h B _ _ ⟨Env.start args fn.ntmps hn, hB⟩)⟩

/-! ### Code -/
theorem Tr.seq {x y : Code} (h : Tr C V H L x (Exit.then (y.wp C.P Q) Q)) : Tr C V H L (.seq x y) Q := fun a w i => wp_seq (h a w i)
theorem Tr.skip (h : ∀ a w, Is C V H L a w → Q .normal a w) : Tr C V H L .skip Q := fun a w i => wp_skip (h a w i)
theorem Tr.block {id : Nat} {c : Code} (h : Tr C V H L c (Exit.inBlock id Q)) : Tr C V H L (.block id c) Q := fun a w i => wp_block (h a w i)
theorem Tr.exit {id : Nat} (h : ∀ a w, Is C V H L a w → Q (.exit id) a w) : Tr C V H L (.exit id) Q := fun a w i => wp_exit (h a w i)
theorem Tr.ret (h : ∀ a w, Is C V H L a w → Q .ret a w) : Tr C V H L .ret Q := fun a w i => wp_ret (h a w i)
theorem Tr.cond {c : Operand} {x y : Code} {t : Bool} (hc : ev L c = some (.bool t)) (ht : t = true → Tr C V H L x Q) (hf : t = false → Tr C V H L y Q) : Tr C V H L (.cond c x y) Q :=
  fun a w i => wp_cond_split (i.1.ev hc) (fun e => ht e a w i) (fun e => hf e a w i)
theorem Tr.cond_t {c : Operand} {x y : Code} {t : Bool} (hc : ev L c = some (.bool t)) (e : t = true) (ht : Tr C V H L x Q) : Tr C V H L (.cond c x y) Q :=
  fun a w i => wp_cond_true (by rw [i.1.ev hc, e]) (ht a w i)
theorem Tr.cond_f {c : Operand} {x y : Code} {t : Bool} (hc : ev L c = some (.bool t)) (e : t = false) (hf : Tr C V H L y Q) : Tr C V H L (.cond c x y) Q :=
  fun a w i => wp_cond_false (by rw [i.1.ev hc, e]) (hf a w i)
theorem Tr.region {id : Nat} {l : List Oper} (h : Run C l.toArray V H L l Q) : Tr C V H L (.region id l.toArray false) Q := fun a w i => wp_region_lit (h a w i)

/-- Where ways meet again, or too much is known: one state for all that follows. -/
theorem Tr.cut {x y : Code} (V' : Vw) (H' : Hp) (L' : Sl) (h : Tr C V H L x (Exit.then (Is C V' H' L') Q)) (k : Tr C V' H' L' y Q) : Tr C V H L (.seq x y) Q :=
  fun a w i => wp_seq (Code.wp_mono (fun e a' w' q => by cases e <;> first | exact k a' w' q | exact q) (h a w i))

/-- The same where what is known is a matter of x. -/
theorem Tr.cutx {x y : Code} {X : Type} (V' : X → Vw) (H' : X → Hp) (L' : X → Sl) (p : X → Prop) (h : Tr C V H L x (Exit.then (fun a w => ∃ x, p x ∧ Is C (V' x) (H' x) (L' x) a w) Q))
    (k : ∀ x, p x → Tr C (V' x) (H' x) (L' x) y Q) : Tr C V H L (.seq x y) Q :=
  fun a w i => wp_seq (Code.wp_mono (fun e a' w' q => by cases e <;> first | (obtain ⟨x, hp, i'⟩ := q; exact k x hp a' w' i') | exact q) (h a w i))

theorem Tr.sub {c : Code} (L' : Sl) (h : subB L L') (k : Tr C V H L' c Q) : Tr C V H L c Q := fun a w i => k a w ⟨i.1.sub h, i.2⟩
theorem Tr.perm {c : Code} {H' : Hp} (h : H'.Perm H) (k : Tr C V H' L c Q) : Tr C V H L c Q := fun a w i => k a w ⟨i.1, i.2.perm h⟩
theorem Tr.leak {c : Code} {s : Sg} {H : Hp} (k : Tr C (fun c => match s.lookup c with | some o => some o | none => V c) H L c Q) : Tr C V (s :: H) L c Q := fun a w i => k a w ⟨i.1, i.2.leak⟩
theorem Tr.forget {c : Code} {H H' : Hp} (k : Tr C V H L c Q) : Tr C V (H' ++ H) L c Q := fun a w i => k a w ⟨i.1, i.2.drop⟩

/-- A loop: x is what a round's head knows. -/
theorem Tr.loop {c : Code} {X : Type} (V' : X → Vw) (H' : X → Hp) (L' : X → Sl) (p : X → Prop) (m : X → Nat) (x0 : X) (h0 : p x0) (he : ∀ a w, Is C V H L a w → Is C (V' x0) (H' x0) (L' x0) a w)
    (h : ∀ x, p x → Tr C (V' x) (H' x) (L' x) c (Exit.then (fun a w => ∃ y, p y ∧ m y < m x ∧ Is C (V' y) (H' y) (L' y) a w) Q)) : Tr C V H L (.loop c) Q := by
  intro a w i b k cs
  have key : ∀ k0 x, m x = k0 → p x → ∀ a w, Is C (V' x) (H' x) (L' x) a w →
      ∃ e a' w', Q e a' w' ∧ Arrives C.P (lone (b.at a (.code c :: .inLoop c :: k)) cs w) b k cs e a' w' := by
    intro k0
    induction k0 using Nat.strongRecOn with
    | _ k0 ih =>
      intro x hx hp a w i
      obtain ⟨e, a₁, w₁, hq, harr⟩ := h x hp a w i b (.inLoop c :: k) cs
      cases e with
      | normal =>
        obtain ⟨y, hy, hlt, hi⟩ := hq
        obtain ⟨e₂, a₂, w₂, hq₂, harr₂⟩ := ih (m y) (hx ▸ hlt) y rfl hy a₁ w₁ hi
        exact ⟨e₂, a₂, w₂, hq₂, .of_steps (Steps.trans harr (.one step_inLoop)) harr₂⟩
      | exit id => exact ⟨_, a₁, w₁, hq, .pass (x := .inLoop c) rfl (fun _ _ => .inl (by simp)) harr⟩
      | goto l => exact ⟨_, a₁, w₁, hq, .pass (x := .inLoop c) rfl (fun _ _ => .inl (by simp)) harr⟩
      | ret => exact ⟨_, a₁, w₁, hq, .pass (x := .inLoop c) rfl (fun _ _ => .inl (by simp)) harr⟩
      | panic ch => exact ⟨_, a₁, w₁, hq, .pass (x := .inLoop c) rfl (fun _ _ => .inl (by simp)) harr⟩
      | outgrown => exact ⟨_, a₁, w₁, hq, .pass (x := .inLoop c) rfl (fun _ _ => .inl (by simp)) harr⟩
  obtain ⟨e, a', w', hq, harr⟩ := key _ x0 rfl h0 a w (he a w i)
  exact ⟨e, a', w', hq, .of_steps (.one step_loop) harr⟩

/-! ### Returns -/
section
variable {fn : Func} {B : World} {S : List Nat} {U : Vw} {P : Program} {n : Nat} {R : Value → Vw → Hp → Prop}
theorem ret1 {t : Tmp} {v : Value} (hr : fn.results = #[.tmp t]) (hv : L.lookup t = some v) (hR : R v V H) (a : Act) (w : World) (i : Is ⟨P, n, B, S, U, []⟩ V H L a w) :
    bodyPost P fn (fun e w' => ∃ v V' H', e = .returned v ∧ R v V' H' ∧ St B S U V' H' w') .ret a w :=
  ⟨i.1.df, v, by rw [results_tmp hr, Array.getD_eq_getD_getElem?, i.1.lk t v hv]; rfl, v, V, H, rfl, hR, i.2⟩
theorem ret2 {t u : Tmp} {v z : Value} (hr : fn.results = #[.tmp t, .tmp u]) (hv : L.lookup t = some v) (hz : L.lookup u = some z) (hR : R (.tuple #[v, z]) V H) (a : Act) (w : World) (i : Is ⟨P, n, B, S, U, []⟩ V H L a w) :
    bodyPost P fn (fun e w' => ∃ v V' H', e = .returned v ∧ R v V' H' ∧ St B S U V' H' w') .ret a w :=
  ⟨i.1.df, _, by rw [results_tmp2 hr, Array.getD_eq_getD_getElem?, Array.getD_eq_getD_getElem?, i.1.lk t v hv, i.1.lk u z hz]; rfl, _, V, H, rfl, hR, i.2⟩
theorem ret3 {t u r : Tmp} {v z y : Value} (hr : fn.results = #[.tmp t, .tmp u, .tmp r]) (hv : L.lookup t = some v) (hz : L.lookup u = some z) (hy : L.lookup r = some y) (hR : R (.tuple #[v, z, y]) V H) (a : Act) (w : World) (i : Is ⟨P, n, B, S, U, []⟩ V H L a w) :
    bodyPost P fn (fun e w' => ∃ v V' H', e = .returned v ∧ R v V' H' ∧ St B S U V' H' w') .ret a w :=
  ⟨i.1.df, .tuple #[v, z, y], by simp [results, hr, Array.getD_eq_getD_getElem?, i.1.lk t v hv, i.1.lk u z hz, i.1.lk r y hy], _, V, H, rfl, hR, i.2⟩
theorem ret0 (hr : fn.results = #[]) (hR : R (.tuple #[]) V H) (a : Act) (w : World) (i : Is ⟨P, n, B, S, U, []⟩ V H L a w) :
    bodyPost P fn (fun e w' => ∃ v V' H', e = .returned v ∧ R v V' H' ∧ St B S U V' H' w') .ret a w :=
  ⟨i.1.df, _, results_none hr _ _ _, _, V, H, rfl, hR, i.2⟩
theorem end0 (hr : fn.results = #[]) (hR : R (.tuple #[]) V H) (a : Act) (w : World) (i : Is ⟨P, n, B, S, U, []⟩ V H L a w) :
    bodyPost P fn (fun e w' => ∃ v V' H', e = .returned v ∧ R v V' H' ∧ St B S U V' H' w') .normal a w :=
  ⟨i.1.df, _, results_none hr _ _ _, _, V, H, rfl, hR, i.2⟩
end

/-! ### A region's operations -/
theorem Run.nil (h : ∀ a w, Is C V H L a w → Q .normal a w) : Run C ops V H L [] Q := h
theorem Run.nil_then {y : Code} (h : Tr C V H L y Q) : Run C ops V H L [] (Exit.then (y.wp C.P Q) Q) := h

theorem Run.sub (L' : Sl) (h : subB L L') (k : Run C ops V H L' os Q) : Run C ops V H L os Q := fun a w i => k a w ⟨i.1.sub h, i.2⟩
theorem Run.perm {H' : Hp} (h : H'.Perm H) (k : Run C ops V H' L os Q) : Run C ops V H L os Q := fun a w i => k a w ⟨i.1, i.2.perm h⟩
theorem Run.leak {s : Sg} {H : Hp} (k : Run C ops (fun c => match s.lookup c with | some o => some o | none => V c) H L os Q) : Run C ops V (s :: H) L os Q := fun a w i => k a w ⟨i.1, i.2.leak⟩

/-- An operation whose guard says yes. -/
theorem Run.on {o : Oper} {j : Nat} {t : Bool} {d : Nat} {b : Bool} (hg : o.guard = some (j, t)) (hj : ((ops[j]?).bind (·.dst)) = some d) (hb : L.lookup d = some (.bool b)) (e : b = t)
    (k : Run C ops V H L (⟨o.dst, o.op, o.type, o.pos, o.after, none⟩ :: os) Q) : Run C ops V H L (o :: os) Q := fun a w i => by
  have h := k a w i
  have hw : Region.wanted o (yielded ops a.tmps) = true := by
    simp only [Region.wanted, hg, yielded, hj, Option.bind_some, i.1.lk d _ hb, e, beq_self_eq_true]
  unfold wpList at h ⊢
  rw [if_pos hw]
  rw [if_pos (by simp [Region.wanted])] at h
  exact h

/-- And one whose guard says no. -/
theorem Run.off {o : Oper} {j : Nat} {t : Bool} {d dd : Nat} {b : Bool} (hg : o.guard = some (j, t)) (hj : ((ops[j]?).bind (·.dst)) = some d) (hb : L.lookup d = some (.bool b)) (e : b = !t) (hd : o.dst = some dd) (hn : dd < C.n)
    (k : Run C ops V H ((dd, undef) :: L) os Q) : Run C ops V H L (o :: os) Q := fun a w i => by
  have hw : Region.wanted o (yielded ops a.tmps) = false := by
    simp only [Region.wanted, hg, yielded, hj, Option.bind_some, i.1.lk d _ hb, e]; cases t <;> rfl
  unfold wpList
  rw [if_neg (by simp [hw]), hd]
  exact k _ _ ⟨i.1.put hn _, i.2⟩

theorem Run.off_none {o : Oper} {j : Nat} {t : Bool} {d : Nat} {b : Bool} (hg : o.guard = some (j, t)) (hj : ((ops[j]?).bind (·.dst)) = some d) (hb : L.lookup d = some (.bool b)) (e : b = !t) (hd : o.dst = none)
    (k : Run C ops V H L os Q) : Run C ops V H L (o :: os) Q := fun a w i => by
  have hw : Region.wanted o (yielded ops a.tmps) = false := by
    simp only [Region.wanted, hg, yielded, hj, Option.bind_some, i.1.lk d _ hb, e]; cases t <;> rfl
  unfold wpList
  rw [if_neg (by simp [hw]), hd]
  exact k _ _ i

variable {ty : TypeId} {pos : String} {aft : Array Edge} {d : Nat}

/-- What an operation yields, that leaves the world alone: now, and where more is known to stay. -/
def Yl (C : Cx) (V : Vw) (H : Hp) (L : Sl) (op : Op) (ty : TypeId) (v : Value) : Prop :=
  ∀ V' a w, V.le V' → Is C V' H L a w → ∀ o : Oper, o.op = op → o.type = ty → (execOp a.eval o).run C.P w = .ok (.value v) w

theorem Run.val {op : Op} {v : Value} (hd : d < C.n) (hx : Yl C V H L op ty v)
    (k : Run C ops V H ((d, v) :: L) os Q) : Run C ops V H L (⟨some d, op, ty, pos, aft, none⟩ :: os) Q := fun a w i => by
  unfold wpList
  rw [if_pos (by simp [Region.wanted])]
  refine .inl ?_
  unfold Oper.wp
  rw [hx V a w (Vw.le_refl V) i _ rfl rfl]
  exact k _ _ ⟨i.1.put hd v, i.2⟩

/-- One that yields a value, and leaves another world. -/
theorem Run.step {op : Op} {p : Value → Vw → Hp → Prop} (hd : d < C.n)
    (hx : ∀ a w, Is C V H L a w → ∃ v w' V' H', (execOp a.eval ⟨some d, op, ty, pos, aft, none⟩).run C.P w = .ok (.value v) w' ∧ p v V' H' ∧ St C.B C.S C.U V' H' w')
    (k : ∀ v V' H', p v V' H' → Run C ops V' H' ((d, v) :: L) os Q) : Run C ops V H L (⟨some d, op, ty, pos, aft, none⟩ :: os) Q := fun a w i => by
  unfold wpList
  rw [if_pos (by simp [Region.wanted])]
  refine .inl ?_
  unfold Oper.wp
  obtain ⟨v, w', V', H', h1, h2, h3⟩ := hx a w i
  rw [h1]
  exact k v V' H' h2 _ _ ⟨i.1.put hd v, h3⟩

/-- A short word for 'this slot is one of the frame's'. -/
theorem lt {m n : Nat} (h : Nat.blt m n = true) : m < n := by simp [Nat.blt] at h; omega

theorem Run.act {op : Op} {V' : Vw} {H' : Hp} (hx : ∀ a w, Is C V H L a w → ∃ w', (execOp a.eval ⟨none, op, ty, pos, aft, none⟩).run C.P w = .ok .skip w' ∧ St C.B C.S C.U V' H' w')
    (k : Run C ops V' H' L os Q) : Run C ops V H L (⟨none, op, ty, pos, aft, none⟩ :: os) Q := fun a w i => by
  unfold wpList
  rw [if_pos (by simp [Region.wanted])]
  refine .inl ?_
  unfold Oper.wp
  obtain ⟨w', h1, h3⟩ := hx a w i
  rw [h1]
  exact k _ _ ⟨i.1, h3⟩

theorem Y.move {x : Operand} {v : Value} (hv : ev L x = some v) : Yl C V H L (.move x) ty (v) := (fun V2 a w hle i o ho hty => by simp only [execOp, ho, i.1.ev hv]; rfl)
theorem Y.assign {x : Operand} {v : Value} (hv : ev L x = some v) : Yl C V H L (.assign x) ty (v) := (fun V2 a w hle i o ho hty => by simp only [execOp, ho, i.1.ev hv]; rfl)
theorem Y.pick {x y z : Operand} {t : Bool} {u v r : Value} (hx : ev L x = some (.bool t)) (hy : ev L y = some u) (hz : ev L z = some v) (hr : (if t then u else v) = r) : Yl C V H L (.pick x y z) ty (r) := (fun V2 a w hle i o ho hty => by simp only [execOp, ho, i.1.ev hx, i.1.ev hy, i.1.ev hz, asBool]; cases t <;> simp at hr <;> simp [hr])
theorem Y.pick_t {x y z : Operand} {t : Bool} {u : Value} (hx : ev L x = some (.bool t)) (e : t = true) (hy : ev L y = some u) : Yl C V H L (.pick x y z) ty (u) := (fun V2 a w hle i o ho hty => by simp only [execOp, ho, i.1.ev hx, i.1.ev hy, asBool, e]; rfl)
theorem Y.pick_f {x y z : Operand} {t : Bool} {u : Value} (hx : ev L x = some (.bool t)) (e : t = false) (hz : ev L z = some u) : Yl C V H L (.pick x y z) ty (u) := (fun V2 a w hle i o ho hty => by simp only [execOp, ho, i.1.ev hx, i.1.ev hz, asBool, e]; rfl)

/-! numbers -/
def intRes (op : BinOp) (k : IntKind) (a b : Int) : Option Value :=
  match op with
  | .add => some (.int k (k.wrap (a + b))) | .sub => some (.int k (k.wrap (a - b))) | .mul => some (.int k (k.wrap (a * b)))
  | .eql => some (.bool (a == b)) | .neq => some (.bool (a != b)) | .lss => some (.bool (a < b)) | .leq => some (.bool (a ≤ b)) | .gtr => some (.bool (a > b)) | .geq => some (.bool (a ≥ b))
  | .and => some (.int k (k.wrap (BitVec.ofInt k.bits a &&& BitVec.ofInt k.bits b).toNat))
  | .or => some (.int k (k.wrap (BitVec.ofInt k.bits a ||| BitVec.ofInt k.bits b).toNat))
  | .xor => some (.int k (k.wrap (BitVec.ofInt k.bits a ^^^ BitVec.ofInt k.bits b).toNat))
  | .andNot => some (.int k (k.wrap (BitVec.ofInt k.bits a &&& ~~~BitVec.ofInt k.bits b).toNat))
  | _ => none

theorem run_eqGuard_int {P : Program} {w : World} (op : BinOp) (t : TypeId) (x y : Operand) (k k' : IntKind) (a b : Int) : (eqGuard op t x y (.int k a) (.int k' b)).run P w = .ok () w := by
  unfold eqGuard; cases op <;> rfl

theorem Y.int {x y : Operand} {k : IntKind} {m n : Int} {op : BinOp} {t t' : TypeId} {r : Value} (hx : ev L x = some (.int k m)) (hy : ev L y = some (.int k n)) (hr : intRes op k m n = some r) : Yl C V H L (.binOp op t x y t') ty (r) := (fun V2 a w hle i o ho hty => by
    simp only [execOp, ho, i.1.ev hx, i.1.ev hy, Sem.run_bind, run_eqGuard_int, Result.andThen_ok]
    cases op <;> simp only [intRes, Option.some.injEq, reduceCtorEq] at hr <;> subst hr <;> simp [binOp, Op.intArith, Op.intCmp, Op.intBits])

theorem Y.quo {x y : Operand} {k : IntKind} {m n : Int} {t t' : TypeId} (r : Int) (hx : ev L x = some (.int k m)) (hy : ev L y = some (.int k n)) (hn : n ≠ 0) (hr : k.wrap (m.tdiv n) = r) : Yl C V H L (.binOp .quo t x y t') ty (.int k r) := (fun V2 a w hle i o ho hty => by
    simp only [execOp, ho, i.1.ev hx, i.1.ev hy, Sem.run_bind, run_eqGuard_int, Result.andThen_ok]
    simp [binOp, Op.intDiv, hn, hr])
theorem Y.rem {x y : Operand} {k : IntKind} {m n : Int} {t t' : TypeId} (r : Int) (hx : ev L x = some (.int k m)) (hy : ev L y = some (.int k n)) (hn : n ≠ 0) (hr : m.tmod n = r) : Yl C V H L (.binOp .rem t x y t') ty (.int k r) := (fun V2 a w hle i o ho hty => by
    simp only [execOp, ho, i.1.ev hx, i.1.ev hy, Sem.run_bind, run_eqGuard_int, Result.andThen_ok]
    simp [binOp, Op.intDiv, hn, hr])
theorem Y.shl {x y : Operand} {k k' : IntKind} {m n : Int} {t t' : TypeId} (r : Int) (hx : ev L x = some (.int k m)) (hy : ev L y = some (.int k' n)) (hn : 0 ≤ n) (hr : k.wrap (m * 2 ^ min n.toNat k.bits) = r) : Yl C V H L (.binOp .shl t x y t') ty (.int k r) := (fun V2 a w hle i o ho hty => by
    simp only [execOp, ho, i.1.ev hx, i.1.ev hy, Sem.run_bind, run_eqGuard_int, Result.andThen_ok]
    simp [binOp, Op.shift, show ¬ n < 0 by omega, hr])
theorem Y.shr {x y : Operand} {k k' : IntKind} {m n : Int} {t t' : TypeId} (r : Int) (hx : ev L x = some (.int k m)) (hy : ev L y = some (.int k' n)) (hn : 0 ≤ n) (hr : m.fdiv (2 ^ min n.toNat k.bits) = r) : Yl C V H L (.binOp .shr t x y t') ty (.int k r) := (fun V2 a w hle i o ho hty => by
    simp only [execOp, ho, i.1.ev hx, i.1.ev hy, Sem.run_bind, run_eqGuard_int, Result.andThen_ok]
    simp [binOp, Op.shift, show ¬ n < 0 by omega, hr])
theorem Y.not {x : Operand} {b : Bool} {t : TypeId} (hx : ev L x = some (.bool b)) : Yl C V H L (.unOp .not t x) ty (.bool (!b)) := (fun V2 a w hle i o ho hty => by simp [execOp, ho, i.1.ev hx, Op.unary])
theorem Y.neg {x : Operand} {k : IntKind} {m : Int} {t : TypeId} (r : Int) (hx : ev L x = some (.int k m)) (hr : k.wrap (0 - m) = r) : Yl C V H L (.unOp .neg t x) ty (.int k r) := (fun V2 a w hle i o ho hty => by subst hr; simp [execOp, ho, i.1.ev hx, Op.unary, Op.intArith])

/-- int to int. -/
def intT (P : Program) (s t : TypeId) : Option IntKind := match P.underlying s, P.underlying t with
  | some _, some (.int k) => some k
  | _, _ => none
theorem Y.conv {x : Operand} {k k' : IntKind} {m : Int} {s t : TypeId} (r : Int) (hx : ev L x = some (.int k m)) (ht : intT C.P s t = some k') (hr : k'.wrap m = r) : Yl C V H L (.convert s t x) ty (.int k' r) := (fun V2 a w hle i o ho hty => by
    subst hr
    unfold intT at ht
    split at ht
    · rename_i u k'' h1 h2
      cases ht
      have h1' := run_underlying (w := w) h1
      have h2' := run_underlying (w := w) h2
      cases u <;> simp [execOp, ho, i.1.ev hx, convert, h1', h2', Conv.intToInt]
    · cases ht)
theorem Y.extract {x : Operand} {vs : Array Value} {ix : Nat} {v : Value} (hx : ev L x = some (.tuple vs)) (hv : vs[ix]? = some v) : Yl C V H L (.extract x ix) ty (v) := (fun V2 a w hle i o ho hty => by simp [execOp, ho, i.1.ev hx, Instr.extract, hv])
theorem Y.nilCheck {x : Operand} {p : Addr} (hx : ev L x = some (.pointer (some p))) : Yl C V H L (.nilCheck x) ty (.pointer (some p)) := (fun V2 a w hle i o ho hty => by simp [execOp, ho, i.1.ev hx])
theorem Y.makeFunc {f : Fn} {l l' : List Operand} {vs vs' : List Value} (h1 : evs L l = some vs) (h2 : evs L l' = some vs') : Yl C V H L (.makeFunc f l.toArray l'.toArray) ty (.func f vs.toArray vs'.toArray) := (fun V2 a w hle i o ho hty => by
    have e1 := i.1.evs h1
    have e2 := i.1.evs h2
    simp [execOp, ho, Instr.makeFunc, e1, e2])

/-! ### Memory that is read -/
/-- What is known to lie in block b. -/
def Kn (V : Vw) (H : Hp) (b : Nat) (o : Obj) : Prop := V b = some o ∨ (b, o) ∈ H.flatten
theorem Kn.at {b : Nat} {o : Obj} {s : Sg} (i : Nat) (h : H[i]? = some ((b, o) :: s)) : Kn V H b o := .inr (mem_of_at h (List.mem_cons_self ..))
theorem Kn.le {V' : Vw} {b : Nat} {o : Obj} (h : Kn V H b o) (k : V.le V') : Kn V' H b o := h.imp (k b o) id
theorem Kn.st {B : World} {S : List Nat} {U : Vw} {w : World} {b : Nat} {o : Obj} (h : Kn V H b o) (s : St B S U V H w) : w.heap[b]? = some o := h.elim (s.vh b o) (s.own b o)

def scal (P : Program) (t : TypeId) : Bool := match P.underlying t with
  | some (.struct _) | some (.array _ _) | none => false
  | some _ => true
def aggsz (P : Program) (t : TypeId) : Option Nat := match P.underlying t with
  | some (.struct _) | some (.array _ _) => (P.info? t).map (·.size)
  | _ => none

theorem run_isAgg_scal {P : Program} {t : TypeId} {w : World} (h : scal P t = true) : (isAgg t).run P w = .ok false w := by
  unfold scal at h
  cases hu : P.underlying t with
  | none => rw [hu] at h; cases h
  | some u =>
    rw [hu] at h
    unfold isAgg
    simp only [Sem.run_bind, run_underlying hu, Result.andThen_ok]
    cases u <;> first | rfl | cases h
theorem run_isAgg_agg {P : Program} {t : TypeId} {w : World} {z : Nat} (h : aggsz P t = some z) : (isAgg t).run P w = .ok true w ∧ (sizeOf t).run P w = .ok z w := by
  unfold aggsz at h
  cases hu : P.underlying t with
  | none => rw [hu] at h; cases h
  | some u =>
    rw [hu] at h
    have hi : ∀ z, (P.info? t).map (·.size) = some z → (sizeOf t).run P w = .ok z w := fun z hz => by
      cases hj : P.info? t with
      | none => rw [hj] at hz; cases hz
      | some j => rw [hj] at hz; cases hz; simp [sizeOf, typeInfo, hj, program, Sem.run]
    unfold isAgg
    simp only [Sem.run_bind, run_underlying hu, Result.andThen_ok]
    cases u <;> first | exact ⟨rfl, hi z h⟩ | cases h

theorem cell_of {w : World} {b off : Nat} {c : Array Value} {t : TypeId} {fz : Nat × Nat} {v : Value} (h : w.heap[b]? = some (.cells c t fz)) (hv : c[off]? = some v) : w.cell? ⟨b, off, none⟩ = some v := by
  simp [World.cell?, h, hv]

theorem Y.load {x : Operand} {b off : Nat} {c : Array Value} {e t : TypeId} {fz : Nat × Nat} {v : Value} (hx : ev L x = some (.pointer (some ⟨b, off, none⟩))) (ht : scal C.P t = true) (hk : Kn V H b (.cells c e fz)) (hv : c[off]? = some v) : Yl C V H L (.load t x) ty (v) := (fun V2 a w hle i o ho hty => by
    simp only [execOp, ho, i.1.ev hx, Instr.loadAt, Instr.sureAddr, loadVar, Sem.run_bind, Sem.run_pure, Result.andThen_ok, run_isAgg_scal ht]
    simp [cell_of ((hk.le hle).st i.2) hv])

/-- 'n' cells from 'off' on. -/
def cellsAt (c : Array Value) (off : Nat) : Nat → Option (List Value)
  | 0 => some []
  | n + 1 => match c[off]?, cellsAt c (off + 1) n with
    | some v, some vs => some (v :: vs)
    | _, _ => none

theorem Addr.add_plain (b off i : Nat) : (⟨b, off, none⟩ : Addr).add i = ⟨b, off + i, none⟩ := by
  unfold Addr.add; split
  · rename_i h; subst h; rfl
  · rfl

theorem run_loadCells {P : Program} {w : World} {b : Nat} {c : Array Value} {t : TypeId} {fz : Nat × Nat} (h : w.heap[b]? = some (.cells c t fz)) (off : Nat) : ∀ (n i : Nat) (vs : List Value) (acc : Array Value), cellsAt c (off + i) n = some vs →
    (loadCellsFrom ⟨b, off, none⟩ i n acc).run P w = .ok (acc ++ vs.toArray) w
  | 0, i, vs, acc, hv => by cases hv; simp [loadCellsFrom]
  | n + 1, i, vs, acc, hv => by
    unfold cellsAt at hv
    split at hv
    · rename_i v vs' h1 h2
      cases hv
      have hc := cell_of h h1
      have := run_loadCells (P := P) h off n (i + 1) vs' (acc.push v) h2
      simp only [loadCellsFrom, Addr.add_plain, Sem.run_bind, run_load, hc, Result.andThen_ok, this]
      simp
    · cases hv

theorem Y.loadAgg {x : Operand} {b off z : Nat} {c : Array Value} {e t : TypeId} {fz : Nat × Nat} {vs : List Value} (hx : ev L x = some (.pointer (some ⟨b, off, none⟩))) (ht : aggsz C.P t = some z) (hk : Kn V H b (.cells c e fz)) (hv : cellsAt c off z = some vs) : Yl C V H L (.load t x) ty (.agg vs.toArray) := (fun V2 a w hle i o ho hty => by
    have h1 := run_isAgg_agg (w := w) ht
    simp only [execOp, ho, i.1.ev hx, Instr.loadAt, Instr.sureAddr, loadVar, Sem.run_bind, Sem.run_pure, Result.andThen_ok, h1.1, h1.2, if_true, loadCells]
    rw [run_loadCells ((hk.le hle).st i.2) off z 0 vs #[] hv]
    simp)

def fieldOff (P : Program) (s : TypeId) (f : Nat) : Option Nat := match P.underlying s with
  | some (.struct fs) => match fs[f]? with
    | some g => match P.info? g.type with
      | some i => if i.size = 0 then none else some g.offset
      | none => none
    | none => none
  | _ => none

theorem Y.fieldAddr {x : Operand} {b off o : Nat} {s : TypeId} {f : Nat} (hx : ev L x = some (.pointer (some ⟨b, off, none⟩))) (hf : fieldOff C.P s f = some o) : Yl C V H L (.fieldAddr s x f) ty (.pointer (some ⟨b, off + o, none⟩)) := (fun V2 a w hle i o ho hty => by
    unfold fieldOff at hf
    cases hu : C.P.underlying s with
    | none => rw [hu] at hf; cases hf
    | some u =>
      rw [hu] at hf
      cases u <;> simp only [reduceCtorEq] at hf
      rename_i fs
      cases hg : fs[f]? with
      | none => rw [hg] at hf; cases hf
      | some g =>
        rw [hg] at hf
        cases hj : C.P.info? g.type with
        | none => simp only [hj, reduceCtorEq] at hf
        | some j =>
          simp only [hj] at hf
          split at hf
          · cases hf
          · rename_i hz
            cases hf
            have hs : (sizeOf g.type).run C.P w = .ok j.size w := by simp [sizeOf, typeInfo, hj, program, Sem.run]
            simp only [execOp, ho, i.1.ev hx, Instr.fieldAt, Sem.run_bind, run_underlying hu, Result.andThen_ok, hg, Instr.sureAddr, Sem.run_pure, fieldPlace, hs, Sem.run_ite, if_neg hz, Addr.add_plain])
end
end Go.K
