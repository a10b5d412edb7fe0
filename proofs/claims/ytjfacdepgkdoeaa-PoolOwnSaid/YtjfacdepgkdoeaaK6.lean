/- The rules of the walks on statements whose order Go leaves open: what only reads may be walked in the text's order; what writes, or makes memory, comes behind all that.
Conditions: none; nothing here speaks of a program. -/
import Derived.Test.YtjfacdepgkdoeaaK5
import Derived.Deep.Quiet
import Derived.StillTail
namespace Go.K

theorem St.weak {B : World} {S : List Nat} {U V V' : Vw} {H : Hp} {w : World} (h : St B S U V' H w) (k : V.le V') (ku : U.le V) : St B S U V H w :=
  ⟨h.os, h.tape, h.output, h.size, h.fr, h.own, h.nd, h.dom, ku, fun b o hb => h.vh b o (k b o hb), fun b o hb => h.vd b o (k b o hb), fun b o hb => h.vn b o (k b o hb)⟩

/-- The worlds that calls which change nothing may leave. -/
def Cl (C : Cx) (V : Vw) (H : Hp) (w : World) : Prop := C.U.le V ∧ ∃ V', V.le V' ∧ St C.B C.S C.U V' H w

theorem Cl.st {C : Cx} {V : Vw} {H : Hp} {w : World} (h : Cl C V H w) : St C.B C.S C.U V H w := let ⟨hu, _, k, s⟩ := h; s.weak k hu
theorem Cl.of {C : Cx} {V : Vw} {H : Hp} {w : World} (h : St C.B C.S C.U V H w) : Cl C V H w := ⟨h.le, V, Vw.le_refl V, h⟩

/-! ### A head that reads, a tail that acts -/
section
variable {P : Program} {ops : Array Oper} {md : Region.Mode} {D : World → Prop}

/-- The head's operations come up, in whatever order; when all have, 'E' holds. -/
def headQ (P : Program) (md : Region.Mode) (ops : Array Oper) (D : World → Prop) (n : Nat) (E : Array Bool → Act → Prop) : Nat → Array Bool → Act → Prop
  | 0, listed, a => E listed a
  | f + 1, listed, a => Region.ready md ops listed ≠ [] ∧ ∀ i, i ∈ Region.ready md ops listed → i < n ∧ qOp P ops D i (headQ P md ops D n E f (listed.setIfInBounds i true)) a

theorem any_of_headQ {n g : Nat} {E : Array Bool → Act → Prop} {Q : Exit → Act → World → Prop} (hE : ∀ listed a w, D w → E listed a → wpAny P md ops Q g listed a w) :
    ∀ (f : Nat) (listed : Array Bool) (a : Act) (w : World), D w → headQ P md ops D n E f listed a → wpAny P md ops Q (g + f) listed a w
  | 0, _, _, _, hw, h => hE _ _ _ hw h
  | f + 1, listed, a, w, hw, h => ⟨fun h0 => (h.1 h0).elim, fun i hi => wpOp_of_qOp hw (fun a' w' hw' h' => any_of_headQ hE f _ a' w' hw' h') (h.2 i hi).2⟩

theorem headQ_take {n i : Nat} {oi : Oper} {v : Value} {E : Array Bool → Act → Prop} (hi : ops[i]? = some oi) (hsel : ∀ (j : Nat) (o : Oper) cs b, ops[j]? = some o → o.op ≠ .select cs b)
    (hs : Region.sinkB md ops n = true) (hc : Region.chainB md ops n = true) (hn : n < ops.size) (hin : i < n) (hE : ∀ listed a, E listed a → ∀ j, j ∈ Region.ready md ops listed → n ≤ j) (f : Nat) :
    ∀ (listed : Array Bool) (a : Act), HeadInv md ops n listed →
      (∀ j oj, ops[j]? = some oj → j ≠ i → listed.getD j true = false → (∀ e, e ∈ oj.after → Region.binds md e = true → e.on ≠ i) → oi.apart ops oj = true) →
      i ∈ Region.ready md ops listed → YieldsIn P ops D oi v a → headQ P md ops D n E f (listed.setIfInBounds i true) (a.put oi.dst v) → headQ P md ops D n E (f + 1) listed a := by
  -- what may come up is of the head
  have inHead : ∀ listed, HeadInv md ops n listed → i ∈ Region.ready md ops listed → ∀ j, j ∈ Region.ready md ops listed → j < n := fun listed inv hr j hj =>
    Nat.lt_of_not_le fun h => tail_waits hs hc hn inv _ i rfl hin (mem_ready.1 hr).1 j h hj
  have notNil : ∀ listed, i ∈ Region.ready md ops listed → Region.ready md ops listed ≠ [] := fun listed hr h => by rw [h] at hr; cases hr
  induction f with
  | zero =>
    intro listed a inv _ hr hy hh
    refine ⟨notNil listed hr, fun j hj => ⟨inHead listed inv hr j hj, ?_⟩⟩
    by_cases e : j = i
    · subst e; exact hy.qOp hi hh
    · have h1 := hE _ _ hh j (ready_mono hj e)
      have h2 := inHead listed inv hr j hj
      omega
  | succ f ih =>
    intro listed a inv hfree hr hy hh
    refine ⟨notNil listed hr, fun j hj => ⟨inHead listed inv hr j hj, ?_⟩⟩
    by_cases e : j = i
    · subst e; exact hy.qOp hi hh
    · have hjn := inHead listed inv hr j hj
      obtain ⟨hju, oj, hoj, hdeps⟩ := mem_ready.1 hj
      have hno : ∀ ed, ed ∈ oj.after → Region.binds md ed = true → ed.on ≠ i := fun ed he hb heq => by
        have h1 := hdeps ed he hb
        rw [heq, getD_both (mem_ready.1 hr).1] at h1
        cases h1
      have h2 := qOp_put hoj (hfree j oj hoj e hju hno) (fun cs b => hsel i oi cs b hi) (fun cs b => hsel j oj cs b hoj) hy (hh.2 j (ready_mono hj e)).2
      refine qOp_mono (fun a' ⟨h3, h4⟩ => ih (listed.setIfInBounds j true) a' (inv.set hj hjn) (fun k ok hk hki hku hkn => hfree k ok hk hki ?_ hkn) (ready_mono hr fun q => e q.symm) h3 ?_) h2
      · by_cases q : j = k
        · subst q; exact hju
        · rw [getD_set_ne true q] at hku; exact hku
      · rw [Array.setIfInBounds_comm _ _ e]; exact h4

theorem headQ_lex {n g : Nat} {E : Act → Prop} (hsel : Region.noSelect ops = true) (hs : Region.sinkB md ops n = true) (hc : Region.chainB md ops n = true) (hn : n < ops.size) :
    ∀ (l : List Oper) (k : Nat) (listed : Array Bool) (a : Act), (∀ j, j < l.length → l[j]? = ops[k + j]?) → k + l.length = n → HeadInv md ops n listed → Region.lexHead md ops g l.length k listed = true → wpQuiet P ops D E l a →
    headQ P md ops D n (fun listed' a' => Region.seqB md ops g n listed' = true ∧ E a') l.length listed a
  | [], k, listed, a, _, hk, _, hB, h => by
    have e : k = n := by simpa using hk
    subst e
    exact ⟨by simpa [Region.lexHead] using hB, h⟩
  | o :: l, k, listed, a, hl, hk, inv, hB, h => by
    have h0 : ops[k]? = some o := by simpa using (hl 0 (by simp)).symm
    simp only [List.length_cons] at hk
    simp only [List.length_cons, Region.lexHead, Bool.and_eq_true] at hB
    obtain ⟨⟨hr, hf⟩, hB'⟩ := hB
    have hr' : k ∈ Region.ready md ops listed := by simpa using hr
    have hq : qOp P ops D k (wpQuiet P ops D E l) a := by unfold qOp; simp only [h0]; exact h
    obtain ⟨v, hy, hK⟩ := yieldsIn_of_qOp h0 hq
    exact headQ_take h0 (Region.noSelect_spec hsel) hs hc hn (by omega) (fun listed' a' hL => seqB_ready hL.1) l.length listed a inv (Region.free_spec h0 hf) hr' hy
      (headQ_lex hsel hs hc hn l (k + 1) _ _ (fun j hj => by have := hl (j + 1) (by simp; omega); simpa [Nat.add_assoc, Nat.add_comm 1 j] using this) (by omega) (inv.set hr' (by omega)) hB' hK)

theorem wp_region_head_tail {id : Nat} {Q : Exit → Act → World → Prop} {a : Act} {w : World} {l : List Oper} (n : Nat) (hm : P.follows .mixedOrders = true) (hB : Region.lexTailB .any l.toArray n = true) (hD : D { w with drawn := w.drawn + 1 })
    (h : wpQuiet P l.toArray D (fun a' => ∀ w', D w' → wpList P l.toArray Q (l.drop n) a' w') (l.take n) a) : (Code.region id l.toArray true).wp P Q a w := by
  simp only [Region.lexTailB, Bool.and_eq_true, decide_eq_true_eq] at hB
  obtain ⟨⟨⟨⟨hsel, hn⟩, hs⟩, hc⟩, hlex⟩ := hB
  have hn' : n < l.length := by simpa using hn
  have htl : (l.take n).length = n := by simp; omega
  have hdl : (l.drop n).length = l.toArray.size - n := by simp
  have inv0 : HeadInv .any l.toArray n (Array.replicate l.toArray.size false) :=
    ⟨by simp, fun j oj _ hl => (by rw [getD_replicate_false] at hl; cases hl), fun t _ ht => getD_in (by simpa using ht) (getD_replicate_false _ _)⟩
  have hh := headQ_lex (md := .any) (g := l.toArray.size - n) hsel hs hc hn (l.take n) 0 _ a (fun j hj => by
    have hj' : j < n := by rw [htl] at hj; exact hj
    simp [hj']) (by simpa using htl) inv0 (by rw [htl]; exact hlex) h
  refine wp_region_any hm ?_
  have := any_of_headQ (Q := Q) (g := l.toArray.size - n) (fun listed a' w' hw' hL => by
    have := wpAny_of_seq (md := .any) (Q' := Q) (l.drop n) n listed a' w' (fun j => by simp [List.getElem?_drop]) (by rw [hdl]; exact hL.1) (hL.2 w' hw')
    rwa [hdl] at this) _ _ _ _ hD hh
  rw [htl, show l.toArray.size - n + n = l.toArray.size by omega] at this
  exact this
end

section
variable {C : Cx} {V : Vw} {H : Hp} {L : Sl} {Q : Exit → Act → World → Prop} {ops : Array Oper} {os : List Oper}
variable {ty : TypeId} {pos : String} {aft : Array Edge} {d : Nat}

/-- Operations that only read, in the text's order; behind them K of the slots, in whatever world they leave. -/
def RunQ (C : Cx) (ops : Array Oper) (V : Vw) (H : Hp) (L : Sl) (os : List Oper) (K : Act → World → Prop) : Prop :=
  ∀ a, Env C.n L a C.D → wpQuiet C.P ops (Cl C V H) (fun a' => ∀ w', Cl C V H w' → K a' w') os a

theorem Tr.quiet {id : Nat} {l : List Oper} (hm : C.P.follows .mixedOrders = true) (hB : Region.lexB .any l.toArray = true) (h : RunQ C l.toArray V H L l (Q .normal)) : Tr C V H L (.region id l.toArray true) Q :=
  fun a _ i => wp_region_quiet hm hB (Cl.of i.2.drew) (by simpa using h a i.1)

theorem Tr.tail {id : Nat} {l : List Oper} (n : Nat) (hm : C.P.follows .mixedOrders = true) (hB : Region.lexTailB .any l.toArray n = true) (h : RunQ C l.toArray V H L (l.take n) (wpList C.P l.toArray Q (l.drop n))) : Tr C V H L (.region id l.toArray true) Q :=
  fun a _ i => wp_region_head_tail n hm hB (Cl.of i.2.drew) (h a i.1)

variable {K : Act → World → Prop}
theorem RunQ.nil (h : ∀ a w, Is C V H L a w → K a w) : RunQ C ops V H L [] K := fun a ha w' hw' => h a w' ⟨ha, hw'.st⟩
theorem RunQ.nil_run {os' : List Oper} (h : Run C ops V H L os' Q) : RunQ C ops V H L [] (wpList C.P ops Q os') := RunQ.nil h
theorem RunQ.nil_then {y : Code} (h : Tr C V H L y Q) : RunQ C ops V H L [] (Exit.then (y.wp C.P Q) Q .normal) := RunQ.nil h
theorem RunQ.sub (L' : Sl) (h : subB L L') (k : RunQ C ops V H L' os K) : RunQ C ops V H L os K := fun a i => k a (i.sub h)

theorem RunQ.val {op : Op} {v : Value} (hd : d < C.n) (hx : Yl C V H L op ty v) (k : RunQ C ops V H ((d, v) :: L) os K) : RunQ C ops V H L (⟨some d, op, ty, pos, aft, none⟩ :: os) K := fun a i => by
  unfold wpQuiet
  rw [if_pos (by simp [Region.wanted])]
  refine ⟨v, fun w hw => ?_, k _ (i.put hd v)⟩
  unfold Oper.quietAt
  rw [hx V a w (Vw.le_refl V) ⟨i, hw.st⟩ _ rfl rfl]
  exact ⟨rfl, rfl⟩

theorem RunQ.on {o : Oper} {j : Nat} {t : Bool} {d : Nat} {b : Bool} (hg : o.guard = some (j, t)) (hj : ((ops[j]?).bind (·.dst)) = some d) (hb : L.lookup d = some (.bool b)) (e : b = t)
    (k : RunQ C ops V H L (⟨o.dst, o.op, o.type, o.pos, o.after, none⟩ :: os) K) : RunQ C ops V H L (o :: os) K := fun a i => by
  have h := k a i
  have hw : Region.wanted o (yielded ops a.tmps) = true := by
    simp only [Region.wanted, hg, yielded, hj, Option.bind_some, i.lk d _ hb, e, beq_self_eq_true]
  unfold wpQuiet at h ⊢
  rw [if_pos hw]
  rw [if_pos (by simp [Region.wanted])] at h
  exact h

theorem RunQ.off {o : Oper} {j : Nat} {t : Bool} {d dd : Nat} {b : Bool} (hg : o.guard = some (j, t)) (hj : ((ops[j]?).bind (·.dst)) = some d) (hb : L.lookup d = some (.bool b)) (e : b = !t) (hd : o.dst = some dd) (hn : dd < C.n)
    (k : RunQ C ops V H ((dd, undef) :: L) os K) : RunQ C ops V H L (o :: os) K := fun a i => by
  have hw : Region.wanted o (yielded ops a.tmps) = false := by
    simp only [Region.wanted, hg, yielded, hj, Option.bind_some, i.lk d _ hb, e]; cases t <;> rfl
  unfold wpQuiet
  rw [if_neg (by simp [hw]), hd]
  exact k _ (i.put hn _)

/-- A call that changes nothing, and hands back one value. -/
theorem RunQ.call {x : Operand} {l : List Operand} {at_ : Array TypeId} {f : FuncId} {first cap : Array Value} {vs args : List Value} {v : Value} (is : List Nat)
    (hx : ev L x = some (.func (.func f) first cap)) (hl : evs L l = some vs) (ha : first.toList ++ vs ++ cap.toList = args) (hd : d < C.n) (hc : Does C.P f args V (pull is H).2 (fun v' _ H' => v' = v ∧ H' = (pull is H).2))
    (k : RunQ C ops V H ((d, v) :: L) os K) : RunQ C ops V H L (⟨some d, .call { callee := .value x, args := l.toArray, argTypes := at_ }, ty, pos, aft, none⟩ :: os) K := fun a i => by
  unfold wpQuiet
  rw [if_pos (by simp [Region.wanted])]
  refine ⟨v, fun w hw => ?_, k _ (i.put hd v)⟩
  have hst : St C.B C.S C.U V ((pull is H).1 ++ (pull is H).2) w := hw.st.perm (pull_perm is H)
  have e1 := i.ev hx
  have e2 := i.evs hl
  have hr : (execOp a.eval ⟨some d, .call { callee := .value x, args := l.toArray, argTypes := at_ }, ty, pos, aft, none⟩).run C.P w = .ok (.enter f args.toArray) w := by
    have ha' : first ++ (l.map a.eval).toArray ++ cap = args.toArray := by rw [e2, ← ha]; simp
    simp only [execOp, resolve, e1, Deferred.ofValue, Sem.run_bind, Sem.run_pure, Result.andThen_ok, invoke, List.map_toArray, ha']
    exact run_callFunc hc.1
  unfold Oper.quietAt
  rw [hr]
  refine ⟨rfl, (hc.2 w hst.give).mono fun e w' ⟨v', V', H', he, ⟨h1, h2⟩, hs⟩ => ?_⟩
  subst h1 h2
  have h2 := hst.take hs
  exact ⟨he, hw.1, V', hs.le, h2.perm (pull_perm is H).symm⟩
end
end Go.K
namespace Go.K
section
variable {C : Cx} {V : Vw} {H : Hp} {L : Sl} {Q : Exit → Act → World → Prop} {ops : Array Oper} {os : List Oper}
variable {ty : TypeId} {pos : String} {aft : Array Edge} {d : Nat}

/-- What a call does that changes nothing. -/
def Pv (v0 : Value) (V : Vw) (H : Hp) : Value → Vw → Hp → Prop := fun v V' H' => v = v0 ∧ V' = V ∧ H' = H

theorem Does.frame {P : Program} {f : FuncId} {args : List Value} {v0 : Value} (h : Does P f args V [] (Pv v0 V [])) : Does P f args V H (Pv v0 V H) :=
  ⟨h.1, fun B hB => (h.2 B ⟨rfl, rfl, rfl, Nat.le_refl _, fun _ _ _ => rfl, fun _ _ hb => (by cases hb), List.nodup_nil, fun _ hb => (by cases hb), Vw.le_refl V, hB.vh, fun _ _ _ hb => (by cases hb), fun _ _ hb => .inl hb⟩).mono
    fun e w' ⟨v, V', H', he, hR, s⟩ => by
      obtain ⟨h1, h2, h3⟩ := hR
      subst h1 h2 h3
      refine ⟨v, V', H, he, ⟨rfl, rfl, rfl⟩, ?_⟩
      have hs := St.take (Hf := H) (Hc := []) (V' := V') (H' := []) (w' := w') (by simpa using hB) s
      simpa using hs⟩

theorem Run.call0 {x : Operand} {l : List Operand} {at_ : Array TypeId} {f : FuncId} {first cap : Array Value} {vs args : List Value} {v0 : Value}
    (hx : ev L x = some (.func (.func f) first cap)) (hl : evs L l = some vs) (ha : first.toList ++ vs ++ cap.toList = args) (hd : d < C.n) (hc : Does C.P f args V H (Pv v0 V H))
    (k : Run C ops V H ((d, v0) :: L) os Q) :
    Run C ops V H L (⟨some d, .call { callee := .value x, args := l.toArray, argTypes := at_ }, ty, pos, aft, none⟩ :: os) Q := fun a w i => by
  have hp : ((List.range H.length).map fun _ => 0).length = H.length := by simp
  unfold wpList
  rw [if_pos (by simp [Region.wanted])]
  refine .inl ?_
  unfold Oper.wp
  have e1 := i.1.ev hx
  have e2 := i.1.evs hl
  have hr : (execOp a.eval ⟨some d, .call { callee := .value x, args := l.toArray, argTypes := at_ }, ty, pos, aft, none⟩).run C.P w = .ok (.enter f args.toArray) w := by
    have ha' : first ++ (l.map a.eval).toArray ++ cap = args.toArray := by rw [e2, ← ha]; simp
    simp only [execOp, resolve, e1, Deferred.ofValue, Sem.run_bind, Sem.run_pure, Result.andThen_ok, invoke, List.map_toArray, ha']
    exact run_callFunc hc.1
  rw [hr]
  have hst : St C.B C.S C.U V ([] ++ H) w := i.2
  refine (hc.2 w hst.give).mono fun e w' ⟨v, V', H', he, ⟨h1, h2, h3⟩, hs⟩ => ?_
  subst he h1 h2 h3
  exact k _ _ ⟨i.1.put hd v, hst.take hs⟩

theorem RunQ.call0 {K : Act → World → Prop} {x : Operand} {l : List Operand} {at_ : Array TypeId} {f : FuncId} {first cap : Array Value} {vs args : List Value} {v0 : Value}
    (hx : ev L x = some (.func (.func f) first cap)) (hl : evs L l = some vs) (ha : first.toList ++ vs ++ cap.toList = args) (hd : d < C.n) (hc : Does C.P f args V H (Pv v0 V H))
    (k : RunQ C ops V H ((d, v0) :: L) os K) : RunQ C ops V H L (⟨some d, .call { callee := .value x, args := l.toArray, argTypes := at_ }, ty, pos, aft, none⟩ :: os) K := fun a i => by
  unfold wpQuiet
  rw [if_pos (by simp [Region.wanted])]
  refine ⟨v0, fun w hw => ?_, k _ (i.put hd v0)⟩
  have hst : St C.B C.S C.U V ([] ++ H) w := hw.st
  have e1 := i.ev hx
  have e2 := i.evs hl
  have hr : (execOp a.eval ⟨some d, .call { callee := .value x, args := l.toArray, argTypes := at_ }, ty, pos, aft, none⟩).run C.P w = .ok (.enter f args.toArray) w := by
    have ha' : first ++ (l.map a.eval).toArray ++ cap = args.toArray := by rw [e2, ← ha]; simp
    simp only [execOp, resolve, e1, Deferred.ofValue, Sem.run_bind, Sem.run_pure, Result.andThen_ok, invoke, List.map_toArray, ha']
    exact run_callFunc hc.1
  unfold Oper.quietAt
  rw [hr]
  refine ⟨rfl, (hc.2 w hst.give).mono fun e w' ⟨v', V', H', he, ⟨h1, h2, h3⟩, hs⟩ => ?_⟩
  subst h1 h2 h3
  exact ⟨he, hw.1, V', hs.le, hst.take hs⟩

/-- Only some pieces of what is owned are kept. -/
theorem Tr.keep {c : Code} (is : List Nat) (k : Tr C V (pull is H).2 L c Q) : Tr C V H L c Q := fun a w i => k a w ⟨i.1, (i.2.perm (pull_perm is H)).drop⟩
theorem Run.keep (is : List Nat) (k : Run C ops V (pull is H).2 L os Q) : Run C ops V H L os Q := fun a w i => k a w ⟨i.1, (i.2.perm (pull_perm is H)).drop⟩

/-! sums and their kin, without a wrap -/
theorem wrap_i64 {n : Int} (h : -9223372036854775808 ≤ n ∧ n ≤ 9223372036854775807) : IntKind.i64.wrap n = n := by
  have e1 : (2 ^ IntKind.i64.bits : Int) = 18446744073709551616 := rfl
  have e2 : (2 ^ (IntKind.i64.bits - 1) : Int) = 9223372036854775808 := rfl
  simp only [IntKind.wrap, e1, e2, show IntKind.i64.signed = true from rfl, Bool.true_and, decide_eq_true_eq]
  split <;> omega
theorem wrap_u8 {n : Int} (h : 0 ≤ n ∧ n ≤ 255) : IntKind.u8.wrap n = n := by
  have e1 : (2 ^ IntKind.u8.bits : Int) = 256 := rfl
  simp only [IntKind.wrap, e1, show IntKind.u8.signed = false from rfl, Bool.false_and, Bool.false_eq_true, if_false]
  omega
theorem wrap_u32 {n : Int} (h : 0 ≤ n ∧ n ≤ 4294967295) : IntKind.u32.wrap n = n := by
  have e1 : (2 ^ IntKind.u32.bits : Int) = 4294967296 := rfl
  simp only [IntKind.wrap, e1, show IntKind.u32.signed = false from rfl, Bool.false_and, Bool.false_eq_true, if_false]
  omega
theorem wrap_u8_mod (n : Int) : IntKind.u8.wrap n = n % 256 := by
  have e1 : (2 ^ IntKind.u8.bits : Int) = 256 := rfl
  simp only [IntKind.wrap, e1, show IntKind.u8.signed = false from rfl, Bool.false_and, Bool.false_eq_true, if_false]
theorem wrap_u32_mod (n : Int) : IntKind.u32.wrap n = n % 4294967296 := by
  have e1 : (2 ^ IntKind.u32.bits : Int) = 4294967296 := rfl
  simp only [IntKind.wrap, e1, show IntKind.u32.signed = false from rfl, Bool.false_and, Bool.false_eq_true, if_false]

theorem Y.add {x y : Operand} {m n : Int} {t t' : TypeId} (hx : ev L x = some (.int .i64 m)) (hy : ev L y = some (.int .i64 n)) (h : -9223372036854775808 ≤ m + n ∧ m + n ≤ 9223372036854775807) : Yl C V H L (.binOp .add t x y t') ty (.int .i64 (m + n)) :=
  Y.int hx hy (by simp only [intRes, wrap_i64 h])
theorem Y.sub {x y : Operand} {m n : Int} {t t' : TypeId} (hx : ev L x = some (.int .i64 m)) (hy : ev L y = some (.int .i64 n)) (h : -9223372036854775808 ≤ m - n ∧ m - n ≤ 9223372036854775807) : Yl C V H L (.binOp .sub t x y t') ty (.int .i64 (m - n)) :=
  Y.int hx hy (by simp only [intRes, wrap_i64 h])
theorem Y.mul {x y : Operand} {m n : Int} {t t' : TypeId} (hx : ev L x = some (.int .i64 m)) (hy : ev L y = some (.int .i64 n)) (h : -9223372036854775808 ≤ m * n ∧ m * n ≤ 9223372036854775807) : Yl C V H L (.binOp .mul t x y t') ty (.int .i64 (m * n)) :=
  Y.int hx hy (by simp only [intRes, wrap_i64 h])

/-! where a piece of code ends -/
/-- What is asked where the code leaves by e. -/
def Ex (C : Cx) (V : Vw) (H : Hp) (L : Sl) (Q : Exit → Act → World → Prop) (e : Exit) : Prop := ∀ a w, Is C V H L a w → Q e a w

theorem Tr.to_ret (h : Ex C V H L Q .ret) : Tr C V H L .ret Q := Tr.ret h
theorem Tr.to_exit {id : Nat} (h : Ex C V H L Q (.exit id)) : Tr C V H L (.exit id) Q := Tr.exit h
theorem Tr.to_end (h : Ex C V H L Q .normal) : Tr C V H L .skip Q := Tr.skip h
theorem Run.to_end (h : Ex C V H L Q .normal) : Run C ops V H L [] Q := h
theorem RunQ.to_end (h : Ex C V H L Q .normal) : RunQ C ops V H L [] (Q .normal) := RunQ.nil h

theorem Ex.go {y : Code} (h : Tr C V H L y Q) : Ex C V H L (Exit.then (y.wp C.P Q) Q) .normal := h
theorem Ex.end_block {id : Nat} (h : Ex C V H L Q .normal) : Ex C V H L (Exit.inBlock id Q) .normal := h
theorem Ex.ret_then {k : Act → World → Prop} (h : Ex C V H L Q .ret) : Ex C V H L (Exit.then k Q) .ret := h
theorem Ex.ret_block {id : Nat} (h : Ex C V H L Q .ret) : Ex C V H L (Exit.inBlock id Q) .ret := h
theorem Ex.exit_then {id : Nat} {k : Act → World → Prop} (h : Ex C V H L Q (.exit id)) : Ex C V H L (Exit.then k Q) (.exit id) := h
theorem Ex.exit_in {id : Nat} (h : Ex C V H L Q .normal) : Ex C V H L (Exit.inBlock id Q) (.exit id) := fun a w i => by simpa [Exit.inBlock] using h a w i
theorem Ex.exit_out {id id' : Nat} (hne : Nat.beq id id' = false) (h : Ex C V H L Q (.exit id)) : Ex C V H L (Exit.inBlock id' Q) (.exit id) := fun a w i => by
  have : ¬ id = id' := fun e => by subst e; simp at hne
  simpa [Exit.inBlock, this] using h a w i
theorem Ex.round {X : Type} {p : X → Prop} {μ : X → Nat} {V' : X → Vw} {H' : X → Hp} {L' : X → Sl} {m : Nat} (y : X) (hp : p y) (hm : μ y < m) (hV : V' y = V) (hH : H' y = H) (hL : subB L (L' y)) :
    Ex C V H L (Exit.then (fun a w => ∃ y, p y ∧ μ y < m ∧ Is C (V' y) (H' y) (L' y) a w) Q) .normal := fun _ _ i => ⟨y, hp, hm, by rw [hV, hH]; exact ⟨i.1.sub hL, i.2⟩⟩
theorem Ex.cut {L' : Sl} {H' : Hp} (hH : H' = H) (hL : subB L L') : Ex C V H L (Exit.then (Is C V H' L') Q) .normal := fun _ _ i => ⟨i.1.sub hL, by rw [hH]; exact i.2⟩
theorem Ex.cutx {X : Type} {p : X → Prop} {V' : X → Vw} {H' : X → Hp} {L' : X → Sl} (y : X) (hp : p y) (hV : V' y = V) (hH : H' y = H) (hL : subB L (L' y)) :
    Ex C V H L (Exit.then (fun a w => ∃ y, p y ∧ Is C (V' y) (H' y) (L' y) a w) Q) .normal := fun _ _ i => ⟨y, hp, by rw [hV, hH]; exact ⟨i.1.sub hL, i.2⟩⟩
theorem Ex.keep {e : Exit} (is : List Nat) (k : Ex C V (pull is H).2 L Q e) : Ex C V H L Q e := fun a w i => k a w ⟨i.1, (i.2.perm (pull_perm is H)).drop⟩
theorem Ex.perm {e : Exit} {H' : Hp} (h : H'.Perm H) (k : Ex C V H' L Q e) : Ex C V H L Q e := fun a w i => k a w ⟨i.1, i.2.perm h⟩

section
variable {fn : Func} {B : World} {S : List Nat} {U : Vw} {P : Program} {n : Nat} {R : Value → Vw → Hp → Prop}
theorem Ex.ret1 {t : Tmp} {v : Value} (hr : fn.results = #[.tmp t]) (hv : L.lookup t = some v) (hR : R v V H) : Ex ⟨P, n, B, S, U, []⟩ V H L (bodyPost P fn fun e w' => ∃ v V' H', e = .returned v ∧ R v V' H' ∧ St B S U V' H' w') .ret := K.ret1 hr hv hR
theorem Ex.ret2 {t u : Tmp} {v z : Value} (hr : fn.results = #[.tmp t, .tmp u]) (hv : L.lookup t = some v) (hz : L.lookup u = some z) (hR : R (.tuple #[v, z]) V H) : Ex ⟨P, n, B, S, U, []⟩ V H L (bodyPost P fn fun e w' => ∃ v V' H', e = .returned v ∧ R v V' H' ∧ St B S U V' H' w') .ret := K.ret2 hr hv hz hR
theorem Ex.ret3 {t u r : Tmp} {v z y : Value} (hr : fn.results = #[.tmp t, .tmp u, .tmp r]) (hv : L.lookup t = some v) (hz : L.lookup u = some z) (hy : L.lookup r = some y) (hR : R (.tuple #[v, z, y]) V H) :
    Ex ⟨P, n, B, S, U, []⟩ V H L (bodyPost P fn fun e w' => ∃ v V' H', e = .returned v ∧ R v V' H' ∧ St B S U V' H' w') .ret := K.ret3 hr hv hz hy hR
theorem Ex.ret0 (hr : fn.results = #[]) (hR : R (.tuple #[]) V H) : Ex ⟨P, n, B, S, U, []⟩ V H L (bodyPost P fn fun e w' => ∃ v V' H', e = .returned v ∧ R v V' H' ∧ St B S U V' H' w') .ret := K.ret0 hr hR
theorem Ex.end0 (hr : fn.results = #[]) (hR : R (.tuple #[]) V H) : Ex ⟨P, n, B, S, U, []⟩ V H L (bodyPost P fn fun e w' => ∃ v V' H', e = .returned v ∧ R v V' H' ∧ St B S U V' H' w') .normal := K.end0 hr hR

/-- A result that lies in memory. -/
theorem Ex.retCell {t ad b off z : Nat} {c : Array Value} {e : TypeId} {fz : Nat × Nat} {vs : List Value} (is : List Nat) (hr : fn.results = #[.cell ad t]) (hv : L.lookup ad = some (.pointer (some ⟨b, off, none⟩))) (ht : aggsz P t = some z) (hk : Kn V H b (.cells c e fz)) (hc : cellsAt c off z = some vs)
    (hR : R (.agg vs.toArray) V (pull is H).2) : Ex ⟨P, n, B, S, U, []⟩ V H L (bodyPost P fn fun e w' => ∃ v V' H', e = .returned v ∧ R v V' H' ∧ St B S U V' H' w') .ret := fun a w i => by
  refine ⟨i.1.df, .agg vs.toArray, ?_, _, V, (pull is H).2, rfl, hR, (i.2.perm (pull_perm is H)).drop⟩
  have h1 := run_isAgg_agg (w := w) ht
  have h2 : a.tmps[ad]?.getD undef = .pointer (some ⟨b, off, none⟩) := by rw [i.1.lk _ _ hv]; rfl
  have h3 := run_loadCells (P := P) (hk.st i.2) off z 0 vs #[] hc
  simp [results, hr, Array.getD_eq_getD_getElem?, h2, asAddr, loadVar, h1.1, h1.2, loadCells, h3]
theorem Ex.retCell2 {t ad b off z u : Nat} {c : Array Value} {e : TypeId} {fz : Nat × Nat} {vs : List Value} {y : Value} (is : List Nat) (hr : fn.results = #[.cell ad t, .tmp u]) (hv : L.lookup ad = some (.pointer (some ⟨b, off, none⟩))) (hy : L.lookup u = some y) (ht : aggsz P t = some z) (hk : Kn V H b (.cells c e fz)) (hc : cellsAt c off z = some vs)
    (hR : R (.tuple #[.agg vs.toArray, y]) V (pull is H).2) : Ex ⟨P, n, B, S, U, []⟩ V H L (bodyPost P fn fun e w' => ∃ v V' H', e = .returned v ∧ R v V' H' ∧ St B S U V' H' w') .ret := fun a w i => by
  refine ⟨i.1.df, .tuple #[.agg vs.toArray, y], ?_, _, V, (pull is H).2, rfl, hR, (i.2.perm (pull_perm is H)).drop⟩
  have h1 := run_isAgg_agg (w := w) ht
  have h2 : a.tmps[ad]?.getD undef = .pointer (some ⟨b, off, none⟩) := by rw [i.1.lk _ _ hv]; rfl
  have h4 : a.tmps[u]?.getD undef = y := by rw [i.1.lk _ _ hy]; rfl
  have h3 := run_loadCells (P := P) (hk.st i.2) off z 0 vs #[] hc
  simp [results, hr, Array.getD_eq_getD_getElem?, h2, h4, asAddr, loadVar, h1.1, h1.2, loadCells, h3]
end
end
end Go.K
