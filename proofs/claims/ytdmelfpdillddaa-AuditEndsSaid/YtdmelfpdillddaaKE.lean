/- The rules of the walks on statements whose order Go leaves open and which call yield behind a head that reads.
Conditions: none; nothing here speaks of a program. -/
import Derived.Test.YtdmelfpdillddaaKC
set_option linter.unusedSimpArgs false
set_option linter.unusedVariables false
set_option linter.unusedSectionVars false
namespace Go.K
section
variable {P : Program} {ops : Array Oper} {md : Region.Mode} {D : World → Prop} {Q : Exit → Act → World → Prop}
theorem wpOpIn_of [hQ : NoOut Q] (hd : ops.toList.all noDefer = true) {i : Nat} {K : Act → World → Prop} {a : Act} {w : World} (h2 : wpOp P ops Q i K a w) : wpOpIn Fence.wide 0 P ops Q i K a w := by
  unfold wpOp at h2
  unfold wpOpIn
  split
  · rename_i ho; rw [ho] at h2; exact h2
  · rename_i o ho
    simp only [ho] at h2
    have hn : noDefer o = true := List.all_eq_true.1 hd o (by rw [← Array.getElem?_toList] at ho; exact List.mem_of_getElem? ho)
    split
    · rename_i hw
      rw [if_pos hw] at h2
      rcases h2 with h2 | ⟨_, h2⟩
      · exact wpIn_op (r := none) (noDefer_spec hn) (fun a w h => h) (fun _ _ _ _ h => h) h2
      · exact absurd h2 hQ.no
    · rename_i hw
      rw [if_neg hw] at h2
      exact ⟨fun _ _ => trivial, h2⟩
theorem anyIn_of_headQ {n g : Nat} {E : Array Bool → Act → Prop} [hQ : NoOut Q] (hd : ops.toList.all noDefer = true) (hE : ∀ listed a w, D w → E listed a → wpAnyIn Fence.wide 0 P md ops Q g listed a w) :
    ∀ (f : Nat) (listed : Array Bool) (a : Act) (w : World), D w → headQ P md ops D n E f listed a → wpAnyIn Fence.wide 0 P md ops Q (g + f) listed a w
  | 0, _, _, _, hw, h => hE _ _ _ hw h
  | f + 1, listed, a, w, hw, h => ⟨fun h0 => (h.1 h0).elim, fun i hi => wpOpIn_of hd (wpOp_of_qOp hw (fun a' w' hw' h' => anyIn_of_headQ hd hE f _ a' w' hw' h') (h.2 i hi).2)⟩
theorem wpAnyIn_of_seq : ∀ (l : List Oper) (k : Nat) (listed : Array Bool) (a : Act) (w : World), (∀ j, l[j]? = ops[k + j]?) →
    Region.seqB md ops l.length k listed = true → wpListIn Fence.wide 0 P ops Q l a w → wpAnyIn Fence.wide 0 P md ops Q l.length listed a w
  | [], _, _, _, _, _, hB, h => ⟨by simpa [Region.seqB] using hB, h⟩
  | o :: l, k, listed, a, w, hl, hB, h => by
    have h0 : ops[k]? = some o := by simpa using (hl 0).symm
    simp only [List.length_cons, Region.seqB, Bool.and_eq_true, decide_eq_true_eq] at hB
    refine ⟨fun h1 => (by rw [hB.1] at h1; cases h1), fun i hi => ?_⟩
    rw [hB.1] at hi
    have hik : i = k := by simpa using hi
    subst hik
    have hw : wpOpIn Fence.wide 0 P ops Q i (wpListIn Fence.wide 0 P ops Q l) a w := by unfold wpOpIn; simp only [h0]; exact h
    exact wpOpIn_mono (fun a' w' h' => wpAnyIn_of_seq l (i + 1) _ a' w' (fun j => by have := hl (j + 1); simpa [Nat.add_assoc, Nat.add_comm 1 j] using this) hB.2 h') hw
end
section
variable {C : Cx} {V : Vw} {H : Hp} {L : Sl} {Q : Exit → Act → World → Prop} {ops : Array Oper} {os : List Oper}
theorem wp_region_head_tailI {P : Program} {D : World → Prop} {id : Nat} {a : Act} {w : World} {l : List Oper} [hQ : NoOut Q] (n : Nat) (hm : P.follows .mixedOrders = true) (hd : l.all noDefer = true) (hB : Region.lexTailB .any l.toArray n = true) (hD : D { w with drawn := w.drawn + 1 })
    (h : wpQuiet P l.toArray D (fun a' => ∀ w', D w' → wpListIn Fence.wide 0 P l.toArray Q (l.drop n) a' w') (l.take n) a) : (Code.region id l.toArray true).wp P Q a w := by
  simp only [Region.lexTailB, Bool.and_eq_true, decide_eq_true_eq] at hB
  obtain ⟨⟨⟨⟨hsel, hn⟩, hs⟩, hc⟩, hlex⟩ := hB
  have hn' : n < l.length := by simpa using hn
  have htl : (l.take n).length = n := by simp; omega
  have hdl : (l.drop n).length = l.toArray.size - n := by simp
  have inv0 : HeadInv .any l.toArray n (Array.replicate l.toArray.size false) :=
    ⟨by simp, fun j oj _ hl => (by rw [getD_replicate_false] at hl; cases hl), fun t _ ht => getD_in (by simpa using ht) (getD_replicate_false _ _)⟩
  have hh := headQ_lex (md := .any) (g := l.toArray.size - n) hsel hs hc hn (l.take n) 0 _ a (fun j hj => by
    have hj' : j < n := by rw [htl] at hj; exact hj
    simp [hj']) (by simpa using htl) inv0 (by rw [htl]; exact hlex) h
  refine wpIn_wide.1 (wpIn_region_any (n := 0) hm ?_)
  have := anyIn_of_headQ (Q := Q) (g := l.toArray.size - n) (by simpa using hd) (fun listed a' w' hw' hL => by
    have := wpAnyIn_of_seq (md := .any) (Q := Q) (l.drop n) n listed a' w' (fun j => by simp [List.getElem?_drop]) (by rw [hdl]; exact hL.1) (hL.2 w' hw')
    rwa [hdl] at this) _ _ _ _ hD hh
  rw [htl, show l.toArray.size - n + n = l.toArray.size by omega] at this
  exact this
theorem Tr.tailI {id : Nat} {l : List Oper} [NoOut Q] (n : Nat) (hm : C.P.follows .mixedOrders = true) (hd : l.all noDefer = true) (hB : Region.lexTailB .any l.toArray n = true) (h : RunQ C l.toArray V H L (l.take n) (wpListIn Fence.wide 0 C.P l.toArray Q (l.drop n))) : Tr C V H L (.region id l.toArray true) Q :=
  fun a _ i => wp_region_head_tailI n hm hd hB (Cl.of i.2.drew) (h a i.1)
theorem RunQ.nil_runI {os' : List Oper} (h : RunI C ops V H L os' Q) : RunQ C ops V H L [] (wpListIn Fence.wide 0 C.P ops Q os') := RunQ.nil h
theorem RunI.on {o : Oper} {j : Nat} {t : Bool} {d : Nat} {b : Bool} (hg : o.guard = some (j, t)) (hj : ((ops[j]?).bind (·.dst)) = some d) (hb : L.lookup d = some (.bool b)) (e : b = t)
    (k : RunI C ops V H L (⟨o.dst, o.op, o.type, o.pos, o.after, none⟩ :: os) Q) : RunI C ops V H L (o :: os) Q := fun a w i => by
  have h := k a w i
  have hw : Region.wanted o (yielded ops a.tmps) = true := by
    simp only [Region.wanted, hg, yielded, hj, Option.bind_some, i.1.lk d _ hb, e, beq_self_eq_true]
  unfold wpListIn at h ⊢
  rw [if_pos hw]
  rw [if_pos (by simp [Region.wanted])] at h
  exact h
theorem RunI.off {o : Oper} {j : Nat} {t : Bool} {d dd : Nat} {b : Bool} (hg : o.guard = some (j, t)) (hj : ((ops[j]?).bind (·.dst)) = some d) (hb : L.lookup d = some (.bool b)) (e : b = !t) (hd : o.dst = some dd) (hn : dd < C.n)
    (k : RunI C ops V H ((dd, undef) :: L) os Q) : RunI C ops V H L (o :: os) Q := fun a w i => by
  have hw : Region.wanted o (yielded ops a.tmps) = false := by
    simp only [Region.wanted, hg, yielded, hj, Option.bind_some, i.1.lk d _ hb, e]; cases t <;> rfl
  unfold wpListIn
  rw [if_neg (by rw [hw]; decide)]
  refine ⟨fun _ _ => trivial, ?_⟩
  rw [hd]
  exact k _ w ⟨i.1.put hn undef, i.2⟩
end
end Go.K

namespace Go.K
open Go.MapKept
theorem mset_mset {l : List (Int × Value)} {k : Int} {z u : Value} : mset (mset l k z) k u = mset l k u := by
  induction l with
  | nil => simp [mset]
  | cons p l ih =>
    obtain ⟨a, x⟩ := p
    by_cases h : a = k
    · rw [show mset ((a, x) :: l) k z = (k, z) :: l from if_pos h, show mset ((a, x) :: l) k u = (k, u) :: l from if_pos h]; exact if_pos rfl
    · rw [show mset ((a, x) :: l) k z = (a, x) :: mset l k z from if_neg h, show mset ((a, x) :: l) k u = (a, x) :: mset l k u from if_neg h, ← ih]; exact if_neg h
theorem modify_congr {α : Type} {es : Array α} {i : Nat} {f g : α → α} (h : ∀ e, es[i]? = some e → f e = g e) : es.modify i f = es.modify i g := by
  apply Array.ext_getElem?
  intro j
  simp only [Array.getElem?_modify]
  by_cases hij : i = j
  · subst hij
    rw [if_pos rfl, if_pos rfl]
    cases he : es[i]? with
    | none => rfl
    | some e => simp [h e he]
  · rw [if_neg hij, if_neg hij]
theorem modify_same {α : Type} {es : Array α} {i : Nat} {f : α → α} (h : ∀ e, es[i]? = some e → f e = e) : es.modify i f = es := by
  apply Array.ext_getElem?
  intro j
  simp only [Array.getElem?_modify]
  by_cases hij : i = j
  · subst hij
    rw [if_pos rfl]
    cases he : es[i]? with
    | none => rfl
    | some e => simp [h e he]
  · rw [if_neg hij]
/-- A map one of whose entries was made, to be filled: its stamp. -/
def OmE (kk : IntKind) (v : Value) (l : List (Int × Value)) (s : Sg) (k n : Int) : Prop :=
  ∃ b es clock l1 i e, v = .map (some b) ∧ s = [(b, .map es clock)] ∧ MapIs kk l1 es clock ∧ (∀ u, mset l1 k u = mset l k u) ∧ es.toList[i]? = some e ∧ e.key = .int kk k ∧ es.findIdx? (fun e => (e.born : Int) == n) = some i
theorem born_at {es : Array MapEntry} {i : Nat} {e : MapEntry} (hn : (es.toList.map (·.born)).Nodup) (h : es.toList[i]? = some e) : es.findIdx? (fun x => (x.born : Int) == (e.born : Int)) = some i := by
  rw [Array.findIdx?_eq_some_iff_getElem]
  rw [Array.getElem?_toList] at h
  obtain ⟨hi, he⟩ := Array.getElem?_eq_some_iff.1 h
  refine ⟨hi, by rw [he]; exact beq_self_eq_true _, fun j hj hc => ?_⟩
  have h1 : (es[j]'(by omega)).born = e.born := by have := beq_iff_eq.1 hc; omega
  have h2 := List.pairwise_iff_getElem.1 hn j i (by rw [List.length_map, Array.length_toList]; omega) (by rw [List.length_map, Array.length_toList]; exact hi) hj
  apply h2
  rw [List.getElem_map, List.getElem_map, Array.getElem_toList, Array.getElem_toList, h1, he]
section
variable {C : Cx} {V : Vw} {H : Hp} {L : Sl} {Q : Exit → Act → World → Prop} {ops : Array Oper} {os : List Oper}
variable {ty : TypeId} {pos : String} {aft : Array Edge} {d : Nat}
theorem Run.recut {H' : Hp} (p : H'.flatten.Perm H.flatten) (k : Run C ops V H' L os Q) : Run C ops V H L os Q := fun a w i => k a w ⟨i.1, i.2.recut p⟩
theorem Ex.recut {e : Exit} {H' : Hp} (p : H'.flatten.Perm H.flatten) (k : Ex C V H' L Q e) : Ex C V H L Q e := fun a w i => k a w ⟨i.1, i.2.recut p⟩
theorem Does.recut {P : Program} {f : FuncId} {args : List Value} {H' : Hp} {R : Value → Vw → Hp → Prop} (h : Does P f args V H R) (p : H'.flatten.Perm H.flatten) : Does P f args V H' R :=
  ⟨h.1, fun B hB => (h.2 B ((hB.recut p.symm).memS (fun b => (p.map (·.1)).mem_iff))).mono fun e w' ⟨v, V', H2, q1, q2, q3⟩ => ⟨v, V', H2, q1, q2, q3.memS (fun b => ((p.map (·.1)).mem_iff).symm)⟩⟩
theorem Run.mapClear {x : Operand} {t a b : TypeId} {kk : IntKind} {v : Value} {l : List (Int × Value)} {s : Sg} (j : Nat) (hx : ev L x = some v) (ht : mapT C.P t = some (kk, a, b)) (hm : Om kk v l s) (hj : H[j]? = some s) (hd : d < C.n)
    (kc : ∀ s', Om kk v [] s' → Run C ops V (H.set j s') ((d, .tuple #[]) :: L) os Q) : Run C ops V H L (⟨some d, .call { callee := .builtin .clear, args := #[x], argTypes := #[t] }, ty, pos, aft, none⟩ :: os) Q := by
  obtain ⟨bb, es, clock, rfl, rfl, hm⟩ := hm
  obtain ⟨h1, h2⟩ := mapT_spec ht
  refine Run.step (p := fun v V' H' => v = .tuple #[] ∧ V' = V ∧ ∃ s', Om kk (.map (some bb)) [] s' ∧ H' = H.set j s') hd (fun ac w i => ?_) (fun v V' H' ⟨q1, q2, s', q3, q4⟩ => by subst q1 q2 q4; exact kc s' q3)
  have hb := i.2.own bb _ (mem_of_at hj (List.mem_cons_self ..))
  refine ⟨.tuple #[], { w with heap := w.heap.setIfInBounds bb (.map #[] clock) }, V, _, ?_, ⟨rfl, rfl, _, ⟨bb, _, clock, rfl, rfl, MapIs.empty kk clock⟩, rfl⟩, i.2.turnMap hj⟩
  simp [execOp, resolve, invoke, builtin, i.1.ev hx, Builtin.clear_, run_underlying h1, MapKept.run_getObj_map hb, run_setObj_map _ hb, Result.andThen]
theorem Run.step0 {op : Op} {p : Vw → Hp → Prop}
    (hx : ∀ a w, Is C V H L a w → ∃ v w' V' H', (execOp a.eval ⟨none, op, ty, pos, aft, none⟩).run C.P w = .ok (.value v) w' ∧ p V' H' ∧ St C.B C.S C.U V' H' w')
    (k : ∀ V' H', p V' H' → Run C ops V' H' L os Q) : Run C ops V H L (⟨none, op, ty, pos, aft, none⟩ :: os) Q := fun a w i => by
  unfold wpList
  rw [if_pos (by simp [Region.wanted])]
  refine .inl ?_
  unfold Oper.wp
  obtain ⟨v, w', V', H', h1, h2, h3⟩ := hx a w i
  rw [h1]
  exact k V' H' h2 _ _ ⟨i.1, h3⟩
theorem Run.mapDelete0 {x y : Operand} {t t2 a b : TypeId} {kk : IntKind} {v : Value} {k : Int} {l : List (Int × Value)} {s : Sg} (j : Nat) (hx : ev L x = some v) (hy : ev L y = some (.int kk k)) (ht : mapT C.P t = some (kk, a, b)) (hm : Om kk v l s) (hj : H[j]? = some s)
    (kc : ∀ s', Om kk v (mdel l k) s' → Run C ops V (H.set j s') L os Q) : Run C ops V H L (⟨none, .call { callee := .builtin .delete, args := #[x, y], argTypes := #[t, t2] }, ty, pos, aft, none⟩ :: os) Q := by
  obtain ⟨bb, es, clock, rfl, rfl, hm⟩ := hm
  obtain ⟨h1, h2⟩ := mapT_spec ht
  have hk : IsKey (.int kk) (.int kk k) := rfl
  refine Run.step0 (p := fun V' H' => V' = V ∧ ∃ s', Om kk (.map (some bb)) (mdel l k) s' ∧ H' = H.set j s') (fun ac w i => ?_) (fun V' H' ⟨q2, s', q3, q4⟩ => by subst q2 q4; exact kc s' q3)
  have hb := i.2.own bb _ (mem_of_at hj (List.mem_cons_self ..))
  rcases hm.find k with ⟨g1, g2, g3⟩ | ⟨q, e, g1, g2, g3, g4⟩
  · refine ⟨.tuple #[], { w with heap := w.heap.setIfInBounds bb (.map es clock) }, V, H.set j [(bb, .map es clock)], ?_, ⟨rfl, _, ⟨bb, es, clock, rfl, rfl, by rw [mdel_none g1]; exact hm⟩, rfl⟩, i.2.turnMap hj⟩
    simp [execOp, resolve, invoke, builtin, i.1.ev hx, i.1.ev hy, Builtin.delete_, run_underlying h1, MapKept.run_getObj_map hb, run_checkKey h2 hk, run_findKey h2 g2, run_setObj_map _ hb, Result.andThen]
  · refine ⟨.tuple #[], { w with heap := w.heap.setIfInBounds bb (.map (es.eraseIdxIfInBounds q) clock) }, V, _, ?_, ⟨rfl, _, ⟨bb, _, clock, rfl, rfl, hm.erase g3 g4⟩, rfl⟩, i.2.turnMap hj⟩
    simp [execOp, resolve, invoke, builtin, i.1.ev hx, i.1.ev hy, Builtin.delete_, run_underlying h1, MapKept.run_getObj_map hb, run_checkKey h2 hk, run_findKey h2 g2, run_setObj_map _ hb, Result.andThen]
theorem Run.mapClear0 {x : Operand} {t a b : TypeId} {kk : IntKind} {v : Value} {l : List (Int × Value)} {s : Sg} (j : Nat) (hx : ev L x = some v) (ht : mapT C.P t = some (kk, a, b)) (hm : Om kk v l s) (hj : H[j]? = some s)
    (kc : ∀ s', Om kk v [] s' → Run C ops V (H.set j s') L os Q) : Run C ops V H L (⟨none, .call { callee := .builtin .clear, args := #[x], argTypes := #[t] }, ty, pos, aft, none⟩ :: os) Q := by
  obtain ⟨bb, es, clock, rfl, rfl, hm⟩ := hm
  obtain ⟨h1, h2⟩ := mapT_spec ht
  refine Run.step0 (p := fun V' H' => V' = V ∧ ∃ s', Om kk (.map (some bb)) [] s' ∧ H' = H.set j s') (fun ac w i => ?_) (fun V' H' ⟨q2, s', q3, q4⟩ => by subst q2 q4; exact kc s' q3)
  have hb := i.2.own bb _ (mem_of_at hj (List.mem_cons_self ..))
  refine ⟨.tuple #[], { w with heap := w.heap.setIfInBounds bb (.map #[] clock) }, V, _, ?_, ⟨rfl, _, ⟨bb, _, clock, rfl, rfl, MapIs.empty kk clock⟩, rfl⟩, i.2.turnMap hj⟩
  simp [execOp, resolve, invoke, builtin, i.1.ev hx, Builtin.clear_, run_underlying h1, MapKept.run_getObj_map hb, run_setObj_map _ hb, Result.andThen]
theorem Run.mapEntry {x y : Operand} {t a b : TypeId} {kk : IntKind} {v z : Value} {k : Int} {l : List (Int × Value)} {s : Sg} (j : Nat) (hx : ev L x = some v) (hy : ev L y = some (.int kk k)) (ht : mapT C.P t = some (kk, a, b)) (hz : zeroOf C.P b = some z) (hm : Om kk v l s) (hj : H[j]? = some s) (hd : d < C.n)
    (kc : ∀ s' old n, OmE kk v l s' k n → Run C ops V (H.set j s') ((d, .tuple #[old, .int .i64 n]) :: L) os Q) : Run C ops V H L (⟨some d, .mapEntry t x y, ty, pos, aft, none⟩ :: os) Q := by
  obtain ⟨bb, es, clock, rfl, rfl, hm⟩ := hm
  obtain ⟨h1, h2⟩ := mapT_spec ht
  have hk : IsKey (.int kk) (.int kk k) := rfl
  refine Run.step (p := fun v V' H' => V' = V ∧ ∃ s' old n, v = .tuple #[old, .int .i64 n] ∧ OmE kk (.map (some bb)) l s' k n ∧ H' = H.set j s') hd (fun ac w i => ?_) (fun v V' H' ⟨q1, s', old, n, q2, q3, q4⟩ => by subst q1 q2 q4; exact kc s' old n q3)
  have hb := i.2.own bb _ (mem_of_at hj (List.mem_cons_self ..))
  rcases hm.find k with ⟨g1, g2, g3⟩ | ⟨q, e, g1, g2, g3, g4⟩
  · have hp := hm.push (v := z) g1 g3
    refine ⟨.tuple #[z, .int .i64 clock], { w with heap := w.heap.setIfInBounds bb (.map (es.push ⟨.int kk k, z, clock⟩) (clock + 1)) }, V, _, ?_, ⟨rfl, _, z, clock, rfl, ⟨bb, _, _, _, es.size, ⟨.int kk k, z, clock⟩, rfl, rfl, hp, fun u => mset_mset, by simp, rfl, born_at (e := ⟨.int kk k, z, clock⟩) hp.2.2.1 (by simp)⟩, rfl⟩, i.2.turnMap hj⟩
    simp [execOp, i.1.ev hx, i.1.ev hy, Instr.mapEntry, run_underlying h1, MapKept.run_getObj_map hb, run_checkKey h2 hk, run_findKey h2 g2, run_zeroValue hz, run_setObj_map _ hb, Result.andThen, goInt]
  · have hq : es[q]? = some e := by simpa using g3
    have hs : es.modify q (fun x => { x with key := Value.int kk k }) = es := modify_same fun x hx => by rw [hq] at hx; cases hx; rw [← g4]
    refine ⟨.tuple #[e.val, .int .i64 e.born], { w with heap := w.heap.setIfInBounds bb (.map (es.modify q fun x => { x with key := .int kk k }) clock) }, V, _, ?_, ⟨rfl, [(bb, .map (es.modify q fun x => { x with key := .int kk k }) clock)], e.val, e.born, rfl, ⟨bb, _, _, l, q, e, rfl, rfl, by rw [hs]; exact hm, fun u => rfl, by rw [hs]; exact g3, g4, by rw [hs]; exact born_at hm.2.2.1 g3⟩, rfl⟩, i.2.turnMap hj⟩
    simp [execOp, i.1.ev hx, i.1.ev hy, Instr.mapEntry, run_underlying h1, MapKept.run_getObj_map hb, run_checkKey h2 hk, run_findKey h2 g2, run_keyThatStays hk, run_setObj_map _ hb, Result.andThen, goInt, hq, g4]
theorem Run.entryStore {x y z : Operand} {t : TypeId} {kk : IntKind} {v u : Value} {k n : Int} {l : List (Int × Value)} {s : Sg} (j : Nat) (hx : ev L x = some v) (hy : ev L y = some (.int .i64 n)) (hz : ev L z = some u) (hm : OmE kk v l s k n) (hj : H[j]? = some s)
    (kc : ∀ s', Om kk v (mset l k u) s' → Run C ops V (H.set j s') L os Q) : Run C ops V H L (⟨none, .entryStore t x y z, ty, pos, aft, none⟩ :: os) Q := by
  obtain ⟨bb, es, clock, l1, q, e, rfl, rfl, hm, hl, g3, g4, g5⟩ := hm
  have hq : es[q]? = some e := by simpa using g3
  have hs : es.modify q (fun x => { x with val := u }) = es.modify q (fun x => { x with key := Value.int kk k, val := u }) := modify_congr fun x hx => by rw [hq] at hx; cases hx; rw [← g4]
  refine Run.act (V' := V) (H' := H.set j [(bb, .map (es.modify q fun x => { x with val := u }) clock)]) (fun ac w i => ⟨_, ?_, i.2.turnMap hj⟩) (kc _ ⟨bb, _, _, rfl, rfl, by rw [hs, ← hl u]; exact hm.modify g3 g4⟩)
  have hb := i.2.own bb _ (mem_of_at hj (List.mem_cons_self ..))
  simp [execOp, i.1.ev hx, i.1.ev hy, i.1.ev hz, Instr.entryStore, MapKept.run_getObj_map hb, asInt, asIntOf, g5, run_setObj_map _ hb, Result.andThen]
end
end Go.K

namespace Go.K
/-- What an iterator does whose rounds change what it reads: Bl tells that memory by what was handed on; G holds of each that is handed on. -/
def IterB (P : Program) (gf : FuncId) (caps : List Value) (V : Vw) (Hs : Hp) {α : Type} (Bl : List α → Hp) (enc : α → List Value) (G : α → Prop) (S Sp : List α → Prop) (N : Nat) : Prop :=
  ∀ (l : Nat) (J Jx : List α → Hp → Prop), (∀ xs x H, G x → J xs H → xs.length < N → YDoes P l (enc x) V (H ++ Bl xs) (fun u V' H' => V' = V ∧ ∃ H2, H' = H2 ++ Bl (xs ++ [x]) ∧ (u = .bool true ∧ J (xs ++ [x]) H2 ∨ u = .bool false ∧ Jx (xs ++ [x]) H2))) →
    ∀ Hy, J [] Hy → Does P gf (.func (.yield l) #[] #[] :: caps) V (Hs ++ (Hy ++ Bl [])) (fun _ V' H' => V' = V ∧ ∃ xs Hy', H' = Hs ++ (Hy' ++ Bl xs) ∧ (S xs ∧ J xs Hy' ∨ Sp xs ∧ Jx xs Hy'))
section
variable {C : Cx} {V : Vw} {H : Hp} {L : Sl} {Q : Exit → Act → World → Prop}
theorem Tr.rangeB {g : Operand} {ps : Array Tmp} {asg body : Code} {gf : FuncId} {caps : List Value} {α : Type} {Bl : List α → Hp} {enc : α → List Value} {G : α → Prop} {S Sp : List α → Prop} {N : Nat} (Hk Hs Hy : Hp) (hH : H.Perm (Hk ++ (Hs ++ (Hy ++ Bl []))))
    (hg : ev L g = some (.func (.func gf) #[] caps.toArray)) (hit : IterB C.P gf caps V Hs Bl enc G S Sp N) (J : List α → Hp → Prop) (Jx : Code → List α → Hp → Prop) (h0 : J [] Hy)
    (hb : ∀ l r xs x H, LoopIs C.n L ps asg body r → fresh r → G x → J xs H → xs.length < N → YDoes C.P l (enc x) V (rec_ l r :: (H ++ Bl xs)) (Rd1 C.n L ps asg body V l (fun ys H' => ∃ H2, H' = H2 ++ Bl ys ∧ J ys H2) (fun c ys H' => ∃ H2, H' = H2 ++ Bl ys ∧ Jx c ys H2) (xs ++ [x])))
    (k1 : ∀ D xs H', S xs → J xs H' → Ex { C with D := mark D :: C.D } V (defd D :: (Hk ++ (Hs ++ (H' ++ Bl xs)))) L Q .normal)
    (k2 : ∀ D c xs H', Sp xs → Jx c xs H' → After { C with D := mark D :: C.D } V (defd D :: (Hk ++ (Hs ++ (H' ++ Bl xs)))) L Q (some c)) :
    Tr C V H L (.rangeFunc g ps asg body) Q := by
  refine Tr.rangeFunc Hk (Hs ++ (Hy ++ Bl [])) hH hg (Rr := fun l r _ V' H' => V' = V ∧ ∃ xs r' H2, H' = Hs ++ (rec_ l r' :: (H2 ++ Bl xs)) ∧ (S xs ∧ J xs H2 ∧ fresh r' ∨ Sp xs ∧ ∃ c, r'.state = .done ∧ r'.pending = some c ∧ Jx c xs H2)) ?_ ?_
  · intro l r hLI hs hp
    have := hit l (fun xs H => ∃ r' H2, H = rec_ l r' :: H2 ∧ LoopIs C.n L ps asg body r' ∧ fresh r' ∧ J xs H2) (fun xs H => ∃ r' c H2, H = rec_ l r' :: H2 ∧ r'.state = .done ∧ r'.pending = some c ∧ Jx c xs H2)
      (fun xs x H hG ⟨r', H2, e, h1, h2, h3⟩ hN => by
        subst e
        refine (hb l r' xs x H2 h1 h2 hG h3 hN).mono ?_
        rintro u V' H' ⟨q1, ⟨a, r2, H3, b, c, d, H4, e, f⟩ | ⟨a, r2, c, H3, b, d, e, H4, f, g⟩⟩
        · subst e; exact ⟨q1, rec_ l r2 :: H4, d, .inl ⟨a, r2, H4, rfl, b, c, f⟩⟩
        · subst f; exact ⟨q1, rec_ l r2 :: H4, e, .inr ⟨a, r2, c, H4, rfl, b, d, g⟩⟩)
      (rec_ l r :: Hy) ⟨r, Hy, rfl, hLI, ⟨hs, hp⟩, h0⟩
    refine (this.perm List.perm_middle.symm).mono ?_
    rintro v V' H' ⟨rfl, xs, Hy', rfl, ⟨h1, r', H2, rfl, h2, h3, h4⟩ | ⟨h1, r', c, H2, rfl, h2, h3, h4⟩⟩
    · exact ⟨rfl, xs, r', H2, rfl, .inl ⟨h1, h4, h3⟩⟩
    · exact ⟨rfl, xs, r', H2, rfl, .inr ⟨h1, c, h2, h3, h4⟩⟩
  · rintro l r D v V' H' _ ⟨rfl, xs, r', H2, rfl, ⟨h1, h2, h3⟩ | ⟨h1, c, h2, h3, h4⟩⟩
    · refine ⟨r', Hs ++ (H2 ++ Bl xs), List.perm_middle, by rw [h3.1]; simp, ?_⟩
      rw [h3.2]; exact k1 D xs H2 h1 h2
    · refine ⟨r', Hs ++ (H2 ++ Bl xs), List.perm_middle, by rw [h2]; simp, ?_⟩
      rw [h3]; exact k2 D c xs H2 h1 h4
end
end Go.K
