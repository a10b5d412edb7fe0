/- The rules of the walks on maps by numbers, of one's own.
Conditions: none; nothing here speaks of a program. -/
import Derived.Test.YtjfacdepgkdoeaaK24
import Derived.MapKept
set_option linter.unusedSimpArgs false
set_option linter.unusedVariables false
namespace Go.K
open Go.MapKept
/-- What a map's block holds: l, each key once. -/
def MapIs (kk : IntKind) (l : List (Int × Value)) (es : Array MapEntry) (clock : Nat) : Prop := es.toList.map (fun e => (e.key, e.val)) = l.map (fun p => (Value.int kk p.1, p.2)) ∧ Stamped es clock
/-- v is a map of one's own: s is its block. -/
def Om (kk : IntKind) (v : Value) (l : List (Int × Value)) (s : Sg) : Prop := ∃ b es clock, v = .map (some b) ∧ s = [(b, .map es clock)] ∧ MapIs kk l es clock
def mget (l : List (Int × Value)) (k : Int) : Option Value := l.lookup k
def mset : List (Int × Value) → Int → Value → List (Int × Value)
  | [], k, v => [(k, v)]
  | (k', v') :: l, k, v => if k' = k then (k, v) :: l else (k', v') :: mset l k v
def mdel : List (Int × Value) → Int → List (Int × Value)
  | [], _ => []
  | (k', v') :: l, k => if k' = k then l else (k', v') :: mdel l k
def mapT (P : Program) (t : TypeId) : Option (IntKind × TypeId × TypeId) := match P.underlying t with
  | some (.map a b) => match P.underlying a with
    | some (.int k) => some (k, a, b)
    | _ => none
  | _ => none
theorem mapT_spec {P : Program} {t a b : TypeId} {k : IntKind} (h : mapT P t = some (k, a, b)) : P.underlying t = some (.map a b) ∧ P.underlying a = some (.int k) := by
  unfold mapT at h
  split at h
  · rename_i h1
    split at h
    · rename_i h2; cases h; exact ⟨h1, h2⟩
    · cases h
  · cases h
theorem find_is {kk : IntKind} (k : Int) : ∀ (l : List (Int × Value)) (es : List MapEntry) (i : Nat), es.map (fun e => (e.key, e.val)) = l.map (fun p => (Value.int kk p.1, p.2)) →
    (mget l k = none ∧ Instr.findNow (.int kk) (.int kk k) es i = some none ∧ ∀ x ∈ es, x.key ≠ .int kk k) ∨ ∃ j e, mget l k = some e.val ∧ Instr.findNow (.int kk) (.int kk k) es i = some (some (i + j, e.val)) ∧ es[j]? = some e ∧ e.key = .int kk k
  | [], [], i, _ => .inl ⟨rfl, rfl, by simp⟩
  | [], e :: es, _, h => by simp at h
  | p :: l, [], _, h => by simp at h
  | p :: l, e :: es, i, h => by
    obtain ⟨k', v'⟩ := p
    simp only [List.map_cons, List.cons.injEq, Prod.mk.injEq] at h
    obtain ⟨⟨h1, h2⟩, h3⟩ := h
    by_cases hk : k = k'
    · subst hk
      exact .inr ⟨0, e, by simp [mget, List.lookup, h2], by simp [Instr.findNow, Instr.sameNow, h1], rfl, h1⟩
    · have hb : (k == k') = false := by simp [hk]
      rcases find_is k l es (i + 1) h3 with ⟨g1, g2, g3⟩ | ⟨j, e', g1, g2, g3, g4⟩
      · refine .inl ⟨by simp only [mget, List.lookup, hb]; exact g1, by simp [Instr.findNow, Instr.sameNow, h1, hb, g2], fun x hx => ?_⟩
        rcases List.mem_cons.1 hx with rfl | hx
        · rw [h1]; simp; exact fun q => hk q.symm
        · exact g3 x hx
      · exact .inr ⟨j + 1, e', by simp only [mget, List.lookup, hb]; exact g1, by simp [Instr.findNow, Instr.sameNow, h1, hb, g2]; omega, by simpa using g3, g4⟩
theorem mset_none {l : List (Int × Value)} {k : Int} {v : Value} (h : mget l k = none) : mset l k v = l ++ [(k, v)] := by
  induction l with
  | nil => rfl
  | cons p l ih =>
    obtain ⟨k', v'⟩ := p
    by_cases e : k = k'
    · subst e; simp [mget, List.lookup] at h
    · have hb : (k == k') = false := by simp [e]
      simp only [mget, List.lookup, hb] at h
      simp only [mset, if_neg (fun q => e q.symm : ¬ k' = k), ih h, List.cons_append]
theorem mset_some {kk : IntKind} {k : Int} {v : Value} : ∀ {l : List (Int × Value)} {es : List MapEntry} {j : Nat} {e : MapEntry}, es.map (fun e => (e.key, e.val)) = l.map (fun p => (Value.int kk p.1, p.2)) → (es.map (·.key)).Nodup → es[j]? = some e → e.key = .int kk k →
    (es.modify j fun x => { x with key := .int kk k, val := v }).map (fun e => (e.key, e.val)) = (mset l k v).map (fun p => (Value.int kk p.1, p.2))
  | [], [], j, e, _, _, hj, _ => by simp at hj
  | [], _ :: _, _, _, h, _, _, _ => by simp at h
  | _ :: _, [], _, _, h, _, _, _ => by simp at h
  | (k', v') :: l, x :: es, j, e, h, hn, hj, he => by
    simp only [List.map_cons, List.cons.injEq, Prod.mk.injEq] at h
    obtain ⟨⟨h1, h2⟩, h3⟩ := h
    cases j with
    | zero =>
      simp only [List.getElem?_cons_zero, Option.some.injEq] at hj
      subst hj
      have : k' = k := by rw [h1] at he; cases he; rfl
      subst this
      simp [mset, h3]
    | succ j =>
      simp only [List.getElem?_cons_succ] at hj
      simp only [List.map_cons, List.nodup_cons] at hn
      have : k' ≠ k := fun q => hn.1 (by rw [h1, q, ← he]; exact List.mem_map_of_mem (List.mem_of_getElem? hj))
      simp only [mset, if_neg this, List.modify_succ_cons, List.map_cons, h1, h2, mset_some h3 hn.2 hj he]
theorem mdel_none {l : List (Int × Value)} {k : Int} (h : mget l k = none) : mdel l k = l := by
  induction l with
  | nil => rfl
  | cons p l ih =>
    obtain ⟨k', v'⟩ := p
    by_cases e : k = k'
    · subst e; simp [mget, List.lookup] at h
    · have hb : (k == k') = false := by simp [e]
      simp only [mget, List.lookup, hb] at h
      simp only [mdel, if_neg (fun q => e q.symm : ¬ k' = k), ih h]
theorem mdel_some {kk : IntKind} {k : Int} : ∀ {l : List (Int × Value)} {es : List MapEntry} {j : Nat} {e : MapEntry}, es.map (fun e => (e.key, e.val)) = l.map (fun p => (Value.int kk p.1, p.2)) → (es.map (·.key)).Nodup → es[j]? = some e → e.key = .int kk k →
    (es.eraseIdx j).map (fun e => (e.key, e.val)) = (mdel l k).map (fun p => (Value.int kk p.1, p.2))
  | [], [], j, e, _, _, hj, _ => by simp at hj
  | [], _ :: _, _, _, h, _, _, _ => by simp at h
  | _ :: _, [], _, _, h, _, _, _ => by simp at h
  | (k', v') :: l, x :: es, j, e, h, hn, hj, he => by
    simp only [List.map_cons, List.cons.injEq, Prod.mk.injEq] at h
    obtain ⟨⟨h1, h2⟩, h3⟩ := h
    cases j with
    | zero =>
      simp only [List.getElem?_cons_zero, Option.some.injEq] at hj
      subst hj
      have : k' = k := by rw [h1] at he; cases he; rfl
      subst this
      simp [mdel, h3]
    | succ j =>
      simp only [List.getElem?_cons_succ] at hj
      simp only [List.map_cons, List.nodup_cons] at hn
      have : k' ≠ k := fun q => hn.1 (by rw [h1, q, ← he]; exact List.mem_map_of_mem (List.mem_of_getElem? hj))
      simp only [mdel, if_neg this, List.eraseIdx_cons_succ, List.map_cons, h1, h2, mdel_some h3 hn.2 hj he]
theorem MapIs.find {kk : IntKind} {l : List (Int × Value)} {es : Array MapEntry} {clock : Nat} (h : MapIs kk l es clock) (k : Int) :
    (mget l k = none ∧ Instr.findNow (.int kk) (.int kk k) es.toList 0 = some none ∧ ∀ x ∈ es.toList, x.key ≠ .int kk k) ∨ ∃ j e, mget l k = some e.val ∧ Instr.findNow (.int kk) (.int kk k) es.toList 0 = some (some (j, e.val)) ∧ es.toList[j]? = some e ∧ e.key = .int kk k := by
  have := find_is (kk := kk) k l es.toList 0 h.1
  simpa only [Nat.zero_add] using this
theorem MapIs.empty (kk : IntKind) (c : Nat) : MapIs kk [] #[] c := ⟨rfl, stamped_empty c⟩
theorem MapIs.push {kk : IntKind} {l : List (Int × Value)} {es : Array MapEntry} {clock : Nat} (h : MapIs kk l es clock) {k : Int} {v : Value} (hk : mget l k = none) (hx : ∀ x ∈ es.toList, x.key ≠ .int kk k) : MapIs kk (mset l k v) (es.push ⟨.int kk k, v, clock⟩) (clock + 1) :=
  ⟨by rw [mset_none hk]; simp [h.1], stamped_push h.2 hx⟩
theorem MapIs.modify {kk : IntKind} {l : List (Int × Value)} {es : Array MapEntry} {clock : Nat} (h : MapIs kk l es clock) {k : Int} {v : Value} {j : Nat} {e : MapEntry} (hj : es.toList[j]? = some e) (he : e.key = .int kk k) : MapIs kk (mset l k v) (es.modify j fun x => { x with key := .int kk k, val := v }) clock :=
  ⟨by rw [Array.toList_modify]; exact mset_some h.1 h.2.2.2 hj he, stamped_modify h.2 j _ (fun _ _ => rfl) (fun x _ hx => by rw [Array.getElem?_toList] at hj; rw [hj] at hx; cases hx; exact he.symm)⟩
theorem MapIs.erase {kk : IntKind} {l : List (Int × Value)} {es : Array MapEntry} {clock : Nat} (h : MapIs kk l es clock) {k : Int} {j : Nat} {e : MapEntry} (hj : es.toList[j]? = some e) (he : e.key = .int kk k) : MapIs kk (mdel l k) (es.eraseIdxIfInBounds j) clock :=
  ⟨by
    have hlt : j < es.size := by rw [Array.getElem?_toList] at hj; exact (Array.getElem?_eq_some_iff.1 hj).1
    rw [show es.eraseIdxIfInBounds j = es.eraseIdx j from by unfold Array.eraseIdxIfInBounds; rw [dif_pos hlt], Array.toList_eraseIdx]; exact mdel_some h.1 h.2.2.2 hj he, stamped_erase h.2 j⟩
section
variable {C : Cx} {V : Vw} {H : Hp} {L : Sl} {Q : Exit → Act → World → Prop} {ops : Array Oper} {os : List Oper}
variable {ty : TypeId} {pos : String} {aft : Array Edge} {d : Nat}
theorem Run.makeMap {t : TypeId} (kk : IntKind) (hd : d < C.n) (k : ∀ v s, Om kk v [] s → Run C ops V (s :: H) ((d, v) :: L) os Q) :
    Run C ops V H L (⟨some d, .makeMap t none, ty, pos, aft, none⟩ :: os) Q :=
  Run.step (p := fun v V' H' => ∃ s, Om kk v [] s ∧ V' = V ∧ H' = s :: H) hd
    (fun a w i => ⟨.map (some w.heap.size), { w with heap := w.heap.push (.map #[] 0) }, V, _, by simp only [execOp, Instr.makeMap, Option.map_none, Sem.run_bind, Sem.run_pure, Result.andThen_ok]; rfl, ⟨_, ⟨w.heap.size, #[], 0, rfl, rfl, MapIs.empty kk 0⟩, rfl, rfl⟩, i.2.alloc _⟩)
    (fun v V' H' ⟨s, h1, h2, h3⟩ => by subst h2 h3; exact k v s h1)
theorem Y.lookup {x y : Operand} {t a b : TypeId} {kk : IntKind} {v z : Value} {k : Int} {l : List (Int × Value)} {s : Sg} {j : Nat} {c : Bool} {r : Value} (hx : ev L x = some v) (hy : ev L y = some (.int kk k)) (ht : mapT C.P t = some (kk, a, b)) (hz : zeroOf C.P b = some z) (hm : Om kk v l s) (hj : H[j]? = some s)
    (hr : (if c then Value.tuple #[(mget l k).getD z, .bool (mget l k).isSome] else (mget l k).getD z) = r) : Yl C V H L (.lookup t x y c) ty r := (fun V2 ac w hle i o ho hty => by
  subst hr
  obtain ⟨bb, es, clock, rfl, rfl, hm⟩ := hm
  obtain ⟨h1, h2⟩ := mapT_spec ht
  have hb := i.2.own bb _ (mem_of_at hj (List.mem_cons_self ..))
  have hk : IsKey (.int kk) (.int kk k) := rfl
  rcases hm.find k with ⟨g1, g2, _⟩ | ⟨q, e, g1, g2, g3, g4⟩
  · simp [execOp, ho, i.1.ev hx, i.1.ev hy, Instr.lookup, run_underlying h1, MapKept.run_getObj_map hb, run_checkKey h2 hk, run_findKey h2 g2, g1, run_zeroValue hz, Result.andThen]
  · simp [execOp, ho, i.1.ev hx, i.1.ev hy, Instr.lookup, run_underlying h1, MapKept.run_getObj_map hb, run_checkKey h2 hk, run_findKey h2 g2, g1, Result.andThen])
theorem Y.lenMap {x : Operand} {t a b : TypeId} {kk : IntKind} {v : Value} {l : List (Int × Value)} {s : Sg} {j : Nat} (hx : ev L x = some v) (ht : mapT C.P t = some (kk, a, b)) (hm : Om kk v l s) (hj : H[j]? = some s) :
    Yl C V H L (.call { callee := .builtin .len, args := #[x], argTypes := #[t] }) ty (.int .i64 (l.length : Nat)) := (fun V2 ac w hle i o ho hty => by
  obtain ⟨bb, es, clock, rfl, rfl, hm⟩ := hm
  obtain ⟨h1, h2⟩ := mapT_spec ht
  have hb := i.2.own bb _ (mem_of_at hj (List.mem_cons_self ..))
  have hl : es.size = l.length := by have := congrArg List.length hm.1; simpa using this
  simp [execOp, ho, resolve, invoke, builtin, i.1.ev hx, Builtin.len_, run_underlying h1, MapKept.run_getObj_map hb, Result.andThen, goInt, hl])
theorem St.turnMap {B : World} {S : List Nat} {U : Vw} {w : World} {j bb : Nat} {o o' : Obj} (h : St B S U V H w) (hj : H[j]? = some [(bb, o)]) : St B S U V (H.set j [(bb, o')]) { w with heap := w.heap.setIfInBounds bb o' } := by
  have hb := h.own bb _ (mem_of_at hj (List.mem_cons_self ..))
  obtain ⟨e1, e2⟩ := heap_set (o' := o') hb
  refine h.turn hj rfl (fun b' hb' => e2 b' (by simpa using hb')) (fun b' ob hob => ?_) rfl rfl rfl (by simp)
  rw [List.mem_singleton] at hob; cases hob; exact e1
theorem Run.mapUpdate {x y z : Operand} {t a b : TypeId} {kk : IntKind} {v u : Value} {k : Int} {l : List (Int × Value)} {s : Sg} (j : Nat) (hx : ev L x = some v) (hy : ev L y = some (.int kk k)) (hz : ev L z = some u) (ht : mapT C.P t = some (kk, a, b)) (hm : Om kk v l s) (hj : H[j]? = some s)
    (kc : ∀ s', Om kk v (mset l k u) s' → Run C ops V (H.set j s') L os Q) : Run C ops V H L (⟨none, .mapUpdate t x y z, ty, pos, aft, none⟩ :: os) Q := by
  obtain ⟨bb, es, clock, rfl, rfl, hm⟩ := hm
  obtain ⟨h1, h2⟩ := mapT_spec ht
  have hk : IsKey (.int kk) (.int kk k) := rfl
  rcases hm.find k with ⟨g1, g2, g3⟩ | ⟨q, e, g1, g2, g3, g4⟩
  · refine Run.act (V' := V) (H' := H.set j [(bb, .map (es.push ⟨.int kk k, u, clock⟩) (clock + 1))]) (fun ac w i => ⟨_, ?_, i.2.turnMap hj⟩) (kc _ ⟨bb, _, _, rfl, rfl, hm.push g1 g3⟩)
    have hb := i.2.own bb _ (mem_of_at hj (List.mem_cons_self ..))
    simp [execOp, i.1.ev hx, i.1.ev hy, i.1.ev hz, Instr.mapUpdate, run_underlying h1, MapKept.run_getObj_map hb, run_checkKey h2 hk, run_findKey h2 g2, run_setObj_map _ hb, Result.andThen]
  · refine Run.act (V' := V) (H' := H.set j [(bb, .map (es.modify q fun x => { x with key := .int kk k, val := u }) clock)]) (fun ac w i => ⟨_, ?_, i.2.turnMap hj⟩) (kc _ ⟨bb, _, _, rfl, rfl, hm.modify g3 g4⟩)
    have hb := i.2.own bb _ (mem_of_at hj (List.mem_cons_self ..))
    have hq : es[q]? = some e := by simpa using g3
    simp [execOp, i.1.ev hx, i.1.ev hy, i.1.ev hz, Instr.mapUpdate, run_underlying h1, MapKept.run_getObj_map hb, run_checkKey h2 hk, run_findKey h2 g2, run_keyThatStays hk, run_setObj_map _ hb, Result.andThen, hq, g4]
theorem Run.mapDelete {x y : Operand} {t t2 a b : TypeId} {kk : IntKind} {v : Value} {k : Int} {l : List (Int × Value)} {s : Sg} (j : Nat) (hx : ev L x = some v) (hy : ev L y = some (.int kk k)) (ht : mapT C.P t = some (kk, a, b)) (hm : Om kk v l s) (hj : H[j]? = some s) (hd : d < C.n)
    (kc : ∀ s', Om kk v (mdel l k) s' → Run C ops V (H.set j s') ((d, .tuple #[]) :: L) os Q) : Run C ops V H L (⟨some d, .call { callee := .builtin .delete, args := #[x, y], argTypes := #[t, t2] }, ty, pos, aft, none⟩ :: os) Q := by
  obtain ⟨bb, es, clock, rfl, rfl, hm⟩ := hm
  obtain ⟨h1, h2⟩ := mapT_spec ht
  have hk : IsKey (.int kk) (.int kk k) := rfl
  refine Run.step (p := fun v V' H' => v = .tuple #[] ∧ V' = V ∧ ∃ s', Om kk (.map (some bb)) (mdel l k) s' ∧ H' = H.set j s') hd (fun ac w i => ?_) (fun v V' H' ⟨q1, q2, s', q3, q4⟩ => by subst q1 q2 q4; exact kc s' q3)
  have hb := i.2.own bb _ (mem_of_at hj (List.mem_cons_self ..))
  rcases hm.find k with ⟨g1, g2, g3⟩ | ⟨q, e, g1, g2, g3, g4⟩
  · refine ⟨.tuple #[], { w with heap := w.heap.setIfInBounds bb (.map es clock) }, V, H.set j [(bb, .map es clock)], ?_, ⟨rfl, rfl, _, ⟨bb, es, clock, rfl, rfl, by rw [mdel_none g1]; exact hm⟩, rfl⟩, i.2.turnMap hj⟩
    simp [execOp, resolve, invoke, builtin, i.1.ev hx, i.1.ev hy, Builtin.delete_, run_underlying h1, MapKept.run_getObj_map hb, run_checkKey h2 hk, run_findKey h2 g2, run_setObj_map _ hb, Result.andThen]
  · refine ⟨.tuple #[], { w with heap := w.heap.setIfInBounds bb (.map (es.eraseIdxIfInBounds q) clock) }, V, _, ?_, ⟨rfl, rfl, _, ⟨bb, _, clock, rfl, rfl, hm.erase g3 g4⟩, rfl⟩, i.2.turnMap hj⟩
    simp [execOp, resolve, invoke, builtin, i.1.ev hx, i.1.ev hy, Builtin.delete_, run_underlying h1, MapKept.run_getObj_map hb, run_checkKey h2 hk, run_findKey h2 g2, run_setObj_map _ hb, Result.andThen]
end
/-! plain facts -/
theorem mget_mset (l : List (Int × Value)) (k k' : Int) (v : Value) : mget (mset l k v) k' = if k' = k then some v else mget l k' := by
  induction l with
  | nil =>
    by_cases h : k' = k
    · subst h; simp [mset, mget, List.lookup]
    · have hb : (k' == k) = false := by simp [h]
      simp [mset, mget, List.lookup, h, hb]
  | cons p l ih =>
    obtain ⟨a, x⟩ := p
    unfold mset
    by_cases h : a = k
    · subst h
      by_cases h2 : k' = a
      · subst h2; simp [mget, List.lookup]
      · have hb : (k' == a) = false := by simp [h2]
        simp [mget, List.lookup, h2, hb]
    · rw [if_neg h]
      by_cases h2 : k' = a
      · subst h2; simp [mget, List.lookup, h]
      · have hb : (k' == a) = false := by simp [h2]
        simp only [mget, List.lookup, hb] at ih ⊢; exact ih
end Go.K
