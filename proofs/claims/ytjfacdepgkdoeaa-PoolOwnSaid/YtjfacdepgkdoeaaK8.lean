/- The rules of the walks on statements whose order Go leaves open, where calls change memory: whatever may come up next.
Conditions: none; nothing here speaks of a program. -/
import Derived.Test.YtjfacdepgkdoeaaK7
namespace Go.K
section
variable {C : Cx} {V : Vw} {H : Hp} {L : Sl} {Q : Exit → Act → World → Prop} {ops : Array Oper} {os : List Oper}
variable {ty : TypeId} {pos : String} {aft : Array Edge} {d : Nat}

/-- 'listed' have come up; 'g' are left. -/
def RunAny (C : Cx) (ops : Array Oper) (g : Nat) (listed : Array Bool) (V : Vw) (H : Hp) (L : Sl) (Q : Exit → Act → World → Prop) : Prop := ∀ a w, Is C V H L a w → wpAny C.P .any ops Q g listed a w

theorem Tr.any {id : Nat} {l : List Oper} (hm : C.P.follows .mixedOrders = true) (h : RunAny C l.toArray l.toArray.size (Array.replicate l.toArray.size false) V H L Q) : Tr C V H L (.region id l.toArray true) Q :=
  fun a w i => wp_region_any hm (h a _ ⟨i.1, i.2.drew⟩)


theorem wpOp_of_run {i : Nat} {o : Oper} {K : Act → World → Prop} {a : Act} {w : World} (ho : ops[i]? = some o) (h : wpList C.P ops (Exit.then K Q) [o] a w) : wpOp C.P ops Q i K a w := by
  unfold wpOp
  simp only [ho]
  unfold wpList at h
  split
  · rename_i hw
    rw [if_pos hw] at h
    rcases h with h | h
    · refine .inl ?_
      unfold Oper.wp at h ⊢
      generalize (execOp a.eval o).run C.P w = r at h
      cases r with
      | ok n w' =>
        cases n <;> simp only [Oper.upon] at h ⊢ <;> first
          | exact h
          | exact Calls.mono h (fun e w'' he => by cases e <;> exact he)
      | halt x w' => cases x <;> simp only [Oper.upon] at h ⊢ <;> exact h
    · exact .inr h
  · rename_i hw
    rw [if_neg hw] at h
    exact h

theorem RunAny.done {g : Nat} {listed : Array Bool} (hr : Region.ready .any ops listed = []) (h : Ex C V H L Q .normal) : RunAny C ops g listed V H L Q := fun a w i => wpAny_done hr (h a w i) g

theorem RunAny.one {g i : Nat} {o : Oper} {listed : Array Bool} (hr : Region.ready .any ops listed = [i]) (ho : ops[i]? = some o)
    (h : Run C ops V H L [o] (Exit.then (wpAny C.P .any ops Q g (listed.setIfInBounds i true)) Q)) : RunAny C ops (g + 1) listed V H L Q := fun a w q =>
  wpAny_all hr (by simp) (fun j hj => by rw [List.mem_singleton] at hj; subst hj; exact wpOp_of_run ho (h a w q))
theorem RunAny.two {g i j : Nat} {o o' : Oper} {listed : Array Bool} (hr : Region.ready .any ops listed = [i, j]) (ho : ops[i]? = some o) (ho' : ops[j]? = some o')
    (h : Run C ops V H L [o] (Exit.then (wpAny C.P .any ops Q g (listed.setIfInBounds i true)) Q)) (h' : Run C ops V H L [o'] (Exit.then (wpAny C.P .any ops Q g (listed.setIfInBounds j true)) Q)) : RunAny C ops (g + 1) listed V H L Q := fun a w q =>
  wpAny_all hr (by simp) (fun k hk => by
    rcases List.mem_cons.1 hk with rfl | hk
    · exact wpOp_of_run ho (h a w q)
    · rw [List.mem_singleton] at hk; subst hk; exact wpOp_of_run ho' (h' a w q))
theorem RunAny.three {g i j k : Nat} {o o' o2 : Oper} {listed : Array Bool} (hr : Region.ready .any ops listed = [i, j, k]) (ho : ops[i]? = some o) (ho' : ops[j]? = some o') (ho2 : ops[k]? = some o2)
    (h : Run C ops V H L [o] (Exit.then (wpAny C.P .any ops Q g (listed.setIfInBounds i true)) Q)) (h' : Run C ops V H L [o'] (Exit.then (wpAny C.P .any ops Q g (listed.setIfInBounds j true)) Q))
    (h2 : Run C ops V H L [o2] (Exit.then (wpAny C.P .any ops Q g (listed.setIfInBounds k true)) Q)) : RunAny C ops (g + 1) listed V H L Q := fun a w q =>
  wpAny_all hr (by simp) (fun m hm => by
    rcases List.mem_cons.1 hm with rfl | hm
    · exact wpOp_of_run ho (h a w q)
    · rcases List.mem_cons.1 hm with rfl | hm
      · exact wpOp_of_run ho' (h' a w q)
      · rw [List.mem_singleton] at hm; subst hm; exact wpOp_of_run ho2 (h2 a w q))
theorem Ex.any {g : Nat} {listed : Array Bool} (h : RunAny C ops g listed V H L Q) : Ex C V H L (Exit.then (wpAny C.P .any ops Q g listed) Q) .normal := h

/-- The world that is any. -/
def C0 (C : Cx) (B : World) : Cx := ⟨C.P, C.n, B, [], fun _ => none, C.D⟩
theorem st0 (w : World) : St w [] (fun _ => none) (fun _ => none) [] w :=
  ⟨rfl, rfl, rfl, Nat.le_refl _, fun _ _ _ => rfl, fun _ _ h => (by cases h), List.nodup_nil, fun _ h => (by cases h), fun _ _ h => h, fun _ _ h => (by cases h), fun _ _ h => (by cases h), fun _ _ h => (by cases h)⟩

/-- What yields its value in whatever world may be taken first. -/
theorem RunAny.take {g i : Nat} {op : Op} {v : Value} {listed : Array Bool} (ho : ops[i]? = some ⟨some d, op, ty, pos, aft, none⟩) (hs : Region.noSelect ops = true) (hf : Region.free .any ops listed i = true) (hr : (Region.ready .any ops listed).contains i = true)
    (hQ : ∀ c a w, Q (.panic c) (a.put (some d) v) w → Q (.panic c) a w) (hd : d < C.n) (hy : ∀ B, Yl (C0 C B) (fun _ => none) [] L op ty v) (h : RunAny C ops g (listed.setIfInBounds i true) V H ((d, v) :: L) Q) : RunAny C ops (g + 1) listed V H L Q := fun a w q =>
  wpAny_take ho hs hf hr hQ (.inl ⟨by simp [Region.wanted], fun w' => hy w' _ a w' (Vw.le_refl _) ⟨q.1, st0 w'⟩ _ rfl rfl⟩) (h _ w ⟨q.1.put hd v, q.2⟩)

/-- A call of whatever is owned whole. -/
theorem Run.callW {x : Operand} {l : List Operand} {at_ : Array TypeId} {f : FuncId} {first cap : Array Value} {vs args : List Value} {R : Value → Vw → Hp → Prop}
    (hx : ev L x = some (.func (.func f) first cap)) (hl : evs L l = some vs) (ha : first.toList ++ vs ++ cap.toList = args) (hd : d < C.n) (hc : Does C.P f args V H R)
    (k : ∀ v V' H', V.le V' → R v V' H' → Run C ops V' H' ((d, v) :: L) os Q) :
    Run C ops V H L (⟨some d, .call { callee := .value x, args := l.toArray, argTypes := at_ }, ty, pos, aft, none⟩ :: os) Q := fun a w i => by
  unfold wpList
  rw [if_pos (by simp [Region.wanted])]
  refine .inl ?_
  unfold Oper.wp
  have e1 := i.1.ev hx
  have e2 := i.1.evs hl
  have hr : (execOp a.eval ⟨some d, .call { callee := .value x, args := l.toArray, argTypes := at_ }, ty, pos, aft, none⟩).run C.P w = .ok (.enter f args.toArray) w := by
    have ha' : first ++ (l.map a.eval).toArray ++ cap = args.toArray := by rw [e2, ← ha]; simp
    simp only [execOp, resolve, e1, Deferred.ofValue, Sem.run_bind, Sem.run_pure, Result.andThen_ok, invoke, List.map_toArray, ha']
    exact run_callFunc hc.1
  rw [hr]
  have hst : St C.B C.S C.U V ([] ++ H) w := i.2
  refine (hc.2 w hst.give).mono fun e w' ⟨v, V', H', he, hR, hs⟩ => ?_
  subst he
  exact k v V' H' hs.le hR _ _ ⟨i.1.put hd v, hst.take hs⟩

theorem Ow.form {e : TypeId} {k : Nat} {v : Value} {n : Nat} {xs : List Value} {s : Sg} (h : Ow e k v n xs s) : ∃ p c, v = .slice p n c := by
  rcases h.2 with ⟨h1, h2, _⟩ | ⟨b, cap, cur, h1, _⟩
  · exact ⟨none, 0, by rw [h1, h2]⟩
  · exact ⟨_, _, h1⟩
theorem Run.nilseg (k : Run C ops V ([] :: H) L os Q) : Run C ops V H L os Q := fun a w i => k a w ⟨i.1, i.2.recut (by simp)⟩
theorem Tr.nilseg {c : Code} (k : Tr C V ([] :: H) L c Q) : Tr C V H L c Q := fun a w i => k a w ⟨i.1, i.2.recut (by simp)⟩
theorem all_one_bytes (l : List UInt8) : (l.map byteV).all one = true := by simp [byteV, one]
theorem byteV_of {z : Int} (h : 0 ≤ z ∧ z ≤ 255) : byteV (UInt8.ofNat z.toNat) = .int .u8 z := by
  unfold byteV
  congr 1
  have : z.toNat < 256 := by omega
  simp [Nat.mod_eq_of_lt this]; omega
theorem byteV_nat {n : Nat} (h : n ≤ 255) : byteV (UInt8.ofNat n) = .int .u8 (n : Int) := by
  have := byteV_of (z := (n : Int)) (by omega)
  simpa using this
theorem Run.drop {s : Sg} {H : Hp} (k : Run C ops V H L os Q) : Run C ops V (s :: H) L os Q := fun a w i => k a w ⟨i.1, St.drop (H' := [s]) i.2⟩
theorem Tr.drop {c : Code} {s : Sg} {H : Hp} (k : Tr C V H L c Q) : Tr C V (s :: H) L c Q := fun a w i => k a w ⟨i.1, St.drop (H' := [s]) i.2⟩
theorem Ex.drop {e : Exit} {s : Sg} {H : Hp} (k : Ex C V H L Q e) : Ex C V (s :: H) L Q e := fun a w i => k a w ⟨i.1, St.drop (H' := [s]) i.2⟩
theorem Kn.cons {b : Nat} {o : Obj} {s : Sg} (h : Kn V H b o) : Kn V (s :: H) b o := h.imp id (fun h => by rw [List.flatten_cons]; exact List.mem_append.2 (.inr h))
theorem Rd.cons {k : Nat} {v : Value} {n : Nat} {xs : List Value} {s : Sg} (h : Rd V H k v n xs) : Rd V (s :: H) k v n xs := by
  obtain ⟨h1, p, c, h2, h3, h4⟩ := h
  refine ⟨h1, p, c, h2, h3, h4.imp id ?_⟩
  rintro ⟨b, off, cs, e, fz, a1, a2, a3⟩
  exact ⟨b, off, cs, e, fz, a1, a2.cons, a3⟩
theorem Rd.of_nil {k : Nat} {v : Value} {n : Nat} {xs : List Value} (h : Rd V [] k v n xs) : Rd V H k v n xs := by
  obtain ⟨h1, p, c, h2, h3, h4⟩ := h
  refine ⟨h1, p, c, h2, h3, h4.imp id ?_⟩
  rintro ⟨b, off, cs, e, fz, a1, a2, a3⟩
  exact ⟨b, off, cs, e, fz, a1, a2.imp id (fun h => by cases h), a3⟩
end
end Go.K
