/- The rules of the walks on statements whose order Go leaves open, where loads stand beside what writes elsewhere: what is loaded from blocks that stay as they are may be taken first.
Conditions: none; nothing here speaks of a program. -/
import Derived.Test.YtjfacdepgkdoeaaK8
namespace Go.K
section
variable {P : Program} {ops : Array Oper} {Q : Exit → Act → World → Prop} {md : Region.Mode} {D : World → Prop}

/-- Whatever order is picked from here on; behind each operation D holds. -/
def anyD (P : Program) (md : Region.Mode) (ops : Array Oper) (D : World → Prop) (Q : Exit → Act → World → Prop) : Nat → Array Bool → Act → World → Prop
  | 0, listed, a, w => Region.ready md ops listed = [] ∧ Q .normal a w
  | f + 1, listed, a, w => (Region.ready md ops listed = [] → Q .normal a w) ∧ ∀ i, i ∈ Region.ready md ops listed → wpOp P ops Q i (fun a' w' => D w' ∧ anyD P md ops D Q f (listed.setIfInBounds i true) a' w') a w

theorem any_of_anyD : ∀ (f : Nat) (listed : Array Bool) (a : Act) (w : World), anyD P md ops D Q f listed a w → wpAny P md ops Q f listed a w
  | 0, _, _, _, h => h
  | f + 1, _, _, _, h => ⟨h.1, fun i hi => wpOp_mono (fun a' w' h' => any_of_anyD f _ a' w' h'.2) (h.2 i hi)⟩

/-- In state a the operation yields v in every world of D, and leaves it. -/
def YieldsD (P : Program) (ops : Array Oper) (D : World → Prop) (o : Oper) (v : Value) (a : Act) : Prop :=
  (Region.wanted o (yielded ops a.tmps) = true ∧ ∀ w, D w → (execOp a.eval o).run P w = .ok (.value v) w) ∨ (Region.wanted o (yielded ops a.tmps) = false ∧ v = undef)

theorem YieldsD.wpOp {i : Nat} {o : Oper} {v : Value} {a : Act} (hi : ops[i]? = some o) (hy : YieldsD P ops D o v a) {K : Act → World → Prop} {w : World} (hw : D w) (h : K (a.put o.dst v) w) : wpOp P ops Q i K a w := by
  unfold Go.wpOp
  simp only [hi]
  rcases hy with ⟨hg, hv⟩ | ⟨hg, rfl⟩
  · simp only [hg, if_true, Oper.wp, hv w hw, Oper.upon]; exact .inl h
  · simp only [hg, Bool.false_eq_true, if_false]; exact h

/-- What another operation, apart from this one, leaves of its operands. -/
theorem wpOp_apart {j : Nat} {oi oj : Oper} {v : Value} (hj : ops[j]? = some oj) (hap : oi.apart ops oj = true) (hsi : ∀ cs b, oi.op ≠ .select cs b) (hsj : ∀ cs b, oj.op ≠ .select cs b)
    (hQ : ∀ c a w, Q (.panic c) (a.put oi.dst v) w → Q (.panic c) a w) {K : Act → World → Prop} {a : Act} {w : World} (hy : YieldsD P ops D oi v a) (h : wpOp P ops Q j K (a.put oi.dst v) w) :
    wpOp P ops Q j (fun a' w' => YieldsD P ops D oi v a' ∧ K (a'.put oi.dst v) w') a w := by
  obtain ⟨h1, h2, h3⟩ := Oper.apart_spec hap
  have same : ∀ a' : Act, execOp a'.eval oi = execOp a.eval oi → Region.wanted oi (yielded ops a'.tmps) = Region.wanted oi (yielded ops a.tmps) → YieldsD P ops D oi v a' := fun a' he hw => by
    unfold YieldsD at hy ⊢; rw [he, hw]; exact hy
  have keep : ∀ u, YieldsD P ops D oi v (a.put oj.dst u) := fun u => same _ (execOp_put oi hsi a oj.dst u h3) (wanted_put oi a oj.dst u h3)
  have keepD : ∀ d u, YieldsD P ops D oi v (({ a with defers := d :: a.defers } : Act).put oj.dst u) := fun d u => same _ (execOp_put oi hsi _ oj.dst u h3) (wanted_put oi _ oj.dst u h3)
  unfold wpOp at *
  simp only [hj] at *
  rw [wanted_put oj a oi.dst v h1] at h
  by_cases hw : Region.wanted oj (yielded ops a.tmps) = true
  · rw [if_pos hw] at h ⊢
    rcases h with h | ⟨hasks, hlets⟩
    · refine .inl ?_
      unfold Oper.wp at *
      rw [execOp_put oj hsj a oi.dst v h1] at h
      generalize (execOp a.eval oj).run P w = r at *
      cases r with
      | halt x w' => cases x <;> simp only [Oper.upon] at h ⊢; exact hQ _ _ _ h
      | ok n w' =>
        cases n <;> simp only [Oper.upon] at h ⊢
        · exact ⟨keep _, by rw [← Act.put_comm a v _ h2]; exact h⟩
        · exact ⟨keep _, by rw [← Act.put_comm a v _ h2]; exact h⟩
        · refine Calls.mono h fun e w'' he => ?_
          cases e with
          | returned u => exact ⟨keep u, by rw [← Act.put_comm a v u h2]; exact he⟩
          | panicked c => exact hQ _ _ _ he
          | outgrown => exact he
        · refine ⟨keepD _ _, ?_⟩
          rw [← Act.put_comm _ v undef h2, ← Act.put_defers]; exact h
        · exact Rows.mono h fun u w'' he => ⟨keep u, by rw [← Act.put_comm a v u h2]; exact he⟩
    · exact .inr ⟨by unfold Oper.asks at *; rw [execOp_put oj hsj a oi.dst v h1] at hasks; exact hasks, hlets⟩
  · rw [if_neg hw] at h ⊢
    exact ⟨keep _, by rw [← Act.put_comm a v undef h2]; exact h⟩

theorem anyD_take {i : Nat} {oi : Oper} {v : Value} (hi : ops[i]? = some oi) (hsel : ∀ (j : Nat) (o : Oper) cs b, ops[j]? = some o → o.op ≠ .select cs b) (hQ : ∀ c a w, Q (.panic c) (a.put oi.dst v) w → Q (.panic c) a w) (f : Nat) :
    ∀ (listed : Array Bool) (a : Act) (w : World), (∀ j oj, ops[j]? = some oj → j ≠ i → listed.getD j true = false → (∀ e, e ∈ oj.after → Region.binds md e = true → e.on ≠ i) → oi.apart ops oj = true) →
      i ∈ Region.ready md ops listed → D w → YieldsD P ops D oi v a → anyD P md ops D Q f (listed.setIfInBounds i true) (a.put oi.dst v) w → anyD P md ops D Q (f + 1) listed a w := by
  induction f with
  | zero =>
    intro listed a w _ hr hw hy hh
    refine ⟨fun h => (by rw [h] at hr; cases hr), fun j hj => ?_⟩
    by_cases e : j = i
    · subst e; exact hy.wpOp hi hw ⟨hw, hh⟩
    · have := ready_mono hj e
      rw [hh.1] at this; cases this
  | succ f ih =>
    intro listed a w hfree hr hw hy hh
    refine ⟨fun h => (by rw [h] at hr; cases hr), fun j hj => ?_⟩
    by_cases e : j = i
    · subst e; exact hy.wpOp hi hw ⟨hw, hh⟩
    · obtain ⟨hju, oj, hoj, hdeps⟩ := mem_ready.1 hj
      have hno : ∀ ed, ed ∈ oj.after → Region.binds md ed = true → ed.on ≠ i := fun ed he hb heq => by
        have h1 := hdeps ed he hb
        rw [heq, getD_both (mem_ready.1 hr).1] at h1
        cases h1
      have h2 := wpOp_apart hoj (hfree j oj hoj e hju hno) (fun cs b => hsel i oi cs b hi) (fun cs b => hsel j oj cs b hoj) hQ hy (hh.2 j (ready_mono hj e))
      refine wpOp_mono (fun a' w' ⟨h3, h4, h5⟩ => ⟨h4, ih (listed.setIfInBounds j true) a' w' (fun k ok hk hki hku hkn => hfree k ok hk hki ?_ hkn) (ready_mono hr fun q => e q.symm) h4 h3 ?_⟩) h2
      · by_cases q : j = k
        · subst q; exact hju
        · rw [getD_set_ne true q] at hku; exact hku
      · rw [Array.setIfInBounds_comm _ _ e]; exact h5
end

section
variable {C : Cx} {V : Vw} {H : Hp} {L : Sl} {Q : Exit → Act → World → Prop} {ops : Array Oper} {os : List Oper}
variable {ty : TypeId} {pos : String} {aft : Array Edge} {d : Nat}

/-- The blocks of S0 read as they do. -/
def DK (S0 : Sg) (w : World) : Prop := ∀ b o, (b, o) ∈ S0 → w.heap[b]? = some o
/-- What stays known through the statement. -/
def KnAll (V : Vw) (H : Hp) (S0 : Sg) : Prop := ∀ b o, (b, o) ∈ S0 → Kn V H b o
theorem KnAll.nil : KnAll V H [] := fun _ _ h => by cases h
theorem KnAll.cons {b : Nat} {o : Obj} {S0 : Sg} (h : Kn V H b o) (k : KnAll V H S0) : KnAll V H ((b, o) :: S0) := fun c oc hc => by
  rcases List.mem_cons.1 hc with e | hc
  · cases e; exact h
  · exact k c oc hc

def RunD (C : Cx) (ops : Array Oper) (S0 : Sg) (g : Nat) (listed : Array Bool) (V : Vw) (H : Hp) (L : Sl) (Q : Exit → Act → World → Prop) : Prop := ∀ a w, Is C V H L a w → anyD C.P .any ops (DK S0) Q g listed a w

theorem Tr.anyD {id : Nat} {l : List Oper} (S0 : Sg) (hm : C.P.follows .mixedOrders = true) (h : RunD C l.toArray S0 l.toArray.size (Array.replicate l.toArray.size false) V H L Q) : Tr C V H L (.region id l.toArray true) Q :=
  fun a w i => wp_region_any hm (any_of_anyD _ _ _ _ (h a _ ⟨i.1, i.2.drew⟩))

variable {S0 : Sg}
theorem RunD.done {g : Nat} {listed : Array Bool} (hr : Region.ready .any ops listed = []) (h : Ex C V H L Q .normal) : RunD C ops S0 g listed V H L Q := fun a w i => by
  cases g with
  | zero => exact ⟨hr, h a w i⟩
  | succ g => exact ⟨fun _ => h a w i, fun j hj => by rw [hr] at hj; cases hj⟩

theorem RunD.one {g i : Nat} {o : Oper} {listed : Array Bool} (hr : Region.ready .any ops listed = [i]) (ho : ops[i]? = some o)
    (h : Run C ops V H L [o] (Exit.then (fun a' w' => DK S0 w' ∧ K.anyD C.P .any ops (DK S0) Q g (listed.setIfInBounds i true) a' w') Q)) : RunD C ops S0 (g + 1) listed V H L Q := fun a w q =>
  ⟨fun h0 => (by rw [hr] at h0; cases h0), fun j hj => by rw [hr, List.mem_singleton] at hj; subst hj; exact wpOp_of_run ho (h a w q)⟩
theorem RunD.two {g i j : Nat} {o o' : Oper} {listed : Array Bool} (hr : Region.ready .any ops listed = [i, j]) (ho : ops[i]? = some o) (ho' : ops[j]? = some o')
    (h : Run C ops V H L [o] (Exit.then (fun a' w' => DK S0 w' ∧ K.anyD C.P .any ops (DK S0) Q g (listed.setIfInBounds i true) a' w') Q))
    (h' : Run C ops V H L [o'] (Exit.then (fun a' w' => DK S0 w' ∧ K.anyD C.P .any ops (DK S0) Q g (listed.setIfInBounds j true) a' w') Q)) : RunD C ops S0 (g + 1) listed V H L Q := fun a w q =>
  ⟨fun h0 => (by rw [hr] at h0; cases h0), fun k hk => by
    rw [hr] at hk
    rcases List.mem_cons.1 hk with rfl | hk
    · exact wpOp_of_run ho (h a w q)
    · rw [List.mem_singleton] at hk; subst hk; exact wpOp_of_run ho' (h' a w q)⟩
theorem RunD.three {g i j k : Nat} {o o' o2 : Oper} {listed : Array Bool} (hr : Region.ready .any ops listed = [i, j, k]) (ho : ops[i]? = some o) (ho' : ops[j]? = some o') (ho2 : ops[k]? = some o2)
    (h : Run C ops V H L [o] (Exit.then (fun a' w' => DK S0 w' ∧ K.anyD C.P .any ops (DK S0) Q g (listed.setIfInBounds i true) a' w') Q))
    (h' : Run C ops V H L [o'] (Exit.then (fun a' w' => DK S0 w' ∧ K.anyD C.P .any ops (DK S0) Q g (listed.setIfInBounds j true) a' w') Q))
    (h2 : Run C ops V H L [o2] (Exit.then (fun a' w' => DK S0 w' ∧ K.anyD C.P .any ops (DK S0) Q g (listed.setIfInBounds k true) a' w') Q)) : RunD C ops S0 (g + 1) listed V H L Q := fun a w q =>
  ⟨fun h0 => (by rw [hr] at h0; cases h0), fun m hm => by
    rw [hr] at hm
    rcases List.mem_cons.1 hm with rfl | hm
    · exact wpOp_of_run ho (h a w q)
    · rcases List.mem_cons.1 hm with rfl | hm
      · exact wpOp_of_run ho' (h' a w q)
      · rw [List.mem_singleton] at hm; subst hm; exact wpOp_of_run ho2 (h2 a w q)⟩
theorem Ex.anyD {g : Nat} {listed : Array Bool} (hk : KnAll V H S0) (h : RunD C ops S0 g listed V H L Q) : Ex C V H L (Exit.then (fun a' w' => DK S0 w' ∧ K.anyD C.P .any ops (DK S0) Q g listed a' w') Q) .normal := fun a w i => ⟨fun b o hb => (hk b o hb).st i.2, h a w i⟩

/-- The world of which only the blocks of S0 are known. -/
def VK (S0 : Sg) : Vw := fun b => S0.lookup b
theorem lookup_mem : ∀ {S0 : Sg} {b : Nat} {o : Obj}, S0.lookup b = some o → (b, o) ∈ S0
  | (c, oc) :: S0, b, o, h => by
    by_cases e : b = c
    · subst e; simp only [List.lookup, beq_self_eq_true] at h; cases h; exact List.mem_cons_self ..
    · have : (b == c) = false := by simp [e]
      simp only [List.lookup, this] at h; exact List.mem_cons_of_mem _ (lookup_mem h)
theorem stK {w : World} (h : DK S0 w) : St w [] (VK S0) (VK S0) [] w :=
  ⟨rfl, rfl, rfl, Nat.le_refl _, fun _ _ _ => rfl, fun _ _ h => (by cases h), List.nodup_nil, fun _ h => (by cases h), Vw.le_refl _, fun b o hb => h b o (lookup_mem hb), fun _ _ _ h => (by cases h), fun _ _ h => .inl h⟩
def CK (C : Cx) (S0 : Sg) (B : World) : Cx := ⟨C.P, C.n, B, [], VK S0, C.D⟩

/-- What yields its value wherever a block of these reads as it does may be taken first. -/
theorem RunD.take {g i : Nat} {op : Op} {v : Value} {listed : Array Bool} {b : Nat} {o : Obj} (m : Nat) (hm : S0[m]? = some (b, o)) (ho : ops[i]? = some ⟨some d, op, ty, pos, aft, none⟩) (hs : Region.noSelect ops = true) (hf : Region.free .any ops listed i = true)
    (hr : (Region.ready .any ops listed).contains i = true) (hQ : ∀ c a w, Q (.panic c) (a.put (some d) v) w → Q (.panic c) a w) (hd : d < C.n) (hk : KnAll V H S0) (hy : ∀ B, Yl (CK C [(b, o)] B) (VK [(b, o)]) [] L op ty v)
    (h : RunD C ops S0 g (listed.setIfInBounds i true) V H ((d, v) :: L) Q) : RunD C ops S0 (g + 1) listed V H L Q := fun a w q =>
  anyD_take ho (Region.noSelect_spec hs) hQ g listed a w (Region.free_spec ho hf) (by simpa using hr) (fun b o hb => (hk b o hb).st q.2)
    (.inl ⟨by simp [Region.wanted], fun w' hw' => hy w' _ a w' (Vw.le_refl _) ⟨q.1, stK fun c oc hc => by rw [List.mem_singleton] at hc; cases hc; exact hw' b o (List.mem_of_getElem? hm)⟩ _ rfl rfl⟩) (h _ w ⟨q.1.put hd v, q.2⟩)
/-- And what yields it in whatever world. -/
theorem RunD.pure {g i : Nat} {op : Op} {v : Value} {listed : Array Bool} (ho : ops[i]? = some ⟨some d, op, ty, pos, aft, none⟩) (hs : Region.noSelect ops = true) (hf : Region.free .any ops listed i = true)
    (hr : (Region.ready .any ops listed).contains i = true) (hQ : ∀ c a w, Q (.panic c) (a.put (some d) v) w → Q (.panic c) a w) (hd : d < C.n) (hk : KnAll V H S0) (hy : ∀ B, Yl (CK C [] B) (VK []) [] L op ty v)
    (h : RunD C ops S0 g (listed.setIfInBounds i true) V H ((d, v) :: L) Q) : RunD C ops S0 (g + 1) listed V H L Q := fun a w q =>
  anyD_take ho (Region.noSelect_spec hs) hQ g listed a w (Region.free_spec ho hf) (by simpa using hr) (fun b o hb => (hk b o hb).st q.2)
    (.inl ⟨by simp [Region.wanted], fun w' _ => hy w' _ a w' (Vw.le_refl _) ⟨q.1, stK fun c oc hc => by cases hc⟩ _ rfl rfl⟩) (h _ w ⟨q.1.put hd v, q.2⟩)
theorem Kn.vk1 {b : Nat} {o : Obj} : Kn (VK [(b, o)]) [] b o := .inl (by simp [VK, List.lookup])
theorem Kn.vk {b : Nat} {o : Obj} (h : S0.lookup b = some o) : Kn (VK S0) [] b o := .inl h
end
end Go.K
