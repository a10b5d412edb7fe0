/- The rules of K9 once more, where the last operation, which comes behind all others, may change what was known.
Conditions: none; nothing here speaks of a program. -/
import Derived.Test.YtjfacdepgkdoeaaK18
namespace Go.K
section
variable {P : Program} {ops : Array Oper} {Q : Exit → Act → World → Prop} {md : Region.Mode} {D : World → Prop}

/-- Whatever order is picked from here on; behind each operation but the last one D holds. -/
def anyL (P : Program) (md : Region.Mode) (ops : Array Oper) (D : World → Prop) (z : Nat) (Q : Exit → Act → World → Prop) : Nat → Array Bool → Act → World → Prop
  | 0, listed, a, w => Region.ready md ops listed = [] ∧ Q .normal a w
  | f + 1, listed, a, w => (Region.ready md ops listed = [] → Q .normal a w) ∧ ∀ i, i ∈ Region.ready md ops listed → wpOp P ops Q i (fun a' w' => (i ≠ z → D w') ∧ anyL P md ops D z Q f (listed.setIfInBounds i true) a' w') a w

theorem any_of_anyL {z : Nat} : ∀ (f : Nat) (listed : Array Bool) (a : Act) (w : World), anyL P md ops D z Q f listed a w → wpAny P md ops Q f listed a w
  | 0, _, _, _, h => h
  | f + 1, _, _, _, h => ⟨h.1, fun i hi => wpOp_mono (fun a' w' h' => any_of_anyL f _ a' w' h'.2) (h.2 i hi)⟩
/-- The operation z waits for i. -/
def waits (md : Region.Mode) (ops : Array Oper) (z i : Nat) : Bool := match ops[z]? with
  | some o => o.after.any fun e => Region.binds md e && Nat.beq e.on i
  | none => false
theorem waits_spec {z i : Nat} (h : waits md ops z i = true) : ∃ o e, ops[z]? = some o ∧ e ∈ o.after ∧ Region.binds md e = true ∧ e.on = i := by
  unfold waits at h
  split at h
  · rename_i o ho
    obtain ⟨e, he, h2⟩ := Array.any_eq_true'.1 h
    simp only [Bool.and_eq_true] at h2
    exact ⟨o, e, ho, he, h2.1, Nat.eq_of_beq_eq_true h2.2⟩
  · cases h

theorem anyL_take {z i : Nat} {oi : Oper} {v : Value} (hi : ops[i]? = some oi) (hsel : ∀ (j : Nat) (o : Oper) cs b, ops[j]? = some o → o.op ≠ .select cs b) (hQ : ∀ c a w, Q (.panic c) (a.put oi.dst v) w → Q (.panic c) a w) (hz : waits md ops z i = true) (f : Nat) :
    ∀ (listed : Array Bool) (a : Act) (w : World), (∀ j oj, ops[j]? = some oj → j ≠ i → listed.getD j true = false → (∀ e, e ∈ oj.after → Region.binds md e = true → e.on ≠ i) → oi.apart ops oj = true) →
      i ∈ Region.ready md ops listed → D w → YieldsD P ops D oi v a → anyL P md ops D z Q f (listed.setIfInBounds i true) (a.put oi.dst v) w → anyL P md ops D z Q (f + 1) listed a w := by
  induction f with
  | zero =>
    intro listed a w _ hr hw hy hh
    refine ⟨fun h => (by rw [h] at hr; cases hr), fun j hj => ?_⟩
    by_cases e : j = i
    · subst e; exact hy.wpOp hi hw ⟨fun _ => hw, hh⟩
    · have := ready_mono hj e
      rw [hh.1] at this; cases this
  | succ f ih =>
    intro listed a w hfree hr hw hy hh
    refine ⟨fun h => (by rw [h] at hr; cases hr), fun j hj => ?_⟩
    by_cases e : j = i
    · subst e; exact hy.wpOp hi hw ⟨fun _ => hw, hh⟩
    · obtain ⟨hju, oj, hoj, hdeps⟩ := mem_ready.1 hj
      have hjz : j ≠ z := fun q => by
        obtain ⟨oz, ed, h1, h2, h3, h4⟩ := waits_spec hz
        rw [q, h1] at hoj; cases hoj
        have h5 := hdeps ed h2 h3
        rw [h4, getD_both (mem_ready.1 hr).1] at h5
        cases h5
      have hno : ∀ ed, ed ∈ oj.after → Region.binds md ed = true → ed.on ≠ i := fun ed he hb heq => by
        have h1 := hdeps ed he hb
        rw [heq, getD_both (mem_ready.1 hr).1] at h1
        cases h1
      have h2 := wpOp_apart hoj (hfree j oj hoj e hju hno) (fun cs b => hsel i oi cs b hi) (fun cs b => hsel j oj cs b hoj) hQ hy (hh.2 j (ready_mono hj e))
      refine wpOp_mono (fun a' w' ⟨h3, h4', h5⟩ => have h4 := h4' hjz; ⟨fun _ => h4, ih (listed.setIfInBounds j true) a' w' (fun k ok hk hki hku hkn => hfree k ok hk hki ?_ hkn) (ready_mono hr fun q => e q.symm) h4 h3 ?_⟩) h2
      · by_cases q : j = k
        · subst q; exact hju
        · rw [getD_set_ne true q] at hku; exact hku
      · rw [Array.setIfInBounds_comm _ _ e]; exact h5
end

section
variable {C : Cx} {V : Vw} {H : Hp} {L : Sl} {Q : Exit → Act → World → Prop} {ops : Array Oper} {os : List Oper}
variable {ty : TypeId} {pos : String} {aft : Array Edge} {d : Nat}
def RunL (C : Cx) (ops : Array Oper) (S0 : Sg) (z g : Nat) (listed : Array Bool) (V : Vw) (H : Hp) (L : Sl) (Q : Exit → Act → World → Prop) : Prop := ∀ a w, Is C V H L a w → anyL C.P .any ops (DK S0) z Q g listed a w

theorem Tr.anyL {id : Nat} {l : List Oper} (S0 : Sg) (z : Nat) (hm : C.P.follows .mixedOrders = true) (h : RunL C l.toArray S0 z l.toArray.size (Array.replicate l.toArray.size false) V H L Q) : Tr C V H L (.region id l.toArray true) Q :=
  fun a w i => wp_region_any hm (any_of_anyL _ _ _ _ (h a _ ⟨i.1, i.2.drew⟩))

variable {S0 : Sg} {z : Nat}
theorem RunL.done {g : Nat} {listed : Array Bool} (hr : Region.ready .any ops listed = []) (h : Ex C V H L Q .normal) : RunL C ops S0 z g listed V H L Q := fun a w i => by
  cases g with
  | zero => exact ⟨hr, h a w i⟩
  | succ g => exact ⟨fun _ => h a w i, fun j hj => by rw [hr] at hj; cases hj⟩

theorem RunL.one {g i : Nat} {o : Oper} {listed : Array Bool} (hr : Region.ready .any ops listed = [i]) (ho : ops[i]? = some o)
    (h : Run C ops V H L [o] (Exit.then (fun a' w' => (i ≠ z → DK S0 w') ∧ K.anyL C.P .any ops (DK S0) z Q g (listed.setIfInBounds i true) a' w') Q)) : RunL C ops S0 z (g + 1) listed V H L Q := fun a w q =>
  ⟨fun h0 => (by rw [hr] at h0; cases h0), fun j hj => by rw [hr, List.mem_singleton] at hj; subst hj; exact wpOp_of_run ho (h a w q)⟩
theorem RunL.two {g i j : Nat} {o o' : Oper} {listed : Array Bool} (hr : Region.ready .any ops listed = [i, j]) (ho : ops[i]? = some o) (ho' : ops[j]? = some o')
    (h : Run C ops V H L [o] (Exit.then (fun a' w' => (i ≠ z → DK S0 w') ∧ K.anyL C.P .any ops (DK S0) z Q g (listed.setIfInBounds i true) a' w') Q))
    (h' : Run C ops V H L [o'] (Exit.then (fun a' w' => (j ≠ z → DK S0 w') ∧ K.anyL C.P .any ops (DK S0) z Q g (listed.setIfInBounds j true) a' w') Q)) : RunL C ops S0 z (g + 1) listed V H L Q := fun a w q =>
  ⟨fun h0 => (by rw [hr] at h0; cases h0), fun k hk => by
    rw [hr] at hk
    rcases List.mem_cons.1 hk with rfl | hk
    · exact wpOp_of_run ho (h a w q)
    · rw [List.mem_singleton] at hk; subst hk; exact wpOp_of_run ho' (h' a w q)⟩
theorem RunL.three {g i j k : Nat} {o o' o2 : Oper} {listed : Array Bool} (hr : Region.ready .any ops listed = [i, j, k]) (ho : ops[i]? = some o) (ho' : ops[j]? = some o') (ho2 : ops[k]? = some o2)
    (h : Run C ops V H L [o] (Exit.then (fun a' w' => (i ≠ z → DK S0 w') ∧ K.anyL C.P .any ops (DK S0) z Q g (listed.setIfInBounds i true) a' w') Q))
    (h' : Run C ops V H L [o'] (Exit.then (fun a' w' => (j ≠ z → DK S0 w') ∧ K.anyL C.P .any ops (DK S0) z Q g (listed.setIfInBounds j true) a' w') Q))
    (h2 : Run C ops V H L [o2] (Exit.then (fun a' w' => (k ≠ z → DK S0 w') ∧ K.anyL C.P .any ops (DK S0) z Q g (listed.setIfInBounds k true) a' w') Q)) : RunL C ops S0 z (g + 1) listed V H L Q := fun a w q =>
  ⟨fun h0 => (by rw [hr] at h0; cases h0), fun m hm => by
    rw [hr] at hm
    rcases List.mem_cons.1 hm with rfl | hm
    · exact wpOp_of_run ho (h a w q)
    · rcases List.mem_cons.1 hm with rfl | hm
      · exact wpOp_of_run ho' (h' a w q)
      · rw [List.mem_singleton] at hm; subst hm; exact wpOp_of_run ho2 (h2 a w q)⟩
theorem Ex.anyL {i g : Nat} {listed : Array Bool} (hk : KnAll V H S0) (h : RunL C ops S0 z g listed V H L Q) : Ex C V H L (Exit.then (fun a' w' => (i ≠ z → DK S0 w') ∧ K.anyL C.P .any ops (DK S0) z Q g listed a' w') Q)   .normal := fun a w q => ⟨fun _ b o hb => (hk b o hb).st q.2, h a w q⟩

/-- What yields its value wherever a block of these reads as it does may be taken first. -/
theorem RunL.take {g i : Nat} {op : Op} {v : Value} {listed : Array Bool} {b : Nat} {o : Obj} (m : Nat) (hm : S0[m]? = some (b, o)) (ho : ops[i]? = some ⟨some d, op, ty, pos, aft, none⟩) (hs : Region.noSelect ops = true) (hf : Region.free .any ops listed i = true)
    (hr : (Region.ready .any ops listed).contains i = true) (hz : waits .any ops z i = true) (hQ : ∀ c a w, Q (.panic c) (a.put (some d) v) w → Q (.panic c) a w) (hd : d < C.n) (hk : KnAll V H S0) (hy : ∀ B, Yl (CK C [(b, o)] B) (VK [(b, o)]) [] L op ty v)
    (h : RunL C ops S0 z g (listed.setIfInBounds i true) V H ((d, v) :: L) Q) : RunL C ops S0 z (g + 1) listed V H L Q := fun a w q =>
  anyL_take ho (Region.noSelect_spec hs) hQ hz g listed a w (Region.free_spec ho hf) (by simpa using hr) (fun b o hb => (hk b o hb).st q.2)
    (.inl ⟨by simp [Region.wanted], fun w' hw' => hy w' _ a w' (Vw.le_refl _) ⟨q.1, stK fun c oc hc => by rw [List.mem_singleton] at hc; cases hc; exact hw' b o (List.mem_of_getElem? hm)⟩ _ rfl rfl⟩) (h _ w ⟨q.1.put hd v, q.2⟩)
/-- And what yields it in whatever world. -/
theorem RunL.pure {g i : Nat} {op : Op} {v : Value} {listed : Array Bool} (ho : ops[i]? = some ⟨some d, op, ty, pos, aft, none⟩) (hs : Region.noSelect ops = true) (hf : Region.free .any ops listed i = true)
    (hr : (Region.ready .any ops listed).contains i = true) (hz : waits .any ops z i = true) (hQ : ∀ c a w, Q (.panic c) (a.put (some d) v) w → Q (.panic c) a w) (hd : d < C.n) (hk : KnAll V H S0) (hy : ∀ B, Yl (CK C [] B) (VK []) [] L op ty v)
    (h : RunL C ops S0 z g (listed.setIfInBounds i true) V H ((d, v) :: L) Q) : RunL C ops S0 z (g + 1) listed V H L Q := fun a w q =>
  anyL_take ho (Region.noSelect_spec hs) hQ hz g listed a w (Region.free_spec ho hf) (by simpa using hr) (fun b o hb => (hk b o hb).st q.2)
    (.inl ⟨by simp [Region.wanted], fun w' _ => hy w' _ a w' (Vw.le_refl _) ⟨q.1, stK fun c oc hc => by cases hc⟩ _ rfl rfl⟩) (h _ w ⟨q.1.put hd v, q.2⟩)
/-- Behind the last one nothing need be known. -/
theorem Ex.anyLz {i g : Nat} {listed : Array Bool} (he : i = z) (h : RunL C ops S0 z g listed V H L Q) : Ex C V H L (Exit.then (fun a' w' => (i ≠ z → DK S0 w') ∧ K.anyL C.P .any ops (DK S0) z Q g listed a' w') Q) .normal := fun a w q => ⟨fun hn => absurd he hn, h a w q⟩
end
end Go.K
