/- The rules of K9 once more, where the operations from the z-th on may change what was known: what is loaded is loaded ahead of them.
Conditions: none; nothing here speaks of a program. -/
import Derived.Test.YtjfacdepgkdoeaaK20
namespace Go.K
section
variable {P : Program} {ops : Array Oper} {Q : Exit → Act → World → Prop} {md : Region.Mode} {D : World → Prop}

/-- None of the operations from z on was made. -/
def preZ (ops : Array Oper) (z : Nat) (listed : Array Bool) : Prop := ∀ j, z ≤ j → j < ops.size → listed.getD j true = false
theorem preZ.less {z i : Nat} {listed : Array Bool} (h : preZ ops z (listed.setIfInBounds i true)) : preZ ops z listed := fun j hz hj => by
  have := h j hz hj
  by_cases e : i = j
  · subst e; simp only [Array.getD_eq_getD_getElem?, Array.getElem?_setIfInBounds] at this; exfalso; revert this; rw [if_pos trivial]; split <;> simp
  · rwa [getD_set_ne true e] at this
theorem preZ.more {z i : Nat} {listed : Array Bool} (h : preZ ops z listed) (hi : i < z) : preZ ops z (listed.setIfInBounds i true) := fun j hz hj => by
  rw [getD_set_ne true (show i ≠ j by omega)]; exact h j hz hj
/-- Whatever order is picked from here on; till one from the z-th on is made D holds. -/
def anyT (P : Program) (md : Region.Mode) (ops : Array Oper) (D : World → Prop) (z : Nat) (Q : Exit → Act → World → Prop) : Nat → Array Bool → Act → World → Prop
  | 0, listed, a, w => Region.ready md ops listed = [] ∧ Q .normal a w
  | f + 1, listed, a, w => (Region.ready md ops listed = [] → Q .normal a w) ∧ ∀ i, i ∈ Region.ready md ops listed → wpOp P ops Q i (fun a' w' => (preZ ops z (listed.setIfInBounds i true) → D w') ∧ anyT P md ops D z Q f (listed.setIfInBounds i true) a' w') a w

theorem any_of_anyT {z : Nat} : ∀ (f : Nat) (listed : Array Bool) (a : Act) (w : World), anyT P md ops D z Q f listed a w → wpAny P md ops Q f listed a w
  | 0, _, _, _, h => h
  | f + 1, _, _, _, h => ⟨h.1, fun i hi => wpOp_mono (fun a' w' h' => any_of_anyT f _ a' w' h'.2) (h.2 i hi)⟩
/-- The operation z waits for i. -/
def waitsT (md : Region.Mode) (ops : Array Oper) (z i : Nat) : Bool := match ops[z]? with
  | some o => o.after.any fun e => Region.binds md e && Nat.beq e.on i
  | none => false
theorem waitsT_spec {z i : Nat} (h : waitsT md ops z i = true) : ∃ o e, ops[z]? = some o ∧ e ∈ o.after ∧ Region.binds md e = true ∧ e.on = i := by
  unfold waitsT at h
  split at h
  · rename_i o ho
    obtain ⟨e, he, h2⟩ := Array.any_eq_true'.1 h
    simp only [Bool.and_eq_true] at h2
    exact ⟨o, e, ho, he, h2.1, Nat.eq_of_beq_eq_true h2.2⟩
  · cases h
/-- All operations from z on wait for i. -/
def waitsAll (md : Region.Mode) (ops : Array Oper) (z i : Nat) : Bool := (List.range ops.size).all fun j => Nat.blt j z || waitsT md ops j i
theorem waitsAll_spec {z i j : Nat} (h : waitsAll md ops z i = true) (hj : j < ops.size) (hz : z ≤ j) : waitsT md ops j i = true := by
  unfold waitsAll at h
  have := List.all_eq_true.1 h j (List.mem_range.2 hj)
  have hb : Nat.blt j z = false := by rw [Bool.eq_false_iff]; intro hc; rw [Nat.blt_eq] at hc; omega
  simpa [hb] using this

theorem anyT_take {z i : Nat} {oi : Oper} {v : Value} (hi : ops[i]? = some oi) (hsel : ∀ (j : Nat) (o : Oper) cs b, ops[j]? = some o → o.op ≠ .select cs b) (hQ : ∀ c a w, Q (.panic c) (a.put oi.dst v) w → Q (.panic c) a w) (hz : waitsAll md ops z i = true) (hiz : i < z) (f : Nat) :
    ∀ (listed : Array Bool) (a : Act) (w : World), (∀ j oj, ops[j]? = some oj → j ≠ i → listed.getD j true = false → (∀ e, e ∈ oj.after → Region.binds md e = true → e.on ≠ i) → oi.apart ops oj = true) →
      i ∈ Region.ready md ops listed → preZ ops z listed → D w → YieldsD P ops D oi v a → anyT P md ops D z Q f (listed.setIfInBounds i true) (a.put oi.dst v) w → anyT P md ops D z Q (f + 1) listed a w := by
  induction f with
  | zero =>
    intro listed a w _ hr hp hw hy hh
    refine ⟨fun h => (by rw [h] at hr; cases hr), fun j hj => ?_⟩
    by_cases e : j = i
    · subst e; exact hy.wpOp hi hw ⟨fun _ => hw, hh⟩
    · have := ready_mono hj e
      rw [hh.1] at this; cases this
  | succ f ih =>
    intro listed a w hfree hr hp hw hy hh
    refine ⟨fun h => (by rw [h] at hr; cases hr), fun j hj => ?_⟩
    by_cases e : j = i
    · subst e; exact hy.wpOp hi hw ⟨fun _ => hw, hh⟩
    · obtain ⟨hju, oj, hoj, hdeps⟩ := mem_ready.1 hj
      have hjz : j < z := Nat.lt_of_not_le fun q => by
        obtain ⟨oz, ed, h1, h2, h3, h4⟩ := waitsT_spec (waitsAll_spec hz (Array.getElem?_eq_some_iff.1 hoj).1 q)
        rw [h1] at hoj; cases hoj
        have h5 := hdeps ed h2 h3
        rw [h4, getD_both (mem_ready.1 hr).1] at h5
        cases h5
      have hno : ∀ ed, ed ∈ oj.after → Region.binds md ed = true → ed.on ≠ i := fun ed he hb heq => by
        have h1 := hdeps ed he hb
        rw [heq, getD_both (mem_ready.1 hr).1] at h1
        cases h1
      have h2 := wpOp_apart hoj (hfree j oj hoj e hju hno) (fun cs b => hsel i oi cs b hi) (fun cs b => hsel j oj cs b hoj) hQ hy (hh.2 j (ready_mono hj e))
      refine wpOp_mono (fun a' w' ⟨h3, h4', h5⟩ => have h4 := h4' ((hp.more hiz).more hjz); ⟨fun _ => h4, ih (listed.setIfInBounds j true) a' w' (fun k ok hk hki hku hkn => hfree k ok hk hki ?_ hkn) (ready_mono hr fun q => e q.symm) (hp.more hjz) h4 h3 ?_⟩) h2
      · by_cases q : j = k
        · subst q; exact hju
        · rw [getD_set_ne true q] at hku; exact hku
      · rw [Array.setIfInBounds_comm _ _ e]; exact h5

theorem anyT_pure {z i : Nat} {oi : Oper} {v : Value} (hi : ops[i]? = some oi) (hsel : ∀ (j : Nat) (o : Oper) cs b, ops[j]? = some o → o.op ≠ .select cs b) (hQ : ∀ c a w, Q (.panic c) (a.put oi.dst v) w → Q (.panic c) a w) (hiz : i < z) (f : Nat) :
    ∀ (listed : Array Bool) (a : Act) (w : World), (∀ j oj, ops[j]? = some oj → j ≠ i → listed.getD j true = false → (∀ e, e ∈ oj.after → Region.binds md e = true → e.on ≠ i) → oi.apart ops oj = true) →
      i ∈ Region.ready md ops listed → (preZ ops z listed → D w) → YieldsD P ops (fun _ => True) oi v a → anyT P md ops D z Q f (listed.setIfInBounds i true) (a.put oi.dst v) w → anyT P md ops D z Q (f + 1) listed a w := by
  induction f with
  | zero =>
    intro listed a w _ hr hw hy hh
    refine ⟨fun h => (by rw [h] at hr; cases hr), fun j hj => ?_⟩
    by_cases e : j = i
    · subst e; exact hy.wpOp hi trivial ⟨fun h => hw h.less, hh⟩
    · have := ready_mono hj e
      rw [hh.1] at this; cases this
  | succ f ih =>
    intro listed a w hfree hr hw hy hh
    refine ⟨fun h => (by rw [h] at hr; cases hr), fun j hj => ?_⟩
    by_cases e : j = i
    · subst e; exact hy.wpOp hi trivial ⟨fun h => hw h.less, hh⟩
    · obtain ⟨hju, oj, hoj, hdeps⟩ := mem_ready.1 hj
      have hno : ∀ ed, ed ∈ oj.after → Region.binds md ed = true → ed.on ≠ i := fun ed he hb heq => by
        have h1 := hdeps ed he hb
        rw [heq, getD_both (mem_ready.1 hr).1] at h1
        cases h1
      have h2 := wpOp_apart hoj (hfree j oj hoj e hju hno) (fun cs b => hsel i oi cs b hi) (fun cs b => hsel j oj cs b hoj) hQ hy (hh.2 j (ready_mono hj e))
      have hm : preZ ops z (listed.setIfInBounds j true) → preZ ops z ((listed.setIfInBounds i true).setIfInBounds j true) := fun h => by
        rw [Array.setIfInBounds_comm _ _ (fun q => e q.symm)]; exact h.more hiz
      refine wpOp_mono (fun a' w' ⟨h3, h4', h5⟩ => ⟨fun h => h4' (hm h), ih (listed.setIfInBounds j true) a' w' (fun k ok hk hki hku hkn => hfree k ok hk hki ?_ hkn) (ready_mono hr fun q => e q.symm) (fun h => h4' (hm h)) h3 ?_⟩) h2
      · by_cases q : j = k
        · subst q; exact hju
        · rw [getD_set_ne true q] at hku; exact hku
      · rw [Array.setIfInBounds_comm _ _ e]; exact h5
end

section
variable {C : Cx} {V : Vw} {H : Hp} {L : Sl} {Q : Exit → Act → World → Prop} {ops : Array Oper} {os : List Oper}
variable {ty : TypeId} {pos : String} {aft : Array Edge} {d : Nat}
/-- The world reads as it did, if none from z on was made. -/
def RunT (C : Cx) (ops : Array Oper) (S0 : Sg) (z g : Nat) (listed : Array Bool) (V : Vw) (H : Hp) (L : Sl) (Q : Exit → Act → World → Prop) : Prop := ∀ a w, Is C V H L a w → anyT C.P .any ops (DK S0) z Q g listed a w

theorem Tr.anyT {id : Nat} {l : List Oper} (S0 : Sg) (z : Nat) (hm : C.P.follows .mixedOrders = true) (h : RunT C l.toArray S0 z l.toArray.size (Array.replicate l.toArray.size false) V H L Q) : Tr C V H L (.region id l.toArray true) Q :=
  fun a w i => wp_region_any hm (any_of_anyT _ _ _ _ (h a _ ⟨i.1, i.2.drew⟩))

variable {S0 : Sg} {z : Nat}
theorem RunT.done {g : Nat} {listed : Array Bool} (hr : Region.ready .any ops listed = []) (h : Ex C V H L Q .normal) : RunT C ops S0 z g listed V H L Q := fun a w i => by
  cases g with
  | zero => exact ⟨hr, h a w i⟩
  | succ g => exact ⟨fun _ => h a w i, fun j hj => by rw [hr] at hj; cases hj⟩

theorem RunT.one {g i : Nat} {o : Oper} {listed : Array Bool} (hr : Region.ready .any ops listed = [i]) (ho : ops[i]? = some o)
    (h : Run C ops V H L [o] (Exit.then (fun a' w' => (preZ ops z (listed.setIfInBounds i true) → DK S0 w') ∧ K.anyT C.P .any ops (DK S0) z Q g (listed.setIfInBounds i true) a' w') Q)) : RunT C ops S0 z (g + 1) listed V H L Q := fun a w q =>
  ⟨fun h0 => (by rw [hr] at h0; cases h0), fun j hj => by rw [hr, List.mem_singleton] at hj; subst hj; exact wpOp_of_run ho (h a w q)⟩
/-- Behind one ahead of the z-th. -/
theorem Ex.anyT {i g : Nat} {listed : Array Bool} (hk : KnAll V H S0) (h : RunT C ops S0 z g listed V H L Q) : Ex C V H L (Exit.then (fun a' w' => (preZ ops z listed → DK S0 w') ∧ K.anyT C.P .any ops (DK S0) z Q g listed a' w') Q) .normal := fun a w q => ⟨fun _ b o hb => (hk b o hb).st q.2, h a w q⟩
/-- Behind another nothing need be known. -/
theorem Ex.anyTz {i g : Nat} {listed : Array Bool} (he : listed.getD i false = true) (hz : Nat.ble z i = true) (hi : Nat.blt i ops.size = true) (h : RunT C ops S0 z g listed V H L Q) : Ex C V H L (Exit.then (fun a' w' => (preZ ops z listed → DK S0 w') ∧ K.anyT C.P .any ops (DK S0) z Q g listed a' w') Q) .normal := fun a w q =>
  ⟨fun hn => by
    have h1 := hn i (Nat.le_of_ble_eq_true hz) (by rw [Nat.blt_eq] at hi; exact hi)
    rw [Array.getD_eq_getD_getElem?] at he h1
    cases h2 : listed[i]? with
    | none => rw [h2] at he; cases he
    | some x => rw [h2] at he h1; simp at he h1; rw [he] at h1; exact absurd h1 (by simp), h a w q⟩
/-- None of those is made yet. -/
def noneZ (ops : Array Oper) (z : Nat) (listed : Array Bool) : Bool := (List.range ops.size).all fun j => Nat.blt j z || !(listed.getD j true)
theorem noneZ_spec {listed : Array Bool} (h : noneZ ops z listed = true) : preZ ops z listed := fun j hz hj => by
  have := List.all_eq_true.1 h j (List.mem_range.2 hj)
  have hb : Nat.blt j z = false := by rw [Bool.eq_false_iff]; intro hc; rw [Nat.blt_eq] at hc; omega
  simpa [hb] using this

/-- What yields its value wherever a block of these reads as it does may be taken first. -/
theorem RunT.take {g i : Nat} {op : Op} {v : Value} {listed : Array Bool} {b : Nat} {o : Obj} (m : Nat) (hm : S0[m]? = some (b, o)) (ho : ops[i]? = some ⟨some d, op, ty, pos, aft, none⟩) (hs : Region.noSelect ops = true) (hf : Region.free .any ops listed i = true)
    (hr : (Region.ready .any ops listed).contains i = true) (hz : (waitsAll .any ops z i && noneZ ops z listed && Nat.blt i z) = true) (hQ : ∀ c a w, Q (.panic c) (a.put (some d) v) w → Q (.panic c) a w) (hd : d < C.n) (hk : KnAll V H S0) (hy : ∀ B, Yl (CK C [(b, o)] B) (VK [(b, o)]) [] L op ty v)
    (h : RunT C ops S0 z g (listed.setIfInBounds i true) V H ((d, v) :: L) Q) : RunT C ops S0 z (g + 1) listed V H L Q := fun a w q => by
  simp only [Bool.and_eq_true, Nat.blt_eq] at hz
  exact anyT_take ho (Region.noSelect_spec hs) hQ hz.1.1 hz.2 g listed a w (Region.free_spec ho hf) (by simpa using hr) (noneZ_spec hz.1.2) (fun b o hb => (hk b o hb).st q.2)
    (.inl ⟨by simp [Region.wanted], fun w' hw' => hy w' _ a w' (Vw.le_refl _) ⟨q.1, stK fun c oc hc => by rw [List.mem_singleton] at hc; cases hc; exact hw' b o (List.mem_of_getElem? hm)⟩ _ rfl rfl⟩) (h _ w ⟨q.1.put hd v, q.2⟩)
/-- And what yields it in whatever world. -/
theorem RunT.pure {g i : Nat} {op : Op} {v : Value} {listed : Array Bool} (ho : ops[i]? = some ⟨some d, op, ty, pos, aft, none⟩) (hs : Region.noSelect ops = true) (hf : Region.free .any ops listed i = true)
    (hr : (Region.ready .any ops listed).contains i = true) (hz : Nat.blt i z = true) (hQ : ∀ c a w, Q (.panic c) (a.put (some d) v) w → Q (.panic c) a w) (hd : d < C.n) (hk : KnAll V H S0) (hy : ∀ B, Yl (CK C [] B) (VK []) [] L op ty v)
    (h : RunT C ops S0 z g (listed.setIfInBounds i true) V H ((d, v) :: L) Q) : RunT C ops S0 z (g + 1) listed V H L Q := fun a w q =>
  anyT_pure ho (Region.noSelect_spec hs) hQ (by rw [Nat.blt_eq] at hz; exact hz) g listed a w (Region.free_spec ho hf) (by simpa using hr) (fun _ b o hb => (hk b o hb).st q.2)
    (.inl ⟨by simp [Region.wanted], fun w' _ => hy w' _ a w' (Vw.le_refl _) ⟨q.1, stK fun c oc hc => by cases hc⟩ _ rfl rfl⟩) (h _ w ⟨q.1.put hd v, q.2⟩)
end
end Go.K
