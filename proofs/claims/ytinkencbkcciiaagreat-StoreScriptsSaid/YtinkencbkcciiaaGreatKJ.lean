/- Regions in any order: what stands behind a test that is passed may be taken first, too.
Conditions: as each theorem names them; no program in sight. -/
import Derived.Test.YtinkencbkcciiaaGreatKA
import Derived.Test.YtinkencbkcciiaaGreatKB
set_option linter.unusedSimpArgs false
set_option linter.unusedVariables false
set_option linter.unusedSectionVars false
namespace Go.K
section
variable {C : Cx} {V : Vw} {H : Hp} {L : Sl} {Q : Exit → Act → World → Prop} {ops : Array Oper} {os : List Oper}
variable {ty : TypeId} {pos : String} {aft : Array Edge} {d : Nat} {S0 : Sg}
theorem RunD.takeG {g i j dj : Nat} {t b0 : Bool} {op : Op} {v : Value} {listed : Array Bool} {b : Nat} {o : Obj} (m : Nat) (hm : S0[m]? = some (b, o)) (ho : ops[i]? = some ⟨some d, op, ty, pos, aft, some (j, t)⟩) (hj : ((ops[j]?).bind (·.dst)) = some dj) (hb : L.lookup dj = some (.bool b0)) (e : b0 = t) (hs : Region.noSelect ops = true) (hf : Region.free .any ops listed i = true)
    (hr : (Region.ready .any ops listed).contains i = true) (hQ : ∀ c a w, Q (.panic c) (a.put (some d) v) w → Q (.panic c) a w) (hd : d < C.n) (hk : KnAll V H S0) (hy : ∀ B, Yl (CK C [(b, o)] B) (VK [(b, o)]) [] L op ty v)
    (h : RunD C ops S0 g (listed.setIfInBounds i true) V H ((d, v) :: L) Q) : RunD C ops S0 (g + 1) listed V H L Q := fun a w q =>
  anyD_take ho (Region.noSelect_spec hs) hQ g listed a w (Region.free_spec ho hf) (by simpa using hr) (fun b o hb => (hk b o hb).st q.2)
    (.inl ⟨by simp only [Region.wanted, yielded, hj, Option.bind_some, q.1.lk dj _ hb, e, beq_self_eq_true], fun w' hw' => hy w' _ a w' (Vw.le_refl _) ⟨q.1, stK fun c oc hc => by rw [List.mem_singleton] at hc; cases hc; exact hw' b o (List.mem_of_getElem? hm)⟩ _ rfl rfl⟩) (h _ w ⟨q.1.put hd v, q.2⟩)
theorem RunD.pureG {g i j dj : Nat} {t b0 : Bool} {op : Op} {v : Value} {listed : Array Bool} (ho : ops[i]? = some ⟨some d, op, ty, pos, aft, some (j, t)⟩) (hj : ((ops[j]?).bind (·.dst)) = some dj) (hb : L.lookup dj = some (.bool b0)) (e : b0 = t) (hs : Region.noSelect ops = true) (hf : Region.free .any ops listed i = true)
    (hr : (Region.ready .any ops listed).contains i = true) (hQ : ∀ c a w, Q (.panic c) (a.put (some d) v) w → Q (.panic c) a w) (hd : d < C.n) (hk : KnAll V H S0) (hy : ∀ B, Yl (CK C [] B) (VK []) [] L op ty v)
    (h : RunD C ops S0 g (listed.setIfInBounds i true) V H ((d, v) :: L) Q) : RunD C ops S0 (g + 1) listed V H L Q := fun a w q =>
  anyD_take ho (Region.noSelect_spec hs) hQ g listed a w (Region.free_spec ho hf) (by simpa using hr) (fun b o hb => (hk b o hb).st q.2)
    (.inl ⟨by simp only [Region.wanted, yielded, hj, Option.bind_some, q.1.lk dj _ hb, e, beq_self_eq_true], fun w' _ => hy w' _ a w' (Vw.le_refl _) ⟨q.1, stK fun c oc hc => by cases hc⟩ _ rfl rfl⟩) (h _ w ⟨q.1.put hd v, q.2⟩)
end
end Go.K
