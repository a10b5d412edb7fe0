/- Arrays of floats among a law's arguments.
Conditions: none; nothing here speaks of a program. -/
import Derived.Test.YtjfacdepgkdoeaaK15
import Derived.Laws.FloatArith
set_option linter.unusedSimpArgs false
namespace Go.K
open Go.ChangeShapes Go.WideShapes Go.ChangeAt Go.RowKit
section
variable {H : Type} {enc : TypeId × Value → H} {P : Program} {w : World} {base : Nat} {spare : Nat → Bool} {held : Bool}
theorem trod_float {t : TypeId} {k : FloatKind} {fuel : Nat} {cs : List Value} {x : DataW H × List MemPlace} (ht : P.underlying t = some (.float k)) (h : DataW.trod enc P w base spare held fuel t cs = some x) : ∃ b, cs = [.float k b] ∧ x = (.lit (.float k b), []) ∧ (Lit.float k b).wf = true := by
  cases fuel with
  | zero => simp [DataW.trod] at h
  | succ n =>
    unfold DataW.trod at h
    rw [ht] at h
    split at h <;> simp_all
/-- An array of numbers of one cell each: its length and its element's kind, of floats. -/
def arrF (P : Program) (t : TypeId) : Option (Nat × FloatKind) := match P.underlying t with
  | some (.array n e) => match P.underlying e with
    | some (.float k) => if P.cellsOf e = 1 ∧ P.cellsOf t = n then some (n, k) else none
    | _ => none
  | _ => none
theorem open_arrF {r : Reach} {b0 : Nat} {t : TypeId} {n : Nat} {k : FloatKind} {v : Value} {d : DataW H} {ps : List MemPlace} (ht : arrF P t = some (n, k)) (hv : Value.okWide P w r b0 t v) (h : DataW.Trod enc P w base spare held t v d ps) :
    ∃ cs : List Nat, v = .agg (cs.map (Value.float k)).toArray ∧ cs.length = n ∧ ∀ z ∈ cs, (Lit.float k z).wf = true := by
  unfold arrF at ht
  split at ht
  · rename_i n' e hu
    split at ht
    · rename_i k' he
      split at ht
      · rename_i hc
        cases ht
        have hv' : ∃ cs, v = .agg cs ∧ cs.size = P.cellsOf t := by
          simp only [Value.okWide, hu] at hv
          obtain ⟨cs, h1, h2, _⟩ := hv; exact ⟨cs, h1, h2⟩
        obtain ⟨cs, rfl, hsz⟩ := hv'
        obtain ⟨fuel, hf⟩ := h
        have hf' : DataW.trod enc P w base spare held fuel t cs.toList = some (d, ps) := by simpa [Value.cells] using hf
        obtain ⟨xs, m, _, _, hlen, hxl, hel⟩ := DataW.trod_array hu hf'
        have each : ∀ i, i < n → ∃ z, cs.toList[i]? = some (Value.float k z) ∧ (Lit.float k z).wf = true := fun i hi => by
          have h1 := hel i hi
          rw [hc.1, Nat.mul_one, List.getElem?_eq_getElem (by omega)] at h1
          obtain ⟨z, h2, _, h3⟩ := trod_float he h1
          have h4 : i < cs.toList.length := by rw [hlen, hc.2]; exact hi
          rw [List.drop_eq_getElem_cons h4] at h2
          simp only [List.take_succ_cons, List.take_zero, List.cons.injEq, and_true] at h2
          exact ⟨z, by rw [List.getElem?_eq_getElem h4, h2], h3⟩
        have all : ∀ (l : List Value), (∀ i, i < l.length → ∃ z, l[i]? = some (Value.float k z) ∧ (Lit.float k z).wf = true) → ∃ zs : List Nat, l = zs.map (Value.float k) ∧ ∀ z ∈ zs, (Lit.float k z).wf = true := fun l => by
          induction l with
          | nil => intro _; exact ⟨[], rfl, fun _ h => by cases h⟩
          | cons v l ih =>
            intro hh
            obtain ⟨z, hz, hw⟩ := hh 0 (by simp)
            obtain ⟨zs, rfl, hzs⟩ := ih fun i hi => by have := hh (i + 1) (by simpa using hi); simpa using this
            simp only [List.getElem?_cons_zero, Option.some.injEq] at hz
            exact ⟨z :: zs, by rw [hz]; rfl, fun y hy => by rcases List.mem_cons.1 hy with rfl | hy; exact hw; exact hzs y hy⟩
        have hln : cs.toList.length = n := by rw [hlen, hc.2]
        obtain ⟨zs, hzs, hw⟩ := all cs.toList (fun i hi => each i (by omega))
        refine ⟨zs, by rw [← hzs, Array.toArray_toList], by rw [← hln, hzs, List.length_map], hw⟩
      · cases ht
    · cases ht
  · cases ht
end
end Go.K
