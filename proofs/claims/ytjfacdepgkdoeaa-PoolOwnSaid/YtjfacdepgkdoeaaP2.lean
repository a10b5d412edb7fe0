/- Parts, in the forms that the walks meet.
Conditions: none; no program in sight. -/
import Derived.Test.YtjfacdepgkdoeaaP1
namespace Go.Fl
open Ieee
section
variable {n N : Int} {y : Nat}
theorem part_a (hN : min n 1099511627776 = N) (h : N < 1) : part n y = 0 := by unfold part; rw [if_pos (.inl (by omega))]
theorem part_b (h : above0 y = false) : part n y = 0 := by unfold part; rw [if_pos (.inr h)]
theorem part_c (hN : min n 1099511627776 = N) (h1 : ¬ N < 1) (h2 : above0 y = true) (h3 : above1 y = true) : part n y = N := by
  unfold part; rw [hN, if_neg (by rw [h2]; simp; omega), if_pos h3]
theorem part_d (hN : min n 1099511627776 = N) (h1 : ¬ N < 1) (h2 : above0 y = true) (h3 : above1 y = false) : part n y = min (partK N y) N := by
  unfold part; rw [hN, if_neg (by rw [h2]; simp; omega), if_neg (by rw [h3]; decide)]
theorem above_nan (h : (D.read y).isNaN = true) : above0 y = false := by unfold above0; rw [order_nan h]; rfl
theorem above_le (h : (D.order y 0 == some .lt || D.order y 0 == some .eq) = true) : above0 y = false := by
  unfold above0
  cases ho : D.order y 0 with
  | none => rfl
  | some c => rw [ho] at h; cases c <;> first | rfl | (simp at h)
theorem above_gt (h0 : (D.read y).isNaN = false) (h : (D.order y 0 == some .lt || D.order y 0 == some .eq) = false) : above0 y = true := by
  unfold above0
  rcases order_total h0 zero_num with ho | ho | ho <;> rw [ho] at h ⊢ <;> first | rfl | (simp at h)
theorem part_ge {r : Nat} {k : Int} (ho : D.order r (fl N) = some .lt ∧ k ≤ N ∨ D.order r (fl N) = some .gt ∧ N ≤ k ∨ D.order r (fl N) = some .eq ∧ N ≤ k) (h : (D.order r (fl N) == some .gt || D.order r (fl N) == some .eq) = true) : min k N = N := by
  rcases ho with ⟨e, _⟩ | ⟨_, e⟩ | ⟨_, e⟩
  · rw [e] at h; simp at h
  · omega
  · omega
theorem part_lt {r : Nat} {k : Int} (ho : D.order r (fl N) = some .lt ∧ k ≤ N ∨ D.order r (fl N) = some .gt ∧ N ≤ k ∨ D.order r (fl N) = some .eq ∧ N ≤ k) (h : (D.order r (fl N) == some .gt || D.order r (fl N) == some .eq) = false) : min k N = k := by
  rcases ho with ⟨_, e⟩ | ⟨e, _⟩ | ⟨e, _⟩
  · omega
  · rw [e] at h; simp at h
  · rw [e] at h; simp at h
end
end Go.Fl
