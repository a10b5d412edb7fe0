/- The steps of a statement on boxes, among its arguments.
Conditions: none; no program in sight. -/
import Derived.Test.YtpdnkhdmajmbiaaBC
import Derived.Test.YtpdnkhdmajmbiaaMA
set_option linter.unusedSimpArgs false
set_option linter.unusedVariables false
set_option linter.unusedSectionVars false
namespace Go.K
def St18.tags : List (Nat × IntKind) := (0, .i64) :: (0, .i64) :: Msg.tags11
theorem St18.of_wf {q : List Value} (h : wfVs St18.tags q) : ∃ s, q = St18.cells s ∧ s.m.client.size ≤ 9223372036854775807 := by
  obtain ⟨v0, c0, rfl, h0, k0⟩ := wfVs_cons h
  obtain ⟨v1, c1, rfl, h1, k1⟩ := wfVs_cons k0
  obtain ⟨n0, rfl, _⟩ := wfV_int h0
  obtain ⟨n1, rfl, _⟩ := wfV_int h1
  obtain ⟨m, e, _, hc⟩ := Msg.of_wf k1
  exact ⟨⟨n0, n1, m⟩, by rw [show c1 = m.cells.toList from by rw [← e]]; rfl, hc⟩
end Go.K
