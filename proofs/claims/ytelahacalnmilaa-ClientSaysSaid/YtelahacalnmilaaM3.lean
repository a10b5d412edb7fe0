/- A message among a law's arguments.
Conditions: none; no program in sight. -/
import Derived.Test.YtelahacalnmilaaM2
import Derived.Test.YtelahacalnmilaaK11
namespace Go.K
namespace Msg
def tags11 : List (Nat × IntKind) := [(0, .i64), (0, .i64), (0, .i64), (0, .i64), (0, .i64), (0, .u32), (0, .i64), (2, .i64), (0, .i64), (0, .i64), (1, .i64)]
theorem of_wf {cs : List Value} (h : wfVs tags11 cs) : ∃ m : Msg, cs.toArray = m.cells ∧ (0 ≤ m.addr ∧ m.addr ≤ 4294967295) ∧ m.client.size ≤ 9223372036854775807 := by
  obtain ⟨v0, c0, rfl, h0, h⟩ := wfVs_cons h
  obtain ⟨v1, c1, rfl, h1, h⟩ := wfVs_cons h
  obtain ⟨v2, c2, rfl, h2, h⟩ := wfVs_cons h
  obtain ⟨v3, c3, rfl, h3, h⟩ := wfVs_cons h
  obtain ⟨v4, c4, rfl, h4, h⟩ := wfVs_cons h
  obtain ⟨v5, c5, rfl, h5, h⟩ := wfVs_cons h
  obtain ⟨v6, c6, rfl, h6, h⟩ := wfVs_cons h
  obtain ⟨v7, c7, rfl, h7, h⟩ := wfVs_cons h
  obtain ⟨v8, c8, rfl, h8, h⟩ := wfVs_cons h
  obtain ⟨v9, c9, rfl, h9, h⟩ := wfVs_cons h
  obtain ⟨v10, c10, rfl, h10, h⟩ := wfVs_cons h
  obtain rfl := wfVs_nil h
  obtain ⟨n0, rfl, w0⟩ := wfV_int h0
  obtain ⟨n1, rfl, w1⟩ := wfV_int h1
  obtain ⟨n2, rfl, w2⟩ := wfV_int h2
  obtain ⟨n3, rfl, w3⟩ := wfV_int h3
  obtain ⟨n4, rfl, w4⟩ := wfV_int h4
  obtain ⟨n5, rfl, w5⟩ := wfV_int h5
  obtain ⟨n6, rfl, w6⟩ := wfV_int h6
  obtain ⟨s7, rfl, w7⟩ := wfV_str h7
  obtain ⟨n8, rfl, w8⟩ := wfV_int h8
  obtain ⟨n9, rfl, w9⟩ := wfV_int h9
  obtain ⟨b10, rfl⟩ := wfV_bool h10
  exact ⟨⟨n0, n1, n2, n3, n4, n5, n6, s7, n8, n9, b10⟩, rfl, Go.bounds_u32 w5, w7⟩
end Msg
end Go.K
