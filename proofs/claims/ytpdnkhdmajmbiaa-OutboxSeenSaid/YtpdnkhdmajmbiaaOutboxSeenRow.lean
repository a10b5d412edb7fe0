/- The law OutboxSeen of layer 18 holds for every input: it returns true, and its arguments read as they did.
Conditions: none. -/
import Derived.Test.YtpdnkhdmajmbiaaRows
import Derived.Test.YtpdnkhdmajmbiaaLaw18
import Derived.Test.YtpdnkhdmajmbiaaKB
import Derived.Test.YtpdnkhdmajmbiaaMA
import Derived.Test.YtpdnkhdmajmbiaaBB
namespace Go.Proofs.Ytpdnkhdmajmbiaa
open Go Go.K Go.ChangeShapes Go.WideShapes Go.ChangeAt Go.RowKit
set_option linter.unusedVariables false
set_option maxRecDepth 100000
theorem outboxSeen_es39 : elemS Try.prog 39 = some (35, 11) := by kernel_rfl
theorem outboxSeen_fn35 : flatN Try.prog 3 35 = some Msg.tags11 := by kernel_rfl
theorem outboxSeen_ce35 : Try.prog.cellsOf 35 = 11 := by kernel_rfl
theorem outboxSeen_es45 : elemS Try.prog 45 = some (4, 1) := by kernel_rfl
theorem outboxSeen_fn4 : flatN Try.prog 3 4 = some [(1, .i64)] := by kernel_rfl
theorem outboxSeen_ce4 : Try.prog.cellsOf 4 = 1 := by kernel_rfl
theorem outboxSeen_lifted (os : Os) (started : os.Started) (H : Type) (enc : TypeId × Value → H) : ReturnsInHanded {} Try.checked os 4 .any (Rows.outboxSeenSpec.pre6 enc Try.prog Try.f4 Rows.outboxSeenRow.domain false) (Rows.outboxSeenSpec.post enc Try.prog Try.f4 false true false false) := by
  refine law_lifted (C := Try.checked) (tb := 4) (by kernel_rfl) started (by kernel_rfl) Try.func4
    (ChangeSpec.witness6 (enc := enc) (C := Try.checked) false ⟨#[], #[.slice none 0 0, .slice none 0 0], []⟩ 8 (by kernel_rfl) (by kernel_rfl) (by kernel_rfl) (by kernel_rfl)) (by kernel_rfl) (by kernel_rfl) rfl rfl Try.underlying4 ?_ ?_
  · intro ds hd
    rw [Try.params4] at hd
    match ds, hd with
    | [_, _], _ => rfl
  · intro W base args ds ps hval hA
    rw [Try.params4] at hA hval
    obtain ⟨v0, vs0, d0, ds0, p0, q0, hargs, rfl, rfl, h0, r0⟩ := trodAll_cons hA
    obtain ⟨v1, vs1, d1, ds1, p1, q1, rfl, rfl, rfl, h1, r1⟩ := trodAll_cons r0
    obtain ⟨rfl, rfl, rfl⟩ := trodAll_nil r1
    obtain rfl : args = #[v0, v1] := by cases args; simp_all
    obtain ⟨rows0, hr0, hl0, hw0⟩ := open_rows outboxSeen_es39 outboxSeen_fn35 outboxSeen_ce35 rfl (by decide) (hval 0 39 _ rfl rfl) h0
    obtain ⟨l0, rfl, hok0⟩ := rows_of Msg.cl (fun m => (0 ≤ m.addr ∧ m.addr ≤ 4294967295) ∧ m.client.size ≤ 9223372036854775807) (fun q hq => let ⟨m, h1, h2⟩ := Msg.of_wf (hw0 q hq); ⟨m, by unfold Msg.cl; rw [← h1], h2⟩)
    rw [List.length_map] at hr0 hl0
    obtain ⟨rows1, hr1, hl1, hw1⟩ := open_rows outboxSeen_es45 outboxSeen_fn4 outboxSeen_ce4 rfl (by decide) (hval 1 45 _ rfl rfl) h1
    obtain ⟨l1, rfl, _⟩ := rows_of nB (fun _ => True) (fun q hq => nB_of_wf (hw1 q hq))
    rw [List.length_map] at hr1 hl1
    exact outboxseen_h hr0 hl0 hr1 hl1
theorem outboxSeen_over : Rows.outboxSeenRow.holds Try.pinned (OpenSpec.ofChange Rows.outboxSeenSpec) :=
  OpenClaim.holds_of_wide 4 Try.f4 rfl rfl rfl rfl rfl rfl rfl ⟨rfl, rfl, rfl, rfl, rfl⟩ rfl rfl rfl rfl rfl (by kernel_rfl) Try.func4 (by kernel_rfl)
    (of_decide_eq_true (by kernel_rfl)) (by unfold Func.isWrapper; first | (rw [if_pos (by decide +kernel)]; kernel_rfl) | (rw [if_neg (by decide +kernel)]; exact ⟨rfl, rfl⟩))
    (fun os started H enc _ => outboxSeen_lifted os started H enc)
/-- The statement. -/
theorem outboxSeen_proved : Rows.OutboxSeenSaid := outboxSeen_over
#print axioms outboxSeen_proved
end Go.Proofs.Ytpdnkhdmajmbiaa
