/- The law OutboxAnswers of layer 18 holds for every input: it returns true, and its arguments read as they did.
Conditions: none. -/
import Derived.Test.YtpdnkhdmajmbiaaRows
import Derived.Test.YtpdnkhdmajmbiaaLaw18d
import Derived.Test.YtpdnkhdmajmbiaaKB
import Derived.Test.YtpdnkhdmajmbiaaMA
import Derived.Test.YtpdnkhdmajmbiaaBB
namespace Go.Proofs.Ytpdnkhdmajmbiaa
open Go Go.K Go.ChangeShapes Go.WideShapes Go.ChangeAt Go.RowKit
set_option linter.unusedVariables false
set_option maxRecDepth 100000
theorem outboxAnswers_es22 : elemS Try.prog 22 = some (31, 2) := by kernel_rfl
theorem outboxAnswers_fn31 : flatN Try.prog 3 31 = some [(0, .i64), (0, .i64)] := by kernel_rfl
theorem outboxAnswers_ce31 : Try.prog.cellsOf 31 = 2 := by kernel_rfl
theorem outboxAnswers_lifted (os : Os) (started : os.Started) (H : Type) (enc : TypeId × Value → H) : ReturnsInHanded {} Try.checked os 7 .any (Rows.outboxAnswersSpec.pre6 enc Try.prog Try.f7 Rows.outboxAnswersRow.domain false) (Rows.outboxAnswersSpec.post enc Try.prog Try.f7 false true false false) := by
  refine law_lifted (C := Try.checked) (tb := 4) (by kernel_rfl) started (by kernel_rfl) Try.func7
    (ChangeSpec.witness6 (enc := enc) (C := Try.checked) false ⟨#[], #[.slice none 0 0], []⟩ 8 (by kernel_rfl) (by kernel_rfl) (by kernel_rfl) (by kernel_rfl)) (by kernel_rfl) (by kernel_rfl) rfl rfl Try.underlying4 ?_ ?_
  · intro ds hd
    rw [Try.params7] at hd
    match ds, hd with
    | [_], _ => rfl
  · intro W base args ds ps hval hA
    rw [Try.params7] at hA hval
    obtain ⟨v0, vs0, d0, ds0, p0, q0, hargs, rfl, rfl, h0, r0⟩ := trodAll_cons hA
    obtain ⟨rfl, rfl, rfl⟩ := trodAll_nil r0
    obtain rfl : args = #[v0] := by cases args; simp_all
    obtain ⟨rows0, hr0, hl0, hw0⟩ := open_rows outboxAnswers_es22 outboxAnswers_fn31 outboxAnswers_ce31 rfl (by decide) (hval 0 22 _ rfl rfl) h0
    obtain ⟨l0, rfl, _⟩ := rows_of pr2 (fun _ => True) (fun q hq => pr2_of_wf (hw0 q hq))
    rw [List.length_map] at hr0 hl0
    exact outboxanswers_h hr0 hl0
theorem outboxAnswers_over : Rows.outboxAnswersRow.holds Try.pinned (OpenSpec.ofChange Rows.outboxAnswersSpec) :=
  OpenClaim.holds_of_wide 7 Try.f7 rfl rfl rfl rfl rfl rfl rfl ⟨rfl, rfl, rfl, rfl, rfl⟩ rfl rfl rfl rfl rfl (by kernel_rfl) Try.func7 (by kernel_rfl)
    (of_decide_eq_true (by kernel_rfl)) (by unfold Func.isWrapper; first | (rw [if_pos (by decide +kernel)]; kernel_rfl) | (rw [if_neg (by decide +kernel)]; exact ⟨rfl, rfl⟩))
    (fun os started H enc _ => outboxAnswers_lifted os started H enc)
/-- The statement. -/
theorem outboxAnswers_proved : Rows.OutboxAnswersSaid := outboxAnswers_over
#print axioms outboxAnswers_proved
end Go.Proofs.Ytpdnkhdmajmbiaa
