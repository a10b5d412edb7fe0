/- The law MessageDecodes of layer 4 holds for every input: it returns true, and its arguments read as they did.
Conditions: none. -/
import Derived.Test.YtahgaaomioffhaaRows
import Derived.Test.YtahgaaomioffhaaLaw04b
import Derived.Test.YtahgaaomioffhaaM3
import Derived.Test.YtahgaaomioffhaaK13
namespace Go.Proofs.Ytahgaaomioffhaa
open Go Go.K Go.ChangeShapes Go.WideShapes Go.ChangeAt Go.RowKit
set_option linter.unusedVariables false
set_option maxRecDepth 100000
theorem messageDecodes_es38 : elemS Try.prog 38 = some (5, 1) := by kernel_rfl
theorem messageDecodes_te5 : tagOf Try.prog 5 = some (0, .u8) := by kernel_rfl
theorem messageDecodes_ce5 : Try.prog.cellsOf 5 = 1 := by kernel_rfl
theorem messageDecodes_lifted (os : Os) (started : os.Started) (H : Type) (enc : TypeId × Value → H) : ReturnsInHanded {} Try.checked os 12 .any (Rows.messageDecodesSpec.pre6 enc Try.prog Try.f12 Rows.messageDecodesRow.domain false) (Rows.messageDecodesSpec.post enc Try.prog Try.f12 false true false false) := by
  refine law_lifted (C := Try.checked) (tb := 4) (by kernel_rfl) started (by kernel_rfl) Try.func12
    (ChangeSpec.witness6 (enc := enc) (C := Try.checked) false ⟨#[], #[.slice none 0 0], []⟩ 8 (by kernel_rfl) (by kernel_rfl) (by kernel_rfl) (by kernel_rfl)) (by kernel_rfl) (by kernel_rfl) rfl rfl Try.underlying4 ?_ ?_
  · intro ds hd
    rw [Try.params12] at hd
    match ds, hd with
    | [_], _ => rfl
  · intro W base args ds ps hval hA
    rw [Try.params12] at hA hval
    obtain ⟨v0, vs0, d0, ds0, p0, q0, hargs, rfl, rfl, h0, r0⟩ := trodAll_cons hA
    obtain ⟨rfl, rfl, rfl⟩ := trodAll_nil r0
    obtain rfl : args = #[v0] := by cases args; simp_all
    obtain ⟨bs0, hb0, hl0⟩ := open_bytes messageDecodes_es38 messageDecodes_te5 messageDecodes_ce5 (hval 0 38 _ rfl rfl) h0
    exact mdecodes_c hb0 hl0
theorem messageDecodes_over : Rows.messageDecodesRow.holds Try.pinned (OpenSpec.ofChange Rows.messageDecodesSpec) :=
  OpenClaim.holds_of_wide 12 Try.f12 rfl rfl rfl rfl rfl rfl rfl ⟨rfl, rfl, rfl, rfl, rfl⟩ rfl rfl rfl rfl rfl (by kernel_rfl) Try.func12 (by kernel_rfl)
    (of_decide_eq_true (by kernel_rfl)) (by unfold Func.isWrapper; first | (rw [if_pos (by decide +kernel)]; kernel_rfl) | (rw [if_neg (by decide +kernel)]; exact ⟨rfl, rfl⟩))
    (fun os started H enc _ => messageDecodes_lifted os started H enc)
/-- The statement. -/
theorem messageDecodes_proved : Rows.MessageDecodesSaid := messageDecodes_over
#print axioms messageDecodes_proved
end Go.Proofs.Ytahgaaomioffhaa
