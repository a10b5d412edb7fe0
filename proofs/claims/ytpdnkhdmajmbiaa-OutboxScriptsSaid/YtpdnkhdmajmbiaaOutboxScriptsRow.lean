/- The law OutboxScripts of layer 18 holds for every input: it returns true, and its arguments read as they did.
Conditions: none. -/
import Derived.Test.YtpdnkhdmajmbiaaRows
import Derived.Test.YtpdnkhdmajmbiaaLaw18e
import Derived.Test.YtpdnkhdmajmbiaaBD
import Derived.Test.YtpdnkhdmajmbiaaKB
import Derived.Test.YtpdnkhdmajmbiaaMA
import Derived.Test.YtpdnkhdmajmbiaaBB
namespace Go.Proofs.Ytpdnkhdmajmbiaa
open Go Go.K Go.ChangeShapes Go.WideShapes Go.ChangeAt Go.RowKit
set_option linter.unusedVariables false
set_option maxRecDepth 100000
theorem outboxScripts_es55 : elemS Try.prog 55 = some (59, 13) := by kernel_rfl
theorem outboxScripts_fn59 : flatN Try.prog 3 59 = some St18.tags := by kernel_rfl
theorem outboxScripts_ce59 : Try.prog.cellsOf 59 = 13 := by kernel_rfl
theorem outboxScripts_lifted (os : Os) (started : os.Started) (H : Type) (enc : TypeId × Value → H) : ReturnsInHanded {} Try.checked os 6 .any (Rows.outboxScriptsSpec.pre6 enc Try.prog Try.f6 Rows.outboxScriptsRow.domain false) (Rows.outboxScriptsSpec.post enc Try.prog Try.f6 false true false false) := by
  refine law_lifted (C := Try.checked) (tb := 4) (by kernel_rfl) started (by kernel_rfl) Try.func6
    (ChangeSpec.witness6 (enc := enc) (C := Try.checked) false ⟨#[], #[.slice none 0 0], []⟩ 8 (by kernel_rfl) (by kernel_rfl) (by kernel_rfl) (by kernel_rfl)) (by kernel_rfl) (by kernel_rfl) rfl rfl Try.underlying4 ?_ ?_
  · intro ds hd
    rw [Try.params6] at hd
    match ds, hd with
    | [_], _ => rfl
  · intro W base args ds ps hval hA
    rw [Try.params6] at hA hval
    obtain ⟨v0, vs0, d0, ds0, p0, q0, hargs, rfl, rfl, h0, r0⟩ := trodAll_cons hA
    obtain ⟨rfl, rfl, rfl⟩ := trodAll_nil r0
    obtain rfl : args = #[v0] := by cases args; simp_all
    obtain ⟨rows0, hr0, hl0, hw0⟩ := open_rows outboxScripts_es55 outboxScripts_fn59 outboxScripts_ce59 rfl (by decide) (hval 0 55 _ rfl rfl) h0
    obtain ⟨l0, rfl, hcs0⟩ := rows_of St18.cells (fun s => s.m.client.size ≤ 9223372036854775807) (fun q hq => St18.of_wf (hw0 q hq))
    rw [List.length_map] at hr0 hl0
    exact outboxscripts_h hr0 hl0 hcs0
theorem outboxScripts_over : Rows.outboxScriptsRow.holds Try.pinned (OpenSpec.ofChange Rows.outboxScriptsSpec) :=
  OpenClaim.holds_of_wide 6 Try.f6 rfl rfl rfl rfl rfl rfl rfl ⟨rfl, rfl, rfl, rfl, rfl⟩ rfl rfl rfl rfl rfl (by kernel_rfl) Try.func6 (by kernel_rfl)
    (of_decide_eq_true (by kernel_rfl)) (by unfold Func.isWrapper; first | (rw [if_pos (by decide +kernel)]; kernel_rfl) | (rw [if_neg (by decide +kernel)]; exact ⟨rfl, rfl⟩))
    (fun os started H enc _ => outboxScripts_lifted os started H enc)
/-- The statement. -/
theorem outboxScripts_proved : Rows.OutboxScriptsSaid := outboxScripts_over
#print axioms outboxScripts_proved
end Go.Proofs.Ytpdnkhdmajmbiaa
