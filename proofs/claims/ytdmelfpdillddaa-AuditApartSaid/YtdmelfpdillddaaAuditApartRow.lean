/- The law AuditApart of layer 28 holds for every input: it returns true, and its arguments read as they did.
Conditions: none. -/
import Derived.Test.YtdmelfpdillddaaRows
import Derived.Test.YtdmelfpdillddaaLaw28b
import Derived.Test.YtdmelfpdillddaaKB
namespace Go.Proofs.Ytdmelfpdillddaa
open Go Go.K Go.ChangeShapes Go.WideShapes Go.ChangeAt Go.RowKit
set_option linter.unusedVariables false
set_option maxRecDepth 100000
theorem auditApart_es22 : elemS Try.prog 22 = some (34, 5) := by kernel_rfl
theorem auditApart_fn34 : flatN Try.prog 3 34 = some Pr.tags := by kernel_rfl
theorem auditApart_ce34 : Try.prog.cellsOf 34 = 5 := by kernel_rfl
theorem auditApart_lifted (os : Os) (started : os.Started) (H : Type) (enc : TypeId × Value → H) : ReturnsInHanded {} Try.checked os 4 .any (Rows.auditApartSpec.pre6 enc Try.prog Try.f4 Rows.auditApartRow.domain false) (Rows.auditApartSpec.post enc Try.prog Try.f4 false true false false) := by
  refine law_lifted (C := Try.checked) (tb := 4) (by kernel_rfl) started (by kernel_rfl) Try.func4
    (ChangeSpec.witness6 (enc := enc) (C := Try.checked) false ⟨#[], #[.slice none 0 0], []⟩ 8 (by kernel_rfl) (by kernel_rfl) (by kernel_rfl) (by kernel_rfl)) (by kernel_rfl) (by kernel_rfl) rfl rfl Try.underlying4 ?_ ?_
  · intro ds hd
    rw [Try.params4] at hd
    match ds, hd with
    | [_], _ => rfl
  · intro W base args ds ps hval hA
    rw [Try.params4] at hA hval
    obtain ⟨v0, vs0, d0, ds0, p0, q0, hargs, rfl, rfl, h0, r0⟩ := trodAll_cons hA
    obtain ⟨rfl, rfl, rfl⟩ := trodAll_nil r0
    obtain rfl : args = #[v0] := by cases args; simp_all
    obtain ⟨rows0, hr0, hl0, hw0⟩ := open_rows auditApart_es22 auditApart_fn34 auditApart_ce34 rfl (by decide) (hval 0 22 _ rfl rfl) h0
    obtain ⟨l0, rfl, hok0⟩ := rows_of Pr.cells Pr.Ok (fun q hq => Pr.of_wf (hw0 q hq))
    rw [List.length_map] at hr0 hl0
    exact auditapart_h hr0 hl0
theorem auditApart_over : Rows.auditApartRow.holds Try.pinned (OpenSpec.ofChange Rows.auditApartSpec) :=
  OpenClaim.holds_of_wide 4 Try.f4 rfl rfl rfl rfl rfl rfl rfl ⟨rfl, rfl, rfl, rfl, rfl⟩ rfl rfl rfl rfl rfl (by kernel_rfl) Try.func4 (by kernel_rfl)
    (of_decide_eq_true (by kernel_rfl)) (by unfold Func.isWrapper; first | (rw [if_pos (by decide +kernel)]; kernel_rfl) | (rw [if_neg (by decide +kernel)]; exact ⟨rfl, rfl⟩))
    (fun os started H enc _ => auditApart_lifted os started H enc)
/-- The statement. -/
theorem auditApart_proved : Rows.AuditApartSaid := auditApart_over
#print axioms auditApart_proved
end Go.Proofs.Ytdmelfpdillddaa
