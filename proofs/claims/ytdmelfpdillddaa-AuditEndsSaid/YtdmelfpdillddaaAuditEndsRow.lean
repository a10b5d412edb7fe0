/- The law AuditEnds of layer 28 holds for every input: it returns true, and its arguments read as they did.
Conditions: none. -/
import Derived.Test.YtdmelfpdillddaaRows
import Derived.Test.YtdmelfpdillddaaLaw28b
import Derived.Test.YtdmelfpdillddaaKB
namespace Go.Proofs.Ytdmelfpdillddaa
open Go Go.K Go.ChangeShapes Go.WideShapes Go.ChangeAt Go.RowKit
set_option linter.unusedVariables false
set_option maxRecDepth 100000
theorem auditEnds_es22 : elemS Try.prog 22 = some (34, 5) := by kernel_rfl
theorem auditEnds_fn34 : flatN Try.prog 3 34 = some Pr.tags := by kernel_rfl
theorem auditEnds_ce34 : Try.prog.cellsOf 34 = 5 := by kernel_rfl
theorem auditEnds_tg24 : tagOf Try.prog 24 = some (0, .u32) := by kernel_rfl
theorem auditEnds_tg3 : tagOf Try.prog 3 = some (0, .i64) := by kernel_rfl
theorem auditEnds_lifted (os : Os) (started : os.Started) (H : Type) (enc : TypeId × Value → H) : ReturnsInHanded {} Try.checked os 6 .any (Rows.auditEndsSpec.pre6 enc Try.prog Try.f6 Rows.auditEndsRow.domain false) (Rows.auditEndsSpec.post enc Try.prog Try.f6 false true false false) := by
  refine law_lifted (C := Try.checked) (tb := 4) (by kernel_rfl) started (by kernel_rfl) Try.func6
    (ChangeSpec.witness6 (enc := enc) (C := Try.checked) false ⟨#[], #[.slice none 0 0, .int .u32 0, .int .i64 0], []⟩ 8 (by kernel_rfl) (by kernel_rfl) (by kernel_rfl) (by kernel_rfl)) (by kernel_rfl) (by kernel_rfl) rfl rfl Try.underlying4 ?_ ?_
  · intro ds hd
    rw [Try.params6] at hd
    match ds, hd with
    | [_, _, _], _ => rfl
  · intro W base args ds ps hval hA
    rw [Try.params6] at hA hval
    obtain ⟨v0, vs0, d0, ds0, p0, q0, hargs, rfl, rfl, h0, r0⟩ := trodAll_cons hA
    obtain ⟨v1, vs1, d1, ds1, p1, q1, rfl, rfl, rfl, h1, r1⟩ := trodAll_cons r0
    obtain ⟨v2, vs2, d2, ds2, p2, q2, rfl, rfl, rfl, h2, r2⟩ := trodAll_cons r1
    obtain ⟨rfl, rfl, rfl⟩ := trodAll_nil r2
    obtain rfl : args = #[v0, v1, v2] := by cases args; simp_all
    obtain ⟨rows0, hr0, hl0, hw0⟩ := open_rows auditEnds_es22 auditEnds_fn34 auditEnds_ce34 rfl (by decide) (hval 0 22 _ rfl rfl) h0
    obtain ⟨l0, rfl, hok0⟩ := rows_of Pr.cells Pr.Ok (fun q hq => Pr.of_wf (hw0 q hq))
    rw [List.length_map] at hr0 hl0
    obtain ⟨n1, rfl, hn1⟩ := open_u32 auditEnds_tg24 h1 (hval 1 24 _ rfl rfl)
    obtain ⟨n2, rfl, hn2⟩ := open_i64 auditEnds_tg3 h2 (hval 2 3 _ rfl rfl)
    exact auditends_h hr0 hl0
theorem auditEnds_over : Rows.auditEndsRow.holds Try.pinned (OpenSpec.ofChange Rows.auditEndsSpec) :=
  OpenClaim.holds_of_wide 6 Try.f6 rfl rfl rfl rfl rfl rfl rfl ⟨rfl, rfl, rfl, rfl, rfl⟩ rfl rfl rfl rfl rfl (by kernel_rfl) Try.func6 (by kernel_rfl)
    (of_decide_eq_true (by kernel_rfl)) (by unfold Func.isWrapper; first | (rw [if_pos (by decide +kernel)]; kernel_rfl) | (rw [if_neg (by decide +kernel)]; exact ⟨rfl, rfl⟩))
    (fun os started H enc _ => auditEnds_lifted os started H enc)
/-- The statement. -/
theorem auditEnds_proved : Rows.AuditEndsSaid := auditEnds_over
#print axioms auditEnds_proved
end Go.Proofs.Ytdmelfpdillddaa
