/- The law ContactMarks of layer 19 holds for every input: it returns true, and its arguments read as they did.
Conditions: none. -/
import Derived.Test.YtahgaaomioffhaaRows
import Derived.Test.YtahgaaomioffhaaLaw19
namespace Go.Proofs.Ytahgaaomioffhaa
open Go Go.K Go.ChangeShapes Go.WideShapes Go.ChangeAt Go.RowKit
set_option linter.unusedVariables false
set_option maxRecDepth 100000
theorem contactMarks_tg3 : tagOf Try.prog 3 = some (0, .i64) := by kernel_rfl
theorem contactMarks_es45 : elemS Try.prog 45 = some (53, 14) := by kernel_rfl
theorem contactMarks_fn53 : flatN Try.prog 3 53 = some Con.stags := by kernel_rfl
theorem contactMarks_ce53 : Try.prog.cellsOf 53 = 14 := by kernel_rfl
theorem contactMarks_lifted (os : Os) (started : os.Started) (H : Type) (enc : TypeId × Value → H) : ReturnsInHanded {} Try.checked os 11 .any (Rows.contactMarksSpec.pre6 enc Try.prog Try.f11 Rows.contactMarksRow.domain false) (Rows.contactMarksSpec.post enc Try.prog Try.f11 false true false false) := by
  refine law_lifted (C := Try.checked) (tb := 4) (by kernel_rfl) started (by kernel_rfl) Try.func11
    (ChangeSpec.witness6 (enc := enc) (C := Try.checked) false ⟨#[], #[.int .i64 0, .slice none 0 0], []⟩ 8 (by kernel_rfl) (by kernel_rfl) (by kernel_rfl) (by kernel_rfl)) (by kernel_rfl) (by kernel_rfl) rfl rfl Try.underlying4 ?_ ?_
  · intro ds hd
    rw [Try.params11] at hd
    match ds, hd with
    | [_, _], _ => rfl
  · intro W base args ds ps hval hA
    rw [Try.params11] at hA hval
    obtain ⟨v0, vs0, d0, ds0, p0, q0, hargs, rfl, rfl, h0, r0⟩ := trodAll_cons hA
    obtain ⟨v1, vs1, d1, ds1, p1, q1, rfl, rfl, rfl, h1, r1⟩ := trodAll_cons r0
    obtain ⟨rfl, rfl, rfl⟩ := trodAll_nil r1
    obtain rfl : args = #[v0, v1] := by cases args; simp_all
    obtain ⟨n0, rfl, hn0⟩ := open_i64 contactMarks_tg3 h0 (hval 0 3 _ rfl rfl)
    obtain ⟨rows1, hr1, hl1, hw1⟩ := open_rows contactMarks_es45 contactMarks_fn53 contactMarks_ce53 rfl (by decide) (hval 1 45 _ rfl rfl) h1
    obtain ⟨l1, rfl, _⟩ := rows_of Con.Stp.cells (fun _ => True) (fun q hq => let ⟨s, h, _⟩ := Con.Stp.of_wf (hw1 q hq); ⟨s, h, trivial⟩)
    rw [List.length_map] at hr1 hl1
    exact marks_c hr1 hl1
theorem contactMarks_over : Rows.contactMarksRow.holds Try.pinned (OpenSpec.ofChange Rows.contactMarksSpec) :=
  OpenClaim.holds_of_wide 11 Try.f11 rfl rfl rfl rfl rfl rfl rfl ⟨rfl, rfl, rfl, rfl, rfl⟩ rfl rfl rfl rfl rfl (by kernel_rfl) Try.func11 (by kernel_rfl)
    (of_decide_eq_true (by kernel_rfl)) (by unfold Func.isWrapper; first | (rw [if_pos (by decide +kernel)]; kernel_rfl) | (rw [if_neg (by decide +kernel)]; exact ⟨rfl, rfl⟩))
    (fun os started H enc _ => contactMarks_lifted os started H enc)
/-- The statement. -/
theorem contactMarks_proved : Rows.ContactMarksSaid := contactMarks_over
#print axioms contactMarks_proved
end Go.Proofs.Ytahgaaomioffhaa
