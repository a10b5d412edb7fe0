/- The law ContactLives of layer 19 holds for every input: it returns true, and its arguments read as they did.
Conditions: none. -/
import Derived.Test.YtahgaaomioffhaaRows
import Derived.Test.YtahgaaomioffhaaLives
namespace Go.Proofs.Ytahgaaomioffhaa
open Go Go.K Go.ChangeShapes Go.WideShapes Go.ChangeAt Go.RowKit
set_option linter.unusedVariables false
set_option maxRecDepth 100000
theorem contactLives_es59 : elemS Try.prog 59 = some (65, 3) := by kernel_rfl
theorem contactLives_fn65 : flatN Try.prog 3 65 = some Con.etags := by kernel_rfl
theorem contactLives_ce65 : Try.prog.cellsOf 65 = 3 := by kernel_rfl
theorem contactLives_lifted (os : Os) (started : os.Started) (H : Type) (enc : TypeId × Value → H) : ReturnsInHanded {} Try.checked os 9 .any (Rows.contactLivesSpec.pre6 enc Try.prog Try.f9 Rows.contactLivesRow.domain false) (Rows.contactLivesSpec.post enc Try.prog Try.f9 false true false false) := by
  refine law_lifted (C := Try.checked) (tb := 4) (by kernel_rfl) started (by kernel_rfl) Try.func9
    (ChangeSpec.witness6 (enc := enc) (C := Try.checked) false ⟨#[], #[.slice none 0 0], []⟩ 8 (by kernel_rfl) (by kernel_rfl) (by kernel_rfl) (by kernel_rfl)) (by kernel_rfl) (by kernel_rfl) rfl rfl Try.underlying4 ?_ ?_
  · intro ds hd
    rw [Try.params9] at hd
    match ds, hd with
    | [_], _ => rfl
  · intro W base args ds ps hval hA
    rw [Try.params9] at hA hval
    obtain ⟨v0, vs0, d0, ds0, p0, q0, hargs, rfl, rfl, h0, r0⟩ := trodAll_cons hA
    obtain ⟨rfl, rfl, rfl⟩ := trodAll_nil r0
    obtain rfl : args = #[v0] := by cases args; simp_all
    obtain ⟨rows0, hr0, hl0, hw0⟩ := open_rows contactLives_es59 contactLives_fn65 contactLives_ce65 rfl (by decide) (hval 0 59 _ rfl rfl) h0
    obtain ⟨l0, rfl, _⟩ := rows_of Con.Ev.cells (fun _ => True) (fun q hq => let ⟨s, h⟩ := Con.Ev.of_wf (hw0 q hq); ⟨s, h, trivial⟩)
    rw [List.length_map] at hr0 hl0
    exact lives_c hr0 hl0
theorem contactLives_over : Rows.contactLivesRow.holds Try.pinned (OpenSpec.ofChange Rows.contactLivesSpec) :=
  OpenClaim.holds_of_wide 9 Try.f9 rfl rfl rfl rfl rfl rfl rfl ⟨rfl, rfl, rfl, rfl, rfl⟩ rfl rfl rfl rfl rfl (by kernel_rfl) Try.func9 (by kernel_rfl)
    (of_decide_eq_true (by kernel_rfl)) (by unfold Func.isWrapper; first | (rw [if_pos (by decide +kernel)]; kernel_rfl) | (rw [if_neg (by decide +kernel)]; exact ⟨rfl, rfl⟩))
    (fun os started H enc _ => contactLives_lifted os started H enc)
/-- The statement. -/
theorem contactLives_proved : Rows.ContactLivesSaid := contactLives_over
#print axioms contactLives_proved
end Go.Proofs.Ytahgaaomioffhaa
