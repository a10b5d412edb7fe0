/- The law TableOne of layer 12 holds for every input: it returns true, and its arguments read as they did.
Conditions: none. -/
import Derived.Test.YtpdnkhdmajmbiaaRows
import Derived.Test.YtpdnkhdmajmbiaaLaw12c
import Derived.Test.YtpdnkhdmajmbiaaKB
import Derived.Test.YtpdnkhdmajmbiaaKD
import Derived.Test.YtpdnkhdmajmbiaaLA
namespace Go.Proofs.Ytpdnkhdmajmbiaa
open Go Go.K Go.ChangeShapes Go.WideShapes Go.ChangeAt Go.RowKit
set_option linter.unusedVariables false
set_option maxRecDepth 100000
theorem tableOne_es66 : elemS Try.prog 66 = some (124, 2) := by kernel_rfl
theorem tableOne_fn124 : flatN Try.prog 3 124 = some Rg.tags := by kernel_rfl
theorem tableOne_ce124 : Try.prog.cellsOf 124 = 2 := by kernel_rfl
theorem tableOne_es67 : elemS Try.prog 67 = some (69, 8) := by kernel_rfl
theorem tableOne_fn69 : flatN Try.prog 3 69 = some Le.tags := by kernel_rfl
theorem tableOne_ce69 : Try.prog.cellsOf 69 = 8 := by kernel_rfl
theorem tableOne_lifted (os : Os) (started : os.Started) (H : Type) (enc : TypeId × Value → H) : ReturnsInHanded {} Try.checked os 9 .any (Rows.tableOneSpec.pre6 enc Try.prog Try.f9 Rows.tableOneRow.domain false) (Rows.tableOneSpec.post enc Try.prog Try.f9 false true false false) := by
  refine law_lifted (C := Try.checked) (tb := 4) (by kernel_rfl) started (by kernel_rfl) Try.func9
    (ChangeSpec.witness6 (enc := enc) (C := Try.checked) false ⟨#[], #[.slice none 0 0, .slice none 0 0], []⟩ 8 (by kernel_rfl) (by kernel_rfl) (by kernel_rfl) (by kernel_rfl)) (by kernel_rfl) (by kernel_rfl) rfl rfl Try.underlying4 ?_ ?_
  · intro ds hd
    rw [Try.params9] at hd
    match ds, hd with
    | [_, _], _ => rfl
  · intro W base args ds ps hval hA
    rw [Try.params9] at hA hval
    obtain ⟨v0, vs0, d0, ds0, p0, q0, hargs, rfl, rfl, h0, r0⟩ := trodAll_cons hA
    obtain ⟨v1, vs1, d1, ds1, p1, q1, rfl, rfl, rfl, h1, r1⟩ := trodAll_cons r0
    obtain ⟨rfl, rfl, rfl⟩ := trodAll_nil r1
    obtain rfl : args = #[v0, v1] := by cases args; simp_all
    obtain ⟨rows0, hr0, hl0, hw0⟩ := open_rows tableOne_es66 tableOne_fn124 tableOne_ce124 rfl (by decide) (hval 0 66 _ rfl rfl) h0
    obtain ⟨l0, rfl, hok0⟩ := rows_of Rg.cells Rg.Ok (fun q hq => Rg.of_wf (hw0 q hq))
    rw [List.length_map] at hr0 hl0
    obtain ⟨rows1, hr1, hl1, hw1⟩ := open_rows tableOne_es67 tableOne_fn69 tableOne_ce69 rfl (by decide) (hval 1 67 _ rfl rfl) h1
    obtain ⟨l1, rfl, hok1⟩ := rows_of Le.cells Le.Ok (fun q hq => Le.of_wf (hw1 q hq))
    rw [List.length_map] at hr1 hl1
    exact tableone_h hr0 hok0 hr1 hok1 hl1
theorem tableOne_over : Rows.tableOneRow.holds Try.pinned (OpenSpec.ofChange Rows.tableOneSpec) :=
  OpenClaim.holds_of_wide 9 Try.f9 rfl rfl rfl rfl rfl rfl rfl ⟨rfl, rfl, rfl, rfl, rfl⟩ rfl rfl rfl rfl rfl (by kernel_rfl) Try.func9 (by kernel_rfl)
    (of_decide_eq_true (by kernel_rfl)) (by unfold Func.isWrapper; first | (rw [if_pos (by decide +kernel)]; kernel_rfl) | (rw [if_neg (by decide +kernel)]; exact ⟨rfl, rfl⟩))
    (fun os started H enc _ => tableOne_lifted os started H enc)
/-- The statement. -/
theorem tableOne_proved : Rows.TableOneSaid := tableOne_over
#print axioms tableOne_proved
end Go.Proofs.Ytpdnkhdmajmbiaa
