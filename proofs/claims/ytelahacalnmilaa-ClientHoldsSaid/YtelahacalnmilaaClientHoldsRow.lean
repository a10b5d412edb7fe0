/- The law ClientHolds of layer 24 holds for every input: it returns true, and its arguments read as they did.
Conditions: none. -/
import Derived.Test.YtelahacalnmilaaRows
import Derived.Test.YtelahacalnmilaaLaw24b
namespace Go.Proofs.Ytelahacalnmilaa
open Go Go.K Go.ChangeShapes Go.WideShapes Go.ChangeAt Go.RowKit
set_option linter.unusedVariables false
set_option maxRecDepth 100000
theorem clientHolds_es23 : elemS Try.prog 23 = some (39, 15) := by kernel_rfl
theorem clientHolds_ce39 : Try.prog.cellsOf 39 = 15 := by kernel_rfl
theorem clientHolds_sh39 : shN Try.prog 4 39 = some (stepSh 5 76) := by kernel_rfl
theorem clientHolds_t8 : tagOf Try.prog 5 = some (0, .u8) := by kernel_rfl
theorem clientHolds_so : shN Try.prog 2 76 = some [i64g, .sl 5 1] := by kernel_rfl
theorem clientHolds_lifted (os : Os) (started : os.Started) (H : Type) (enc : TypeId × Value → H) : ReturnsInHanded {} Try.checked os 4 .any (Rows.clientHoldsSpec.pre6 enc Try.prog Try.f4 Rows.clientHoldsRow.domain false) (Rows.clientHoldsSpec.post enc Try.prog Try.f4 false true false false) := by
  refine law_lifted (C := Try.checked) (tb := 4) (by kernel_rfl) started (by kernel_rfl) Try.func4
    (ChangeSpec.witness6 (enc := enc) (C := Try.checked) false ⟨#[], #[.slice none 0 0], []⟩ 8 (by kernel_rfl) (by kernel_rfl) (by kernel_rfl) (by kernel_rfl)) (by kernel_rfl) (by kernel_rfl) rfl rfl Try.underlying4 ?_ ?_
  · intro ds hd
    rw [Try.params4] at hd
    match ds, hd with
    | [_], _ => rfl
  · intro W base args ds ps hval hA
    rw [Try.params4] at hA hval
    obtain ⟨v0, vs0, d0, ds0, p0, q0, hargs, rfl, rfl, h0, r0⟩ := trodAll_cons hA
    obtain ⟨rfl, rfl, rfl⟩ := trodAll_nil r0
    obtain rfl : args = #[v0] := by cases args; simp_all
    obtain ⟨l0, hr0, hl0, hs0⟩ := open_steps clientHolds_es23 clientHolds_ce39 clientHolds_sh39 clientHolds_t8 clientHolds_so (hval 0 23 _ rfl rfl) h0
    exact holds_c hr0 hl0 hs0
theorem clientHolds_over : Rows.clientHoldsRow.holds Try.pinned (OpenSpec.ofChange Rows.clientHoldsSpec) :=
  OpenClaim.holds_of_wide 4 Try.f4 rfl rfl rfl rfl rfl rfl rfl ⟨rfl, rfl, rfl, rfl, rfl⟩ rfl rfl rfl rfl rfl (by kernel_rfl) Try.func4 (by kernel_rfl)
    (of_decide_eq_true (by kernel_rfl)) (by unfold Func.isWrapper; first | (rw [if_pos (by decide +kernel)]; kernel_rfl) | (rw [if_neg (by decide +kernel)]; exact ⟨rfl, rfl⟩))
    (fun os started H enc _ => clientHolds_lifted os started H enc)
/-- The statement. -/
theorem clientHolds_proved : Rows.ClientHoldsSaid := clientHolds_over
#print axioms clientHolds_proved
end Go.Proofs.Ytelahacalnmilaa
