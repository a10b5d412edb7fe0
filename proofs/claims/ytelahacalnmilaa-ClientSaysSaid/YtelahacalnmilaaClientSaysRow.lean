/- The law ClientSays of layer 24 holds for every input: it returns true, and its arguments read as they did.
Conditions: none. -/
import Derived.Test.YtelahacalnmilaaRows
import Derived.Test.YtelahacalnmilaaLaw24c
namespace Go.Proofs.Ytelahacalnmilaa
open Go Go.K Go.ChangeShapes Go.WideShapes Go.ChangeAt Go.RowKit
set_option linter.unusedVariables false
set_option maxRecDepth 100000
theorem clientSays_tg9 : tagOf Try.prog 9 = some (2, .i64) := by kernel_rfl
theorem clientSays_es23 : elemS Try.prog 23 = some (39, 15) := by kernel_rfl
theorem clientSays_ce39 : Try.prog.cellsOf 39 = 15 := by kernel_rfl
theorem clientSays_sh39 : shN Try.prog 4 39 = some (stepSh 5 76) := by kernel_rfl
theorem clientSays_t8 : tagOf Try.prog 5 = some (0, .u8) := by kernel_rfl
theorem clientSays_so : shN Try.prog 2 76 = some [i64g, .sl 5 1] := by kernel_rfl
theorem clientSays_lifted (os : Os) (started : os.Started) (H : Type) (enc : TypeId × Value → H) : ReturnsInHanded {} Try.checked os 5 .any (Rows.clientSaysSpec.pre6 enc Try.prog Try.f5 Rows.clientSaysRow.domain false) (Rows.clientSaysSpec.post enc Try.prog Try.f5 false true false false) := by
  refine law_lifted (C := Try.checked) (tb := 4) (by kernel_rfl) started (by kernel_rfl) Try.func5
    (ChangeSpec.witness6 (enc := enc) (C := Try.checked) false ⟨#[], #[.string ⟨#[]⟩, .slice none 0 0], []⟩ 8 (by kernel_rfl) (by kernel_rfl) (by kernel_rfl) (by kernel_rfl)) (by kernel_rfl) (by kernel_rfl) rfl rfl Try.underlying4 ?_ ?_
  · intro ds hd
    rw [Try.params5] at hd
    match ds, hd with
    | [_, _], _ => rfl
  · intro W base args ds ps hval hA
    rw [Try.params5] at hA hval
    obtain ⟨v0, vs0, d0, ds0, p0, q0, hargs, rfl, rfl, h0, r0⟩ := trodAll_cons hA
    obtain ⟨v1, vs1, d1, ds1, p1, q1, rfl, rfl, rfl, h1, r1⟩ := trodAll_cons r0
    obtain ⟨rfl, rfl, rfl⟩ := trodAll_nil r1
    obtain rfl : args = #[v0, v1] := by cases args; simp_all
    obtain ⟨s0, rfl, hz0⟩ := open_str clientSays_tg9 h0 (hval 0 9 _ rfl rfl)
    obtain ⟨l1, hr1, hl1, hs1⟩ := open_steps clientSays_es23 clientSays_ce39 clientSays_sh39 clientSays_t8 clientSays_so (hval 1 23 _ rfl rfl) h1
    exact says24_c hr1 hl1 hs1
theorem clientSays_over : Rows.clientSaysRow.holds Try.pinned (OpenSpec.ofChange Rows.clientSaysSpec) :=
  OpenClaim.holds_of_wide 5 Try.f5 rfl rfl rfl rfl rfl rfl rfl ⟨rfl, rfl, rfl, rfl, rfl⟩ rfl rfl rfl rfl rfl (by kernel_rfl) Try.func5 (by kernel_rfl)
    (of_decide_eq_true (by kernel_rfl)) (by unfold Func.isWrapper; first | (rw [if_pos (by decide +kernel)]; kernel_rfl) | (rw [if_neg (by decide +kernel)]; exact ⟨rfl, rfl⟩))
    (fun os started H enc _ => clientSays_lifted os started H enc)
/-- The statement. -/
theorem clientSays_proved : Rows.ClientSaysSaid := clientSays_over
#print axioms clientSays_proved
end Go.Proofs.Ytelahacalnmilaa
