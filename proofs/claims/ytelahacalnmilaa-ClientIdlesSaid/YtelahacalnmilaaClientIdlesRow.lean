/- The law ClientIdles of layer 24 holds for every input: it returns true, and its arguments read as they did.
Conditions: none. -/
import Derived.Test.YtelahacalnmilaaRows
import Derived.Test.YtelahacalnmilaaLaw24b
namespace Go.Proofs.Ytelahacalnmilaa
open Go Go.K Go.ChangeShapes Go.WideShapes Go.ChangeAt Go.RowKit
set_option linter.unusedVariables false
set_option maxRecDepth 100000
theorem clientIdles_es23 : elemS Try.prog 23 = some (39, 15) := by kernel_rfl
theorem clientIdles_ce39 : Try.prog.cellsOf 39 = 15 := by kernel_rfl
theorem clientIdles_sh39 : shN Try.prog 4 39 = some (stepSh 5 76) := by kernel_rfl
theorem clientIdles_t8 : tagOf Try.prog 5 = some (0, .u8) := by kernel_rfl
theorem clientIdles_so : shN Try.prog 2 76 = some [i64g, .sl 5 1] := by kernel_rfl
theorem clientIdles_tg3 : tagOf Try.prog 3 = some (0, .i64) := by kernel_rfl
theorem clientIdles_lifted (os : Os) (started : os.Started) (H : Type) (enc : TypeId × Value → H) : ReturnsInHanded {} Try.checked os 6 .any (Rows.clientIdlesSpec.pre6 enc Try.prog Try.f6 Rows.clientIdlesRow.domain false) (Rows.clientIdlesSpec.post enc Try.prog Try.f6 false true false false) := by
  refine law_lifted (C := Try.checked) (tb := 4) (by kernel_rfl) started (by kernel_rfl) Try.func6
    (ChangeSpec.witness6 (enc := enc) (C := Try.checked) false ⟨#[], #[.slice none 0 0, .int .i64 0], []⟩ 8 (by kernel_rfl) (by kernel_rfl) (by kernel_rfl) (by kernel_rfl)) (by kernel_rfl) (by kernel_rfl) rfl rfl Try.underlying4 ?_ ?_
  · intro ds hd
    rw [Try.params6] at hd
    match ds, hd with
    | [_, _], _ => rfl
  · intro W base args ds ps hval hA
    rw [Try.params6] at hA hval
    obtain ⟨v0, vs0, d0, ds0, p0, q0, hargs, rfl, rfl, h0, r0⟩ := trodAll_cons hA
    obtain ⟨v1, vs1, d1, ds1, p1, q1, rfl, rfl, rfl, h1, r1⟩ := trodAll_cons r0
    obtain ⟨rfl, rfl, rfl⟩ := trodAll_nil r1
    obtain rfl : args = #[v0, v1] := by cases args; simp_all
    obtain ⟨l0, hr0, hl0, hs0⟩ := open_steps clientIdles_es23 clientIdles_ce39 clientIdles_sh39 clientIdles_t8 clientIdles_so (hval 0 23 _ rfl rfl) h0
    obtain ⟨n1, rfl, hn1⟩ := open_i64 clientIdles_tg3 h1 (hval 1 3 _ rfl rfl)
    exact idles_c hr0 hl0 hs0
theorem clientIdles_over : Rows.clientIdlesRow.holds Try.pinned (OpenSpec.ofChange Rows.clientIdlesSpec) :=
  OpenClaim.holds_of_wide 6 Try.f6 rfl rfl rfl rfl rfl rfl rfl ⟨rfl, rfl, rfl, rfl, rfl⟩ rfl rfl rfl rfl rfl (by kernel_rfl) Try.func6 (by kernel_rfl)
    (of_decide_eq_true (by kernel_rfl)) (by unfold Func.isWrapper; first | (rw [if_pos (by decide +kernel)]; kernel_rfl) | (rw [if_neg (by decide +kernel)]; exact ⟨rfl, rfl⟩))
    (fun os started H enc _ => clientIdles_lifted os started H enc)
/-- The statement. -/
theorem clientIdles_proved : Rows.ClientIdlesSaid := clientIdles_over
#print axioms clientIdles_proved
end Go.Proofs.Ytelahacalnmilaa
