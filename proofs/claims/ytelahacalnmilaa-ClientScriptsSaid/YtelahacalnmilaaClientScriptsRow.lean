/- The law ClientScripts of layer 24 holds for every input: it returns true, and its arguments read as they did.
Conditions: none. -/
import Derived.Test.YtelahacalnmilaaRows
import Derived.Test.YtelahacalnmilaaLaw24
namespace Go.Proofs.Ytelahacalnmilaa
open Go Go.K Go.ChangeShapes Go.WideShapes Go.ChangeAt Go.RowKit
set_option linter.unusedVariables false
set_option maxRecDepth 100000
theorem clientScripts_tg9 : tagOf Try.prog 9 = some (2, .i64) := by kernel_rfl
theorem clientScripts_es22 : elemS Try.prog 22 = some (5, 1) := by kernel_rfl
theorem clientScripts_te5 : tagOf Try.prog 5 = some (0, .u8) := by kernel_rfl
theorem clientScripts_ce5 : Try.prog.cellsOf 5 = 1 := by kernel_rfl
theorem clientScripts_es23 : elemS Try.prog 23 = some (39, 15) := by kernel_rfl
theorem clientScripts_ce39 : Try.prog.cellsOf 39 = 15 := by kernel_rfl
theorem clientScripts_sh39 : shN Try.prog 4 39 = some (stepSh 5 76) := by kernel_rfl
theorem clientScripts_t8 : tagOf Try.prog 5 = some (0, .u8) := by kernel_rfl
theorem clientScripts_so : shN Try.prog 2 76 = some [i64g, .sl 5 1] := by kernel_rfl
theorem clientScripts_lifted (os : Os) (started : os.Started) (H : Type) (enc : TypeId × Value → H) : ReturnsInHanded {} Try.checked os 3 .any (Rows.clientScriptsSpec.pre6 enc Try.prog Try.f3 Rows.clientScriptsRow.domain false) (Rows.clientScriptsSpec.post enc Try.prog Try.f3 false true false false) := by
  refine law_lifted (C := Try.checked) (tb := 4) (by kernel_rfl) started (by kernel_rfl) Try.func3
    (ChangeSpec.witness6 (enc := enc) (C := Try.checked) false ⟨#[], #[.string ⟨#[]⟩, .slice none 0 0, .slice none 0 0], []⟩ 8 (by kernel_rfl) (by kernel_rfl) (by kernel_rfl) (by kernel_rfl)) (by kernel_rfl) (by kernel_rfl) rfl rfl Try.underlying4 ?_ ?_
  · intro ds hd
    rw [Try.params3] at hd
    match ds, hd with
    | [_, _, _], _ => rfl
  · intro W base args ds ps hval hA
    rw [Try.params3] at hA hval
    obtain ⟨v0, vs0, d0, ds0, p0, q0, hargs, rfl, rfl, h0, r0⟩ := trodAll_cons hA
    obtain ⟨v1, vs1, d1, ds1, p1, q1, rfl, rfl, rfl, h1, r1⟩ := trodAll_cons r0
    obtain ⟨v2, vs2, d2, ds2, p2, q2, rfl, rfl, rfl, h2, r2⟩ := trodAll_cons r1
    obtain ⟨rfl, rfl, rfl⟩ := trodAll_nil r2
    obtain rfl : args = #[v0, v1, v2] := by cases args; simp_all
    obtain ⟨s0, rfl, hz0⟩ := open_str clientScripts_tg9 h0 (hval 0 9 _ rfl rfl)
    obtain ⟨bs1, hb1, hl1⟩ := open_bytes clientScripts_es22 clientScripts_te5 clientScripts_ce5 (hval 1 22 _ rfl rfl) h1
    obtain ⟨l2, hr2, hl2, hs2⟩ := open_steps clientScripts_es23 clientScripts_ce39 clientScripts_sh39 clientScripts_t8 clientScripts_so (hval 2 23 _ rfl rfl) h2
    exact scripts24_c hb1 hr2 hl2 hs2
theorem clientScripts_over : Rows.clientScriptsRow.holds Try.pinned (OpenSpec.ofChange Rows.clientScriptsSpec) :=
  OpenClaim.holds_of_wide 3 Try.f3 rfl rfl rfl rfl rfl rfl rfl ⟨rfl, rfl, rfl, rfl, rfl⟩ rfl rfl rfl rfl rfl (by kernel_rfl) Try.func3 (by kernel_rfl)
    (of_decide_eq_true (by kernel_rfl)) (by unfold Func.isWrapper; first | (rw [if_pos (by decide +kernel)]; kernel_rfl) | (rw [if_neg (by decide +kernel)]; exact ⟨rfl, rfl⟩))
    (fun os started H enc _ => clientScripts_lifted os started H enc)
/-- The statement. -/
theorem clientScripts_proved : Rows.ClientScriptsSaid := clientScripts_over
#print axioms clientScripts_proved
end Go.Proofs.Ytelahacalnmilaa
