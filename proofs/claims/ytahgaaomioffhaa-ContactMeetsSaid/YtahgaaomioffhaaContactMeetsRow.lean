/- The law ContactMeets of layer 19 holds for every input: it returns true, and its arguments read as they did.
Conditions: none. -/
import Derived.Test.YtahgaaomioffhaaRows
import Derived.Test.YtahgaaomioffhaaLaw19
import Derived.Test.YtahgaaomioffhaaK16
namespace Go.Proofs.Ytahgaaomioffhaa
open Go Go.K Go.ChangeShapes Go.WideShapes Go.ChangeAt Go.RowKit
set_option linter.unusedVariables false
set_option maxRecDepth 100000
theorem contactMeets_an24 : arrN Try.prog 24 = some (2, .i64) := by kernel_rfl
theorem contactMeets_tg3 : tagOf Try.prog 3 = some (0, .i64) := by kernel_rfl
theorem contactMeets_lifted (os : Os) (started : os.Started) (H : Type) (enc : TypeId × Value → H) : ReturnsInHanded {} Try.checked os 10 .any (Rows.contactMeetsSpec.pre6 enc Try.prog Try.f10 Rows.contactMeetsRow.domain false) (Rows.contactMeetsSpec.post enc Try.prog Try.f10 false true false false) := by
  refine law_lifted (C := Try.checked) (tb := 4) (by kernel_rfl) started (by kernel_rfl) Try.func10
    (ChangeSpec.witness6 (enc := enc) (C := Try.checked) false ⟨#[], #[.agg #[.int .i64 0, .int .i64 0], .int .i64 0], []⟩ 8 (by kernel_rfl) (by kernel_rfl) (by kernel_rfl) (by kernel_rfl)) (by kernel_rfl) (by kernel_rfl) rfl rfl Try.underlying4 ?_ ?_
  · intro ds hd
    rw [Try.params10] at hd
    match ds, hd with
    | [_, _], _ => rfl
  · intro W base args ds ps hval hA
    rw [Try.params10] at hA hval
    obtain ⟨v0, vs0, d0, ds0, p0, q0, hargs, rfl, rfl, h0, r0⟩ := trodAll_cons hA
    obtain ⟨v1, vs1, d1, ds1, p1, q1, rfl, rfl, rfl, h1, r1⟩ := trodAll_cons r0
    obtain ⟨rfl, rfl, rfl⟩ := trodAll_nil r1
    obtain rfl : args = #[v0, v1] := by cases args; simp_all
    obtain ⟨cs0, rfl, hn0, hw0⟩ := open_arrN contactMeets_an24 (hval 0 24 _ rfl rfl) h0
    obtain ⟨x0, y0, rfl⟩ : ∃ x y, cs0 = [x, y] := by match cs0, hn0 with | [x, y], _ => exact ⟨x, y, rfl⟩
    obtain ⟨n1, rfl, hn1⟩ := open_i64 contactMeets_tg3 h1 (hval 1 3 _ rfl rfl)
    exact meets_c
theorem contactMeets_over : Rows.contactMeetsRow.holds Try.pinned (OpenSpec.ofChange Rows.contactMeetsSpec) :=
  OpenClaim.holds_of_wide 10 Try.f10 rfl rfl rfl rfl rfl rfl rfl ⟨rfl, rfl, rfl, rfl, rfl⟩ rfl rfl rfl rfl rfl (by kernel_rfl) Try.func10 (by kernel_rfl)
    (of_decide_eq_true (by kernel_rfl)) (by unfold Func.isWrapper; first | (rw [if_pos (by decide +kernel)]; kernel_rfl) | (rw [if_neg (by decide +kernel)]; exact ⟨rfl, rfl⟩))
    (fun os started H enc _ => contactMeets_lifted os started H enc)
/-- The statement. -/
theorem contactMeets_proved : Rows.ContactMeetsSaid := contactMeets_over
#print axioms contactMeets_proved
end Go.Proofs.Ytahgaaomioffhaa
