/- The law PoolGives of layer 17 holds for every input: it returns true, and its arguments read as they did.
Conditions: none. -/
import Derived.Test.YtahgaaomioffhaaRows
import Derived.Test.YtahgaaomioffhaaLaw17
import Derived.Test.YtahgaaomioffhaaK16
import Derived.Test.YtahgaaomioffhaaK18
namespace Go.Proofs.Ytahgaaomioffhaa
open Go Go.K Go.ChangeShapes Go.WideShapes Go.ChangeAt Go.RowKit
set_option linter.unusedVariables false
set_option maxRecDepth 100000
theorem poolGives_af23 : arrF Try.prog 23 = some (2, .f64) := by kernel_rfl
theorem poolGives_tg3 : tagOf Try.prog 3 = some (0, .i64) := by kernel_rfl
theorem poolGives_an24 : arrN Try.prog 24 = some (2, .i64) := by kernel_rfl
theorem poolGives_lifted (os : Os) (started : os.Started) (H : Type) (enc : TypeId × Value → H) : ReturnsInHanded {} Try.checked os 3 .any (Rows.poolGivesSpec.pre6 enc Try.prog Try.f3 Rows.poolGivesRow.domain false) (Rows.poolGivesSpec.post enc Try.prog Try.f3 false true false false) := by
  refine law_lifted (C := Try.checked) (tb := 4) (by kernel_rfl) started (by kernel_rfl) Try.func3
    (ChangeSpec.witness6 (enc := enc) (C := Try.checked) false ⟨#[], #[.agg #[.float .f64 0, .float .f64 0], .int .i64 0, .agg #[.int .i64 0, .int .i64 0]], []⟩ 8 (by kernel_rfl) (by kernel_rfl) (by kernel_rfl) (by kernel_rfl)) (by kernel_rfl) (by kernel_rfl) rfl rfl Try.underlying4 ?_ ?_
  · intro ds hd
    rw [Try.params3] at hd
    match ds, hd with
    | [_, _, _], _ => rfl
  · intro W base args ds ps hval hA
    rw [Try.params3] at hA hval
    obtain ⟨v0, vs0, d0, ds0, p0, q0, hargs, rfl, rfl, h0, r0⟩ := trodAll_cons hA
    obtain ⟨v1, vs1, d1, ds1, p1, q1, rfl, rfl, rfl, h1, r1⟩ := trodAll_cons r0
    obtain ⟨v2, vs2, d2, ds2, p2, q2, rfl, rfl, rfl, h2, r2⟩ := trodAll_cons r1
    obtain ⟨rfl, rfl, rfl⟩ := trodAll_nil r2
    obtain rfl : args = #[v0, v1, v2] := by cases args; simp_all
    obtain ⟨cs0, rfl, hn0, hw0⟩ := open_arrF poolGives_af23 (hval 0 23 _ rfl rfl) h0
    obtain ⟨x0, y0, rfl⟩ : ∃ x y, cs0 = [x, y] := by match cs0, hn0 with | [x, y], _ => exact ⟨x, y, rfl⟩
    obtain ⟨n1, rfl, hn1⟩ := open_i64 poolGives_tg3 h1 (hval 1 3 _ rfl rfl)
    obtain ⟨cs2, rfl, hn2, hw2⟩ := open_arrN poolGives_an24 (hval 2 24 _ rfl rfl) h2
    obtain ⟨x2, y2, rfl⟩ : ∃ x y, cs2 = [x, y] := by match cs2, hn2 with | [x, y], _ => exact ⟨x, y, rfl⟩
    exact poolgives_c
theorem poolGives_over : Rows.poolGivesRow.holds Try.pinned (OpenSpec.ofChange Rows.poolGivesSpec) :=
  OpenClaim.holds_of_wide 3 Try.f3 rfl rfl rfl rfl rfl rfl rfl ⟨rfl, rfl, rfl, rfl, rfl⟩ rfl rfl rfl rfl rfl (by kernel_rfl) Try.func3 (by kernel_rfl)
    (of_decide_eq_true (by kernel_rfl)) (by unfold Func.isWrapper; first | (rw [if_pos (by decide +kernel)]; kernel_rfl) | (rw [if_neg (by decide +kernel)]; exact ⟨rfl, rfl⟩))
    (fun os started H enc _ => poolGives_lifted os started H enc)
/-- The statement. -/
theorem poolGives_proved : Rows.PoolGivesSaid := poolGives_over
#print axioms poolGives_proved
end Go.Proofs.Ytahgaaomioffhaa
