/- The law MessageSizes of layer 4 holds for every input: it returns true, and its arguments read as they did.
Conditions: none. -/
import Derived.Test.YtahgaaomioffhaaRows
import Derived.Test.YtahgaaomioffhaaLaw04
import Derived.Test.YtahgaaomioffhaaM3
namespace Go.Proofs.Ytahgaaomioffhaa
open Go Go.K Go.ChangeShapes Go.WideShapes Go.ChangeAt Go.RowKit
set_option linter.unusedVariables false
set_option maxRecDepth 100000
theorem messageSizes_fl37 : flat Try.prog 37 = some Msg.tags11 := by kernel_rfl
theorem messageSizes_lifted (os : Os) (started : os.Started) (H : Type) (enc : TypeId × Value → H) : ReturnsInHanded {} Try.checked os 7 .any (Rows.messageSizesSpec.pre6 enc Try.prog Try.f7 Rows.messageSizesRow.domain false) (Rows.messageSizesSpec.post enc Try.prog Try.f7 false true false false) := by
  refine law_lifted (C := Try.checked) (tb := 4) (by kernel_rfl) started (by kernel_rfl) Try.func7
    (ChangeSpec.witness6 (enc := enc) (C := Try.checked) false ⟨#[], #[.agg #[.int .i64 0, .int .i64 0, .int .i64 0, .int .i64 0, .int .i64 0, .int .u32 0, .int .i64 0, .string ⟨#[]⟩, .int .i64 0, .int .i64 0, .bool false]], []⟩ 8 (by kernel_rfl) (by kernel_rfl) (by kernel_rfl) (by kernel_rfl)) (by kernel_rfl) (by kernel_rfl) rfl rfl Try.underlying4 ?_ ?_
  · intro ds hd
    rw [Try.params7] at hd
    match ds, hd with
    | [_], _ => rfl
  · intro W base args ds ps hval hA
    rw [Try.params7] at hA hval
    obtain ⟨v0, vs0, d0, ds0, p0, q0, hargs, rfl, rfl, h0, r0⟩ := trodAll_cons hA
    obtain ⟨rfl, rfl, rfl⟩ := trodAll_nil r0
    obtain rfl : args = #[v0] := by cases args; simp_all
    obtain ⟨cs0, rfl, w0⟩ := open_flat messageSizes_fl37 (hval 0 37 _ rfl rfl) h0
    obtain ⟨m0, e0, ha0, hc0⟩ := Msg.of_wf w0
    rw [e0]
    exact (msizes_c ha0).mono fun v _ _ h => h.1
theorem messageSizes_over : Rows.messageSizesRow.holds Try.pinned (OpenSpec.ofChange Rows.messageSizesSpec) :=
  OpenClaim.holds_of_wide 7 Try.f7 rfl rfl rfl rfl rfl rfl rfl ⟨rfl, rfl, rfl, rfl, rfl⟩ rfl rfl rfl rfl rfl (by kernel_rfl) Try.func7 (by kernel_rfl)
    (of_decide_eq_true (by kernel_rfl)) (by unfold Func.isWrapper; first | (rw [if_pos (by decide +kernel)]; kernel_rfl) | (rw [if_neg (by decide +kernel)]; exact ⟨rfl, rfl⟩))
    (fun os started H enc _ => messageSizes_lifted os started H enc)
/-- The statement. -/
theorem messageSizes_proved : Rows.MessageSizesSaid := messageSizes_over
#print axioms messageSizes_proved
end Go.Proofs.Ytahgaaomioffhaa
