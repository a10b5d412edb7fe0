/- The law MessageFields of layer 4 holds for every input: it returns true, and its arguments read as they did.
Conditions: none. -/
import Derived.Test.YtahgaaomioffhaaRows
import Derived.Test.YtahgaaomioffhaaLaw04
import Derived.Test.YtahgaaomioffhaaM3
namespace Go.Proofs.Ytahgaaomioffhaa
open Go Go.K Go.ChangeShapes Go.WideShapes Go.ChangeAt Go.RowKit
set_option linter.unusedVariables false
set_option maxRecDepth 100000
theorem messageFields_fl37 : flat Try.prog 37 = some Msg.tags11 := by kernel_rfl
theorem messageFields_tg3 : tagOf Try.prog 3 = some (0, .i64) := by kernel_rfl
theorem messageFields_lifted (os : Os) (started : os.Started) (H : Type) (enc : TypeId × Value → H) : ReturnsInHanded {} Try.checked os 6 .any (Rows.messageFieldsSpec.pre6 enc Try.prog Try.f6 Rows.messageFieldsRow.domain false) (Rows.messageFieldsSpec.post enc Try.prog Try.f6 false true false false) := by
  refine law_lifted (C := Try.checked) (tb := 4) (by kernel_rfl) started (by kernel_rfl) Try.func6
    (ChangeSpec.witness6 (enc := enc) (C := Try.checked) false ⟨#[], #[.agg #[.int .i64 0, .int .i64 0, .int .i64 0, .int .i64 0, .int .i64 0, .int .u32 0, .int .i64 0, .string ⟨#[]⟩, .int .i64 0, .int .i64 0, .bool false], .int .i64 0], []⟩ 8 (by kernel_rfl) (by kernel_rfl) (by kernel_rfl) (by kernel_rfl)) (by kernel_rfl) (by kernel_rfl) rfl rfl Try.underlying4 ?_ ?_
  · intro ds hd
    rw [Try.params6] at hd
    match ds, hd with
    | [_, _], _ => rfl
  · intro W base args ds ps hval hA
    rw [Try.params6] at hA hval
    obtain ⟨v0, vs0, d0, ds0, p0, q0, hargs, rfl, rfl, h0, r0⟩ := trodAll_cons hA
    obtain ⟨v1, vs1, d1, ds1, p1, q1, rfl, rfl, rfl, h1, r1⟩ := trodAll_cons r0
    obtain ⟨rfl, rfl, rfl⟩ := trodAll_nil r1
    obtain rfl : args = #[v0, v1] := by cases args; simp_all
    obtain ⟨cs0, rfl, w0⟩ := open_flat messageFields_fl37 (hval 0 37 _ rfl rfl) h0
    obtain ⟨m0, e0, ha0, hc0⟩ := Msg.of_wf w0
    rw [e0]
    obtain ⟨n1, rfl, hn1⟩ := open_i64 messageFields_tg3 h1 (hval 1 3 _ rfl rfl)
    exact mfields_c.mono fun v _ _ h => h.1
theorem messageFields_over : Rows.messageFieldsRow.holds Try.pinned (OpenSpec.ofChange Rows.messageFieldsSpec) :=
  OpenClaim.holds_of_wide 6 Try.f6 rfl rfl rfl rfl rfl rfl rfl ⟨rfl, rfl, rfl, rfl, rfl⟩ rfl rfl rfl rfl rfl (by kernel_rfl) Try.func6 (by kernel_rfl)
    (of_decide_eq_true (by kernel_rfl)) (by unfold Func.isWrapper; first | (rw [if_pos (by decide +kernel)]; kernel_rfl) | (rw [if_neg (by decide +kernel)]; exact ⟨rfl, rfl⟩))
    (fun os started H enc _ => messageFields_lifted os started H enc)
/-- The statement. -/
theorem messageFields_proved : Rows.MessageFieldsSaid := messageFields_over
#print axioms messageFields_proved
end Go.Proofs.Ytahgaaomioffhaa
