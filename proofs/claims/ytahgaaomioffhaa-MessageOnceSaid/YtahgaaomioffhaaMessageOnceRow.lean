/- The law MessageOnce of layer 4 holds for every input: it returns true, and its arguments read as they did.
Conditions: none. -/
import Derived.Test.YtahgaaomioffhaaRows
import Derived.Test.YtahgaaomioffhaaLaw04b
import Derived.Test.YtahgaaomioffhaaM3
import Derived.Test.YtahgaaomioffhaaK13
namespace Go.Proofs.Ytahgaaomioffhaa
open Go Go.K Go.ChangeShapes Go.WideShapes Go.ChangeAt Go.RowKit
set_option linter.unusedVariables false
set_option maxRecDepth 100000
theorem messageOnce_fl37 : flat Try.prog 37 = some Msg.tags11 := by kernel_rfl
theorem messageOnce_es38 : elemS Try.prog 38 = some (5, 1) := by kernel_rfl
theorem messageOnce_te5 : tagOf Try.prog 5 = some (0, .u8) := by kernel_rfl
theorem messageOnce_ce5 : Try.prog.cellsOf 5 = 1 := by kernel_rfl
theorem messageOnce_lifted (os : Os) (started : os.Started) (H : Type) (enc : TypeId × Value → H) : ReturnsInHanded {} Try.checked os 14 .any (Rows.messageOnceSpec.pre6 enc Try.prog Try.f14 Rows.messageOnceRow.domain false) (Rows.messageOnceSpec.post enc Try.prog Try.f14 false true false false) := by
  refine law_lifted (C := Try.checked) (tb := 4) (by kernel_rfl) started (by kernel_rfl) Try.func14
    (ChangeSpec.witness6 (enc := enc) (C := Try.checked) false ⟨#[], #[.agg #[.int .i64 0, .int .i64 0, .int .i64 0, .int .i64 0, .int .i64 0, .int .u32 0, .int .i64 0, .string ⟨#[]⟩, .int .i64 0, .int .i64 0, .bool false], .agg #[.int .i64 0, .int .i64 0, .int .i64 0, .int .i64 0, .int .i64 0, .int .u32 0, .int .i64 0, .string ⟨#[]⟩, .int .i64 0, .int .i64 0, .bool false], .slice none 0 0], []⟩ 8 (by kernel_rfl) (by kernel_rfl) (by kernel_rfl) (by kernel_rfl)) (by kernel_rfl) (by kernel_rfl) rfl rfl Try.underlying4 ?_ ?_
  · intro ds hd
    rw [Try.params14] at hd
    match ds, hd with
    | [_, _, _], _ => rfl
  · intro W base args ds ps hval hA
    rw [Try.params14] at hA hval
    obtain ⟨v0, vs0, d0, ds0, p0, q0, hargs, rfl, rfl, h0, r0⟩ := trodAll_cons hA
    obtain ⟨v1, vs1, d1, ds1, p1, q1, rfl, rfl, rfl, h1, r1⟩ := trodAll_cons r0
    obtain ⟨v2, vs2, d2, ds2, p2, q2, rfl, rfl, rfl, h2, r2⟩ := trodAll_cons r1
    obtain ⟨rfl, rfl, rfl⟩ := trodAll_nil r2
    obtain rfl : args = #[v0, v1, v2] := by cases args; simp_all
    obtain ⟨cs0, rfl, w0⟩ := open_flat messageOnce_fl37 (hval 0 37 _ rfl rfl) h0
    obtain ⟨m0, e0, ha0, hc0⟩ := Msg.of_wf w0
    rw [e0]
    obtain ⟨cs1, rfl, w1⟩ := open_flat messageOnce_fl37 (hval 1 37 _ rfl rfl) h1
    obtain ⟨m1, e1, ha1, hc1⟩ := Msg.of_wf w1
    rw [e1]
    obtain ⟨bs2, hb2, hl2⟩ := open_bytes messageOnce_es38 messageOnce_te5 messageOnce_ce5 (hval 2 38 _ rfl rfl) h2
    exact monce_c ha0 ha1 hb2 hl2
theorem messageOnce_over : Rows.messageOnceRow.holds Try.pinned (OpenSpec.ofChange Rows.messageOnceSpec) :=
  OpenClaim.holds_of_wide 14 Try.f14 rfl rfl rfl rfl rfl rfl rfl ⟨rfl, rfl, rfl, rfl, rfl⟩ rfl rfl rfl rfl rfl (by kernel_rfl) Try.func14 (by kernel_rfl)
    (of_decide_eq_true (by kernel_rfl)) (by unfold Func.isWrapper; first | (rw [if_pos (by decide +kernel)]; kernel_rfl) | (rw [if_neg (by decide +kernel)]; exact ⟨rfl, rfl⟩))
    (fun os started H enc _ => messageOnce_lifted os started H enc)
/-- The statement. -/
theorem messageOnce_proved : Rows.MessageOnceSaid := messageOnce_over
#print axioms messageOnce_proved
end Go.Proofs.Ytahgaaomioffhaa
