/- The law MessageBack of layer 4 holds for every input: it returns true, and its arguments read as they did.
Conditions: none. -/
import Derived.Test.YtahgaaomioffhaaRows
import Derived.Test.YtahgaaomioffhaaLaw04b
import Derived.Test.YtahgaaomioffhaaM3
import Derived.Test.YtahgaaomioffhaaK13
namespace Go.Proofs.Ytahgaaomioffhaa
open Go Go.K Go.ChangeShapes Go.WideShapes Go.ChangeAt Go.RowKit
set_option linter.unusedVariables false
set_option maxRecDepth 100000
theorem messageBack_fl37 : flat Try.prog 37 = some Msg.tags11 := by kernel_rfl
theorem messageBack_es38 : elemS Try.prog 38 = some (5, 1) := by kernel_rfl
theorem messageBack_te5 : tagOf Try.prog 5 = some (0, .u8) := by kernel_rfl
theorem messageBack_ce5 : Try.prog.cellsOf 5 = 1 := by kernel_rfl
theorem messageBack_lifted (os : Os) (started : os.Started) (H : Type) (enc : TypeId × Value → H) : ReturnsInHanded {} Try.checked os 13 .any (Rows.messageBackSpec.pre6 enc Try.prog Try.f13 Rows.messageBackRow.domain false) (Rows.messageBackSpec.post enc Try.prog Try.f13 false true false false) := by
  refine law_lifted (C := Try.checked) (tb := 4) (by kernel_rfl) started (by kernel_rfl) Try.func13
    (ChangeSpec.witness6 (enc := enc) (C := Try.checked) false ⟨#[], #[.agg #[.int .i64 0, .int .i64 0, .int .i64 0, .int .i64 0, .int .i64 0, .int .u32 0, .int .i64 0, .string ⟨#[]⟩, .int .i64 0, .int .i64 0, .bool false], .slice none 0 0], []⟩ 8 (by kernel_rfl) (by kernel_rfl) (by kernel_rfl) (by kernel_rfl)) (by kernel_rfl) (by kernel_rfl) rfl rfl Try.underlying4 ?_ ?_
  · intro ds hd
    rw [Try.params13] at hd
    match ds, hd with
    | [_, _], _ => rfl
  · intro W base args ds ps hval hA
    rw [Try.params13] at hA hval
    obtain ⟨v0, vs0, d0, ds0, p0, q0, hargs, rfl, rfl, h0, r0⟩ := trodAll_cons hA
    obtain ⟨v1, vs1, d1, ds1, p1, q1, rfl, rfl, rfl, h1, r1⟩ := trodAll_cons r0
    obtain ⟨rfl, rfl, rfl⟩ := trodAll_nil r1
    obtain rfl : args = #[v0, v1] := by cases args; simp_all
    obtain ⟨cs0, rfl, w0⟩ := open_flat messageBack_fl37 (hval 0 37 _ rfl rfl) h0
    obtain ⟨m0, e0, ha0, hc0⟩ := Msg.of_wf w0
    rw [e0]
    obtain ⟨bs1, hb1, hl1⟩ := open_bytes messageBack_es38 messageBack_te5 messageBack_ce5 (hval 1 38 _ rfl rfl) h1
    exact mback_c ha0 hb1 hl1
theorem messageBack_over : Rows.messageBackRow.holds Try.pinned (OpenSpec.ofChange Rows.messageBackSpec) :=
  OpenClaim.holds_of_wide 13 Try.f13 rfl rfl rfl rfl rfl rfl rfl ⟨rfl, rfl, rfl, rfl, rfl⟩ rfl rfl rfl rfl rfl (by kernel_rfl) Try.func13 (by kernel_rfl)
    (of_decide_eq_true (by kernel_rfl)) (by unfold Func.isWrapper; first | (rw [if_pos (by decide +kernel)]; kernel_rfl) | (rw [if_neg (by decide +kernel)]; exact ⟨rfl, rfl⟩))
    (fun os started H enc _ => messageBack_lifted os started H enc)
/-- The statement. -/
theorem messageBack_proved : Rows.MessageBackSaid := messageBack_over
#print axioms messageBack_proved
end Go.Proofs.Ytahgaaomioffhaa
