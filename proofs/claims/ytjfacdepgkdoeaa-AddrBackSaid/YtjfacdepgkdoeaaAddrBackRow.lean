/- The law AddrBack of layer 1 holds for every input: it returns true, and its arguments read as they did.
Conditions: none. -/
import Derived.Test.YtjfacdepgkdoeaaRows
import Derived.Test.YtjfacdepgkdoeaaLaw01c
import Derived.Test.YtjfacdepgkdoeaaKB
import Derived.Test.YtjfacdepgkdoeaaKD
namespace Go.Proofs.Ytjfacdepgkdoeaa
open Go Go.K Go.ChangeShapes Go.WideShapes Go.ChangeAt Go.RowKit
set_option linter.unusedVariables false
set_option maxRecDepth 100000
theorem addrBack_tg37 : tagOf Try.prog 37 = some (0, .u32) := by kernel_rfl
theorem addrBack_tg9 : tagOf Try.prog 9 = some (2, .i64) := by kernel_rfl
theorem addrBack_lifted (os : Os) (started : os.Started) (H : Type) (enc : TypeId × Value → H) : ReturnsInHanded {} Try.checked os 14 .any (Rows.addrBackSpec.pre6 enc Try.prog Try.f14 Rows.addrBackRow.domain false) (Rows.addrBackSpec.post enc Try.prog Try.f14 false true false false) := by
  refine law_lifted (C := Try.checked) (tb := 4) (by kernel_rfl) started (by kernel_rfl) Try.func14
    (ChangeSpec.witness6 (enc := enc) (C := Try.checked) false ⟨#[], #[.int .u32 0, .string ⟨#[]⟩], []⟩ 8 (by kernel_rfl) (by kernel_rfl) (by kernel_rfl) (by kernel_rfl)) (by kernel_rfl) (by kernel_rfl) rfl rfl Try.underlying4 ?_ ?_
  · intro ds hd
    rw [Try.params14] at hd
    match ds, hd with
    | [_, _], _ => rfl
  · intro W base args ds ps hval hA
    rw [Try.params14] at hA hval
    obtain ⟨v0, vs0, d0, ds0, p0, q0, hargs, rfl, rfl, h0, r0⟩ := trodAll_cons hA
    obtain ⟨v1, vs1, d1, ds1, p1, q1, rfl, rfl, rfl, h1, r1⟩ := trodAll_cons r0
    obtain ⟨rfl, rfl, rfl⟩ := trodAll_nil r1
    obtain rfl : args = #[v0, v1] := by cases args; simp_all
    obtain ⟨n0, rfl, hn0⟩ := open_u32 addrBack_tg37 h0 (hval 0 37 _ rfl rfl)
    obtain ⟨s1, rfl, hz1⟩ := open_str addrBack_tg9 h1 (hval 1 9 _ rfl rfl)
    exact backlaw_c_h hn0
theorem addrBack_over : Rows.addrBackRow.holds Try.pinned (OpenSpec.ofChange Rows.addrBackSpec) :=
  OpenClaim.holds_of_wide 14 Try.f14 rfl rfl rfl rfl rfl rfl rfl ⟨rfl, rfl, rfl, rfl, rfl⟩ rfl rfl rfl rfl rfl (by kernel_rfl) Try.func14 (by kernel_rfl)
    (of_decide_eq_true (by kernel_rfl)) (by unfold Func.isWrapper; first | (rw [if_pos (by decide +kernel)]; kernel_rfl) | (rw [if_neg (by decide +kernel)]; exact ⟨rfl, rfl⟩))
    (fun os started H enc _ => addrBack_lifted os started H enc)
/-- The statement. -/
theorem addrBack_proved : Rows.AddrBackSaid := addrBack_over
#print axioms addrBack_proved
end Go.Proofs.Ytjfacdepgkdoeaa
