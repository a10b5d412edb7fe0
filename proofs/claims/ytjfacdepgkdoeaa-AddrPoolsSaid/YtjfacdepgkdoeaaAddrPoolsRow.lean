/- The law AddrPools of layer 1 holds for every input: it returns true, and its arguments read as they did.
Conditions: none. -/
import Derived.Test.YtjfacdepgkdoeaaRows
import Derived.Test.YtjfacdepgkdoeaaLaw01b
import Derived.Test.YtjfacdepgkdoeaaKB
import Derived.Test.YtjfacdepgkdoeaaKD
namespace Go.Proofs.Ytjfacdepgkdoeaa
open Go Go.K Go.ChangeShapes Go.WideShapes Go.ChangeAt Go.RowKit
set_option linter.unusedVariables false
set_option maxRecDepth 100000
theorem addrPools_es51 : elemS Try.prog 51 = some (53, 2) := by kernel_rfl
theorem addrPools_fn53 : flatN Try.prog 3 53 = some Rg.tags := by kernel_rfl
theorem addrPools_ce53 : Try.prog.cellsOf 53 = 2 := by kernel_rfl
theorem addrPools_tg3 : tagOf Try.prog 3 = some (0, .i64) := by kernel_rfl
theorem addrPools_tg37 : tagOf Try.prog 37 = some (0, .u32) := by kernel_rfl
theorem addrPools_lifted (os : Os) (started : os.Started) (H : Type) (enc : TypeId × Value → H) : ReturnsInHanded {} Try.checked os 8 .any (Rows.addrPoolsSpec.pre6 enc Try.prog Try.f8 Rows.addrPoolsRow.domain false) (Rows.addrPoolsSpec.post enc Try.prog Try.f8 false true false false) := by
  refine law_lifted (C := Try.checked) (tb := 4) (by kernel_rfl) started (by kernel_rfl) Try.func8
    (ChangeSpec.witness6 (enc := enc) (C := Try.checked) false ⟨#[], #[.slice none 0 0, .int .i64 0, .int .u32 0], []⟩ 8 (by kernel_rfl) (by kernel_rfl) (by kernel_rfl) (by kernel_rfl)) (by kernel_rfl) (by kernel_rfl) rfl rfl Try.underlying4 ?_ ?_
  · intro ds hd
    rw [Try.params8] at hd
    match ds, hd with
    | [_, _, _], _ => rfl
  · intro W base args ds ps hval hA
    rw [Try.params8] at hA hval
    obtain ⟨v0, vs0, d0, ds0, p0, q0, hargs, rfl, rfl, h0, r0⟩ := trodAll_cons hA
    obtain ⟨v1, vs1, d1, ds1, p1, q1, rfl, rfl, rfl, h1, r1⟩ := trodAll_cons r0
    obtain ⟨v2, vs2, d2, ds2, p2, q2, rfl, rfl, rfl, h2, r2⟩ := trodAll_cons r1
    obtain ⟨rfl, rfl, rfl⟩ := trodAll_nil r2
    obtain rfl : args = #[v0, v1, v2] := by cases args; simp_all
    obtain ⟨rows0, hr0, hl0, hw0⟩ := open_rows addrPools_es51 addrPools_fn53 addrPools_ce53 rfl (by decide) (hval 0 51 _ rfl rfl) h0
    obtain ⟨l0, rfl, hok0⟩ := rows_of Rg.cells Rg.Ok (fun q hq => Rg.of_wf (hw0 q hq))
    rw [List.length_map] at hr0 hl0
    obtain ⟨n1, rfl, hn1⟩ := open_i64 addrPools_tg3 h1 (hval 1 3 _ rfl rfl)
    obtain ⟨n2, rfl, hn2⟩ := open_u32 addrPools_tg37 h2 (hval 2 37 _ rfl rfl)
    exact poolslaw_c_h hr0 hok0 hn1 hn2
theorem addrPools_over : Rows.addrPoolsRow.holds Try.pinned (OpenSpec.ofChange Rows.addrPoolsSpec) :=
  OpenClaim.holds_of_wide 8 Try.f8 rfl rfl rfl rfl rfl rfl rfl ⟨rfl, rfl, rfl, rfl, rfl⟩ rfl rfl rfl rfl rfl (by kernel_rfl) Try.func8 (by kernel_rfl)
    (of_decide_eq_true (by kernel_rfl)) (by unfold Func.isWrapper; first | (rw [if_pos (by decide +kernel)]; kernel_rfl) | (rw [if_neg (by decide +kernel)]; exact ⟨rfl, rfl⟩))
    (fun os started H enc _ => addrPools_lifted os started H enc)
/-- The statement. -/
theorem addrPools_proved : Rows.AddrPoolsSaid := addrPools_over
#print axioms addrPools_proved
end Go.Proofs.Ytjfacdepgkdoeaa
