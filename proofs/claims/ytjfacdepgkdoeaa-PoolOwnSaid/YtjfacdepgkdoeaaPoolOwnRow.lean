/- The law PoolOwn of layer 17 holds for every input: it returns true, and its arguments read as they did.
Conditions: none. -/
import Derived.Test.YtjfacdepgkdoeaaRows
import Derived.Test.YtjfacdepgkdoeaaOwn
import Derived.Test.YtjfacdepgkdoeaaK16
import Derived.Test.YtjfacdepgkdoeaaK18
namespace Go.Proofs.Ytjfacdepgkdoeaa
open Go Go.K Go.ChangeShapes Go.WideShapes Go.ChangeAt Go.RowKit
set_option linter.unusedVariables false
set_option maxRecDepth 100000
theorem poolOwn_af23 : arrF Try.prog 23 = some (2, .f64) := by kernel_rfl
theorem poolOwn_tg3 : tagOf Try.prog 3 = some (0, .i64) := by kernel_rfl
theorem poolOwn_es24 : elemS Try.prog 24 = some (39, 8) := by kernel_rfl
theorem poolOwn_fn39 : flatN Try.prog 3 39 = some Le.tags := by kernel_rfl
theorem poolOwn_ce39 : Try.prog.cellsOf 39 = 8 := by kernel_rfl
theorem poolOwn_lifted (os : Os) (started : os.Started) (H : Type) (enc : TypeId × Value → H) : ReturnsInHanded {} Try.checked os 4 .any (Rows.poolOwnSpec.pre6 enc Try.prog Try.f4 Rows.poolOwnRow.domain false) (Rows.poolOwnSpec.post enc Try.prog Try.f4 false true false false) := by
  refine law_lifted (C := Try.checked) (tb := 4) (by kernel_rfl) started (by kernel_rfl) Try.func4
    (ChangeSpec.witness6 (enc := enc) (C := Try.checked) false ⟨#[], #[.agg #[.float .f64 0, .float .f64 0], .int .i64 0, .slice none 0 0], []⟩ 8 (by kernel_rfl) (by kernel_rfl) (by kernel_rfl) (by kernel_rfl)) (by kernel_rfl) (by kernel_rfl) rfl rfl Try.underlying4 ?_ ?_
  · intro ds hd
    rw [Try.params4] at hd
    match ds, hd with
    | [_, _, _], _ => rfl
  · intro W base args ds ps hval hA
    rw [Try.params4] at hA hval
    obtain ⟨v0, vs0, d0, ds0, p0, q0, hargs, rfl, rfl, h0, r0⟩ := trodAll_cons hA
    obtain ⟨v1, vs1, d1, ds1, p1, q1, rfl, rfl, rfl, h1, r1⟩ := trodAll_cons r0
    obtain ⟨v2, vs2, d2, ds2, p2, q2, rfl, rfl, rfl, h2, r2⟩ := trodAll_cons r1
    obtain ⟨rfl, rfl, rfl⟩ := trodAll_nil r2
    obtain rfl : args = #[v0, v1, v2] := by cases args; simp_all
    obtain ⟨cs0, rfl, hn0, hw0⟩ := open_arrF poolOwn_af23 (hval 0 23 _ rfl rfl) h0
    obtain ⟨x0, y0, rfl⟩ : ∃ x y, cs0 = [x, y] := by match cs0, hn0 with | [x, y], _ => exact ⟨x, y, rfl⟩
    obtain ⟨n1, rfl, hn1⟩ := open_i64 poolOwn_tg3 h1 (hval 1 3 _ rfl rfl)
    obtain ⟨rows2, hr2, hl2, hw2⟩ := open_rows poolOwn_es24 poolOwn_fn39 poolOwn_ce39 rfl (by decide) (hval 2 24 _ rfl rfl) h2
    obtain ⟨l2, rfl, hok2⟩ := rows_of Le.cells Le.Ok (fun q hq => Le.of_wf (hw2 q hq))
    rw [List.length_map] at hr2 hl2
    exact own_c hr2
theorem poolOwn_over : Rows.poolOwnRow.holds Try.pinned (OpenSpec.ofChange Rows.poolOwnSpec) :=
  OpenClaim.holds_of_wide 4 Try.f4 rfl rfl rfl rfl rfl rfl rfl ⟨rfl, rfl, rfl, rfl, rfl⟩ rfl rfl rfl rfl rfl (by kernel_rfl) Try.func4 (by kernel_rfl)
    (of_decide_eq_true (by kernel_rfl)) (by unfold Func.isWrapper; first | (rw [if_pos (by decide +kernel)]; kernel_rfl) | (rw [if_neg (by decide +kernel)]; exact ⟨rfl, rfl⟩))
    (fun os started H enc _ => poolOwn_lifted os started H enc)
/-- The statement. -/
theorem poolOwn_proved : Rows.PoolOwnSaid := poolOwn_over
#print axioms poolOwn_proved
end Go.Proofs.Ytjfacdepgkdoeaa
