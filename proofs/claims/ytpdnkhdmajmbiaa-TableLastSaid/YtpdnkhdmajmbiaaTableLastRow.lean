/- The law TableLast of layer 12 holds for every input: it returns true, and its arguments read as they did.
Conditions: none. -/
import Derived.Test.YtpdnkhdmajmbiaaRows
import Derived.Test.YtpdnkhdmajmbiaaLaw12d
import Derived.Test.YtpdnkhdmajmbiaaKB
import Derived.Test.YtpdnkhdmajmbiaaKD
import Derived.Test.YtpdnkhdmajmbiaaLA
import Derived.Test.YtpdnkhdmajmbiaaKH
namespace Go.Proofs.Ytpdnkhdmajmbiaa
open Go Go.K Go.ChangeShapes Go.WideShapes Go.ChangeAt Go.RowKit
set_option linter.unusedVariables false
set_option maxRecDepth 100000
theorem tableLast_es66 : elemS Try.prog 66 = some (124, 2) := by kernel_rfl
theorem tableLast_fn124 : flatN Try.prog 3 124 = some Rg.tags := by kernel_rfl
theorem tableLast_ce124 : Try.prog.cellsOf 124 = 2 := by kernel_rfl
theorem tableLast_es67 : elemS Try.prog 67 = some (69, 8) := by kernel_rfl
theorem tableLast_fn69 : flatN Try.prog 3 69 = some Le.tags := by kernel_rfl
theorem tableLast_ce69 : Try.prog.cellsOf 69 = 8 := by kernel_rfl
theorem tableLast_by69 : Try.prog.bytesOf 69 = 72 := by kernel_rfl
theorem tableLast_fl69 : flat Try.prog 69 = some Le.tags := by kernel_rfl
theorem tableLast_lifted (os : Os) (started : os.Started) (H : Type) (enc : TypeId × Value → H) : ReturnsInHanded {} Try.checked os 8 .any (Rows.tableLastSpec.pre6 enc Try.prog Try.f8 Rows.tableLastRow.domain false) (Rows.tableLastSpec.post enc Try.prog Try.f8 false true false false) := by
  refine law_sized (C := Try.checked) (tb := 4) (by kernel_rfl) started (by kernel_rfl) Try.func8
    (ChangeSpec.witness6 (enc := enc) (C := Try.checked) false ⟨#[], #[.slice none 0 0, .slice none 0 0, .agg #[.int .u32 0, .int .i64 0, .string ⟨#[]⟩, .int .i64 0, .int .i64 0, .int .i64 0, .int .i64 0, .int .i64 0]], []⟩ 8 (by kernel_rfl) (by kernel_rfl) (by kernel_rfl) (by kernel_rfl)) (by kernel_rfl) (by kernel_rfl) rfl rfl Try.underlying4 ?_ ?_
  · intro ds hd
    rw [Try.params8] at hd
    match ds, hd with
    | [_, _, _], _ => rfl
  · intro W base args ds ps hval hsz hA
    rw [Try.params8] at hA hval hsz
    obtain ⟨v0, vs0, d0, ds0, p0, q0, hargs, rfl, rfl, h0, r0⟩ := trodAll_cons hA
    obtain ⟨v1, vs1, d1, ds1, p1, q1, rfl, rfl, rfl, h1, r1⟩ := trodAll_cons r0
    obtain ⟨v2, vs2, d2, ds2, p2, q2, rfl, rfl, rfl, h2, r2⟩ := trodAll_cons r1
    obtain ⟨rfl, rfl, rfl⟩ := trodAll_nil r2
    obtain rfl : args = #[v0, v1, v2] := by cases args; simp_all
    obtain ⟨rows0, hr0, hl0, hw0⟩ := open_rows tableLast_es66 tableLast_fn124 tableLast_ce124 rfl (by decide) (hval 0 66 _ rfl rfl) h0
    obtain ⟨l0, rfl, hok0⟩ := rows_of Rg.cells Rg.Ok (fun q hq => Rg.of_wf (hw0 q hq))
    rw [List.length_map] at hr0 hl0
    obtain ⟨rows1, hr1, hl1, hw1⟩ := open_rows tableLast_es67 tableLast_fn69 tableLast_ce69 rfl (by decide) (hval 1 67 _ rfl rfl) h1
    obtain ⟨l1, rfl, hok1⟩ := rows_of Le.cells Le.Ok (fun q hq => Le.of_wf (hw1 q hq))
    rw [List.length_map] at hr1 hl1
    have hb1 := rows_bytes tableLast_es67 h1 hr1 (fun elems sp hd => hsz 1 67 69 elems sp rfl (congrArg some hd) (under_elemS tableLast_es67).1)
    rw [tableLast_by69] at hb1
    obtain ⟨cs2, rfl, w2⟩ := open_flat tableLast_fl69 (hval 2 69 _ rfl rfl) h2
    obtain ⟨m2, e2, ok2⟩ := Le.of_wf w2
    rw [e2]
    exact tablelast_h hr0 hok0 hr1 hok1 hb1 ok2.client
theorem tableLast_over : Rows.tableLastRow.holds Try.pinned (OpenSpec.ofChange Rows.tableLastSpec) :=
  OpenClaim.holds_of_wide 8 Try.f8 rfl rfl rfl rfl rfl rfl rfl ⟨rfl, rfl, rfl, rfl, rfl⟩ rfl rfl rfl rfl rfl (by kernel_rfl) Try.func8 (by kernel_rfl)
    (of_decide_eq_true (by kernel_rfl)) (by unfold Func.isWrapper; first | (rw [if_pos (by decide +kernel)]; kernel_rfl) | (rw [if_neg (by decide +kernel)]; exact ⟨rfl, rfl⟩))
    (fun os started H enc _ => tableLast_lifted os started H enc)
/-- The statement. -/
theorem tableLast_proved : Rows.TableLastSaid := tableLast_over
#print axioms tableLast_proved
end Go.Proofs.Ytpdnkhdmajmbiaa
