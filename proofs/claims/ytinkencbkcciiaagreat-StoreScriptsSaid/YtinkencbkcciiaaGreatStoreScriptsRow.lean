/- The law StoreScripts of layer 13 holds for every input: it returns true, and its arguments read as they did.
Conditions: none. -/
import Derived.Test.YtinkencbkcciiaaGreatRows
import Derived.Test.YtinkencbkcciiaaGreatLaw13c
import Derived.Test.YtinkencbkcciiaaGreatKB
import Derived.Test.YtinkencbkcciiaaGreatKD
import Derived.Test.YtinkencbkcciiaaGreatLA
import Derived.Test.YtinkencbkcciiaaGreatRA
import Derived.Test.YtinkencbkcciiaaGreatDE
namespace Go.Proofs.YtinkencbkcciiaaGreat
open Go Go.K Go.ChangeShapes Go.WideShapes Go.ChangeAt Go.RowKit
set_option linter.unusedVariables false
set_option maxRecDepth 100000
theorem storeScripts_tg3 : tagOf Tryz.prog 3 = some (0, .i64) := by kernel_rfl
theorem storeScripts_es41 : elemS Tryz.prog 41 = some (51, 10) := by kernel_rfl
theorem storeScripts_fn51 : flatN Tryz.prog 3 51 = some S13.tags := by kernel_rfl
theorem storeScripts_ce51 : Tryz.prog.cellsOf 51 = 10 := by kernel_rfl
theorem storeScripts_lifted (os : Os) (started : os.Started) (H : Type) (enc : TypeId × Value → H) : ReturnsInHanded {} Tryz.checked os 4 .any (Rows.storeScriptsSpec.pre6 enc Tryz.prog Tryz.f4 Rows.storeScriptsRow.domain false) (Rows.storeScriptsSpec.post enc Tryz.prog Tryz.f4 false true false false) := by
  refine law_lifted (C := Tryz.checked) (tb := 4) (by kernel_rfl) started (by kernel_rfl) Tryz.func4
    (ChangeSpec.witness6 (enc := enc) (C := Tryz.checked) false ⟨#[], #[.int .i64 0, .slice none 0 0], []⟩ 8 (by kernel_rfl) (by kernel_rfl) (by kernel_rfl) (by kernel_rfl)) (by kernel_rfl) (by kernel_rfl) rfl rfl Tryz.underlying4 ?_ ?_
  · intro ds hd
    rw [Tryz.params4] at hd
    match ds, hd with
    | [_, _], _ => rfl
  · intro W base args ds ps hval hA
    rw [Tryz.params4] at hA hval
    obtain ⟨v0, vs0, d0, ds0, p0, q0, hargs, rfl, rfl, h0, r0⟩ := trodAll_cons hA
    obtain ⟨v1, vs1, d1, ds1, p1, q1, rfl, rfl, rfl, h1, r1⟩ := trodAll_cons r0
    obtain ⟨rfl, rfl, rfl⟩ := trodAll_nil r1
    obtain rfl : args = #[v0, v1] := by cases args; simp_all
    obtain ⟨n0, rfl, hn0⟩ := open_i64 storeScripts_tg3 h0 (hval 0 3 _ rfl rfl)
    obtain ⟨rows1, hr1, hl1, hw1⟩ := open_rows storeScripts_es41 storeScripts_fn51 storeScripts_ce51 rfl (by decide) (hval 1 41 _ rfl rfl) h1
    obtain ⟨l1, rfl, hok1⟩ := rows_of S13.cells S13.Ok (fun q hq => S13.of_wf (hw1 q hq))
    rw [List.length_map] at hr1 hl1
    exact scripts13_h hr1 hl1 hok1
theorem storeScripts_over : Rows.storeScriptsRow.holds Tryz.pinned (OpenSpec.ofChange Rows.storeScriptsSpec) :=
  OpenClaim.holds_of_wide 4 Tryz.f4 rfl rfl rfl rfl rfl rfl rfl ⟨rfl, rfl, rfl, rfl, rfl⟩ rfl rfl rfl rfl rfl (by kernel_rfl) Tryz.func4 (by kernel_rfl)
    (of_decide_eq_true (by kernel_rfl)) (by unfold Func.isWrapper; first | (rw [if_pos (by decide +kernel)]; kernel_rfl) | (rw [if_neg (by decide +kernel)]; exact ⟨rfl, rfl⟩))
    (fun os started H enc _ => storeScripts_lifted os started H enc)
/-- The statement. -/
theorem storeScripts_proved : Rows.StoreScriptsSaid := storeScripts_over
#print axioms storeScripts_proved
end Go.Proofs.YtinkencbkcciiaaGreat
