/- The law StoreOpens of layer 13 holds for every input: it returns true, and its arguments read as they did.
Conditions: none. -/
import Derived.Test.YtinkencbkcciiaaGreatRows
import Derived.Test.YtinkencbkcciiaaGreatLaw13b
import Derived.Test.YtinkencbkcciiaaGreatKB
import Derived.Test.YtinkencbkcciiaaGreatKD
import Derived.Test.YtinkencbkcciiaaGreatLA
import Derived.Test.YtinkencbkcciiaaGreatRA
import Derived.Test.YtinkencbkcciiaaGreatDE
namespace Go.Proofs.YtinkencbkcciiaaGreat
open Go Go.K Go.ChangeShapes Go.WideShapes Go.ChangeAt Go.RowKit
set_option linter.unusedVariables false
set_option maxRecDepth 100000
theorem storeOpens_es22 : elemS Tryz.prog 22 = some (5, 1) := by kernel_rfl
theorem storeOpens_te5 : tagOf Tryz.prog 5 = some (0, .u8) := by kernel_rfl
theorem storeOpens_ce5 : Tryz.prog.cellsOf 5 = 1 := by kernel_rfl
theorem storeOpens_es23 : elemS Tryz.prog 23 = some (101, 2) := by kernel_rfl
theorem storeOpens_fn101 : flatN Tryz.prog 3 101 = some Rg.tags := by kernel_rfl
theorem storeOpens_ce101 : Tryz.prog.cellsOf 101 = 2 := by kernel_rfl
theorem storeOpens_lifted (os : Os) (started : os.Started) (H : Type) (enc : TypeId × Value → H) : ReturnsInHanded {} Tryz.checked os 3 .any (Rows.storeOpensSpec.pre6 enc Tryz.prog Tryz.f3 Rows.storeOpensRow.domain false) (Rows.storeOpensSpec.post enc Tryz.prog Tryz.f3 false true false false) := by
  refine law_lifted (C := Tryz.checked) (tb := 4) (by kernel_rfl) started (by kernel_rfl) Tryz.func3
    (ChangeSpec.witness6 (enc := enc) (C := Tryz.checked) false ⟨#[], #[.slice none 0 0, .slice none 0 0], []⟩ 8 (by kernel_rfl) (by kernel_rfl) (by kernel_rfl) (by kernel_rfl)) (by kernel_rfl) (by kernel_rfl) rfl rfl Tryz.underlying4 ?_ ?_
  · intro ds hd
    rw [Tryz.params3] at hd
    match ds, hd with
    | [_, _], _ => rfl
  · intro W base args ds ps hval hA
    rw [Tryz.params3] at hA hval
    obtain ⟨v0, vs0, d0, ds0, p0, q0, hargs, rfl, rfl, h0, r0⟩ := trodAll_cons hA
    obtain ⟨v1, vs1, d1, ds1, p1, q1, rfl, rfl, rfl, h1, r1⟩ := trodAll_cons r0
    obtain ⟨rfl, rfl, rfl⟩ := trodAll_nil r1
    obtain rfl : args = #[v0, v1] := by cases args; simp_all
    obtain ⟨bs0, hb0, hl0⟩ := open_bytes storeOpens_es22 storeOpens_te5 storeOpens_ce5 (hval 0 22 _ rfl rfl) h0
    obtain ⟨rows1, hr1, hl1, hw1⟩ := open_rows storeOpens_es23 storeOpens_fn101 storeOpens_ce101 rfl (by decide) (hval 1 23 _ rfl rfl) h1
    obtain ⟨l1, rfl, hok1⟩ := rows_of Rg.cells Rg.Ok (fun q hq => Rg.of_wf (hw1 q hq))
    rw [List.length_map] at hr1 hl1
    exact opens13_h hb0 hr1 hok1
theorem storeOpens_over : Rows.storeOpensRow.holds Tryz.pinned (OpenSpec.ofChange Rows.storeOpensSpec) :=
  OpenClaim.holds_of_wide 3 Tryz.f3 rfl rfl rfl rfl rfl rfl rfl ⟨rfl, rfl, rfl, rfl, rfl⟩ rfl rfl rfl rfl rfl (by kernel_rfl) Tryz.func3 (by kernel_rfl)
    (of_decide_eq_true (by kernel_rfl)) (by unfold Func.isWrapper; first | (rw [if_pos (by decide +kernel)]; kernel_rfl) | (rw [if_neg (by decide +kernel)]; exact ⟨rfl, rfl⟩))
    (fun os started H enc _ => storeOpens_lifted os started H enc)
/-- The statement. -/
theorem storeOpens_proved : Rows.StoreOpensSaid := storeOpens_over
#print axioms storeOpens_proved
end Go.Proofs.YtinkencbkcciiaaGreat
