/- The law StoreCompacts of layer 13 holds for every input: it returns true, and its arguments read as they did.
Conditions: none. -/
import Derived.Test.YtinkencbkcciiaaGreatRows
import Derived.Test.YtinkencbkcciiaaGreatLaw13d
import Derived.Test.YtinkencbkcciiaaGreatKB
import Derived.Test.YtinkencbkcciiaaGreatKD
import Derived.Test.YtinkencbkcciiaaGreatLA
import Derived.Test.YtinkencbkcciiaaGreatRA
import Derived.Test.YtinkencbkcciiaaGreatDE
namespace Go.Proofs.YtinkencbkcciiaaGreat
open Go Go.K Go.ChangeShapes Go.WideShapes Go.ChangeAt Go.RowKit
set_option linter.unusedVariables false
set_option maxRecDepth 100000
theorem storeCompacts_es41 : elemS Tryz.prog 41 = some (51,10) := by kernel_rfl
theorem storeCompacts_fn51 : flatN Tryz.prog 3 51 = some S13.tags := by kernel_rfl
theorem storeCompacts_ce51 : Tryz.prog.cellsOf 51 = 10 := by kernel_rfl
theorem storeCompacts_lifted (os : Os) (started : os.Started) (H : Type) (enc : TypeId × Value → H) : ReturnsInHanded {} Tryz.checked os 6 .any (Rows.storeCompactsSpec.pre6 enc Tryz.prog Tryz.f6 Rows.storeCompactsRow.domain false) (Rows.storeCompactsSpec.post enc Tryz.prog Tryz.f6 false true false false) := by
  refine law_lifted (C := Tryz.checked) (tb := 4) (by kernel_rfl) started (by kernel_rfl) Tryz.func6
    (ChangeSpec.witness6 (enc := enc) (C := Tryz.checked) false ⟨#[],#[.slice none 0 0],[]⟩ 8 (by kernel_rfl) (by kernel_rfl) (by kernel_rfl) (by kernel_rfl)) (by kernel_rfl) (by kernel_rfl) rfl rfl Tryz.underlying4 ?_ ?_
  · intro ds hd
    rw [Tryz.params6] at hd
    match ds,hd with
    | [_],_ => rfl
  · intro W base args ds ps hval hA
    rw [Tryz.params6] at hA hval
    obtain ⟨v0,vs0,d0,ds0,p0,q0,hargs,rfl,rfl,h0,r0⟩ := trodAll_cons hA
    obtain ⟨rfl,rfl,rfl⟩ := trodAll_nil r0
    obtain rfl : args = #[v0] := by cases args; simp_all
    obtain ⟨rows0,hr0,hl0,hw0⟩ := open_rows storeCompacts_es41 storeCompacts_fn51 storeCompacts_ce51 rfl (by decide) (hval 0 41 _ rfl rfl) h0
    obtain ⟨l0,rfl,hok0⟩ := rows_of S13.cells S13.Ok (fun q hq => S13.of_wf (hw0 q hq))
    rw [List.length_map] at hr0 hl0
    exact compacts13_h hr0 hl0 hok0
theorem storeCompacts_over : Rows.storeCompactsRow.holds Tryz.pinned (OpenSpec.ofChange Rows.storeCompactsSpec) :=
  OpenClaim.holds_of_wide 6 Tryz.f6 rfl rfl rfl rfl rfl rfl rfl ⟨rfl,rfl,rfl,rfl,rfl⟩ rfl rfl rfl rfl rfl (by kernel_rfl) Tryz.func6 (by kernel_rfl)
    (of_decide_eq_true (by kernel_rfl)) (by unfold Func.isWrapper; first | (rw [if_pos (by decide +kernel)]; kernel_rfl) | (rw [if_neg (by decide +kernel)]; exact ⟨rfl,rfl⟩))
    (fun os started H enc _ => storeCompacts_lifted os started H enc)
theorem storeCompacts_proved : Rows.StoreCompactsSaid := storeCompacts_over
#print axioms storeCompacts_proved
end Go.Proofs.YtinkencbkcciiaaGreat
