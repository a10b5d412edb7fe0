/- The law StoreAgain of layer 13 holds for every input: it returns true, and its arguments read as they did.
Conditions: none. -/
import Derived.Test.YtinkencbkcciiaaGreatRows
import Derived.Test.YtinkencbkcciiaaGreatLaw13f
import Derived.Test.YtinkencbkcciiaaGreatKB
import Derived.Test.YtinkencbkcciiaaGreatKD
import Derived.Test.YtinkencbkcciiaaGreatLA
import Derived.Test.YtinkencbkcciiaaGreatRA
import Derived.Test.YtinkencbkcciiaaGreatDE
namespace Go.Proofs.YtinkencbkcciiaaGreat
open Go Go.K Go.ChangeShapes Go.WideShapes Go.ChangeAt Go.RowKit
set_option linter.unusedVariables false
set_option maxRecDepth 100000
theorem storeAgain_es41 : elemS Tryz.prog 41 = some (51,10) := by kernel_rfl
theorem storeAgain_fn51 : flatN Tryz.prog 3 51 = some S13.tags := by kernel_rfl
theorem storeAgain_ce51 : Tryz.prog.cellsOf 51 = 10 := by kernel_rfl
theorem storeAgain_es23 : elemS Tryz.prog 23 = some (101,2) := by kernel_rfl
theorem storeAgain_fn101 : flatN Tryz.prog 3 101 = some Rg.tags := by kernel_rfl
theorem storeAgain_ce101 : Tryz.prog.cellsOf 101 = 2 := by kernel_rfl
theorem storeAgain_lifted (os : Os) (started : os.Started) (H : Type) (enc : TypeId × Value → H) : ReturnsInHanded {} Tryz.checked os 7 .any (Rows.storeAgainSpec.pre6 enc Tryz.prog Tryz.f7 Rows.storeAgainRow.domain false) (Rows.storeAgainSpec.post enc Tryz.prog Tryz.f7 false true false false) := by
  refine law_lifted (C := Tryz.checked) (tb := 4) (by kernel_rfl) started (by kernel_rfl) Tryz.func7
    (ChangeSpec.witness6 (enc := enc) (C := Tryz.checked) false ⟨#[],#[.slice none 0 0,.slice none 0 0],[]⟩ 8 (by kernel_rfl) (by kernel_rfl) (by kernel_rfl) (by kernel_rfl)) (by kernel_rfl) (by kernel_rfl) rfl rfl Tryz.underlying4 ?_ ?_
  · intro ds hd
    rw [Tryz.params7] at hd
    match ds,hd with
    | [_,_],_ => rfl
  · intro W base args ds ps hval hA
    rw [Tryz.params7] at hA hval
    obtain ⟨v0,vs0,d0,ds0,p0,q0,hargs,rfl,rfl,h0,r0⟩ := trodAll_cons hA
    obtain ⟨v1,vs1,d1,ds1,p1,q1,rfl,rfl,rfl,h1,r1⟩ := trodAll_cons r0
    obtain ⟨rfl,rfl,rfl⟩ := trodAll_nil r1
    obtain rfl : args = #[v0,v1] := by cases args; simp_all
    obtain ⟨rows0,hr0,hl0,hw0⟩ := open_rows storeAgain_es41 storeAgain_fn51 storeAgain_ce51 rfl (by decide) (hval 0 41 _ rfl rfl) h0
    obtain ⟨l0,rfl,hok0⟩ := rows_of S13.cells S13.Ok (fun q hq => S13.of_wf (hw0 q hq))
    rw [List.length_map] at hr0 hl0
    obtain ⟨rows1,hr1,hl1,hw1⟩ := open_rows storeAgain_es23 storeAgain_fn101 storeAgain_ce101 rfl (by decide) (hval 1 23 _ rfl rfl) h1
    obtain ⟨l1,rfl,hok1⟩ := rows_of Rg.cells Rg.Ok (fun q hq => Rg.of_wf (hw1 q hq))
    rw [List.length_map] at hr1 hl1
    exact again13_h hr0 hl0 hok0 hr1 hok1
theorem storeAgain_over : Rows.storeAgainRow.holds Tryz.pinned (OpenSpec.ofChange Rows.storeAgainSpec) :=
  OpenClaim.holds_of_wide 7 Tryz.f7 rfl rfl rfl rfl rfl rfl rfl ⟨rfl,rfl,rfl,rfl,rfl⟩ rfl rfl rfl rfl rfl (by kernel_rfl) Tryz.func7 (by kernel_rfl)
    (of_decide_eq_true (by kernel_rfl)) (by unfold Func.isWrapper; first | (rw [if_pos (by decide +kernel)]; kernel_rfl) | (rw [if_neg (by decide +kernel)]; exact ⟨rfl,rfl⟩))
    (fun os started H enc _ => storeAgain_lifted os started H enc)
theorem storeAgain_proved : Rows.StoreAgainSaid := storeAgain_over
#print axioms storeAgain_proved
end Go.Proofs.YtinkencbkcciiaaGreat
