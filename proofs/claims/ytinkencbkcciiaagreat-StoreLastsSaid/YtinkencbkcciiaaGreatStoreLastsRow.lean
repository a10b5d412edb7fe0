/- The law StoreLasts of layer 13 holds for every input: it returns true, and its arguments read as they did.
Conditions: none. -/
import Derived.Test.YtinkencbkcciiaaGreatRows
import Derived.Test.YtinkencbkcciiaaGreatLaw13e
import Derived.Test.YtinkencbkcciiaaGreatKB
import Derived.Test.YtinkencbkcciiaaGreatKD
import Derived.Test.YtinkencbkcciiaaGreatLA
import Derived.Test.YtinkencbkcciiaaGreatRA
import Derived.Test.YtinkencbkcciiaaGreatDE
namespace Go.Proofs.YtinkencbkcciiaaGreat
open Go Go.K Go.ChangeShapes Go.WideShapes Go.ChangeAt Go.RowKit
set_option linter.unusedVariables false
set_option maxRecDepth 100000
theorem storeLasts_es41 : elemS Tryz.prog 41 = some (51,10) := by kernel_rfl
theorem storeLasts_fn51 : flatN Tryz.prog 3 51 = some S13.tags := by kernel_rfl
theorem storeLasts_ce51 : Tryz.prog.cellsOf 51 = 10 := by kernel_rfl
theorem storeLasts_tg3 : tagOf Tryz.prog 3 = some (0,.i64) := by kernel_rfl
theorem storeLasts_lifted (os : Os) (started : os.Started) (H : Type) (enc : TypeId × Value → H) : ReturnsInHanded {} Tryz.checked os 5 .any (Rows.storeLastsSpec.pre6 enc Tryz.prog Tryz.f5 Rows.storeLastsRow.domain false) (Rows.storeLastsSpec.post enc Tryz.prog Tryz.f5 false true false false) := by
  refine law_lifted (C := Tryz.checked) (tb := 4) (by kernel_rfl) started (by kernel_rfl) Tryz.func5
    (ChangeSpec.witness6 (enc := enc) (C := Tryz.checked) false ⟨#[],#[.slice none 0 0,.int .i64 0],[]⟩ 8 (by kernel_rfl) (by kernel_rfl) (by kernel_rfl) (by kernel_rfl)) (by kernel_rfl) (by kernel_rfl) rfl rfl Tryz.underlying4 ?_ ?_
  · intro ds hd
    rw [Tryz.params5] at hd
    match ds,hd with
    | [_,_],_ => rfl
  · intro W base args ds ps hval hA
    rw [Tryz.params5] at hA hval
    obtain ⟨v0,vs0,d0,ds0,p0,q0,hargs,rfl,rfl,h0,r0⟩ := trodAll_cons hA
    obtain ⟨v1,vs1,d1,ds1,p1,q1,rfl,rfl,rfl,h1,r1⟩ := trodAll_cons r0
    obtain ⟨rfl,rfl,rfl⟩ := trodAll_nil r1
    obtain rfl : args = #[v0,v1] := by cases args; simp_all
    obtain ⟨rows0,hr0,hl0,hw0⟩ := open_rows storeLasts_es41 storeLasts_fn51 storeLasts_ce51 rfl (by decide) (hval 0 41 _ rfl rfl) h0
    obtain ⟨l0,rfl,hok0⟩ := rows_of S13.cells S13.Ok (fun q hq => S13.of_wf (hw0 q hq))
    rw [List.length_map] at hr0 hl0
    obtain ⟨n1,rfl,hn1⟩ := open_i64 storeLasts_tg3 h1 (hval 1 3 _ rfl rfl)
    exact lasts13_h hr0 hl0 hok0
theorem storeLasts_over : Rows.storeLastsRow.holds Tryz.pinned (OpenSpec.ofChange Rows.storeLastsSpec) :=
  OpenClaim.holds_of_wide 5 Tryz.f5 rfl rfl rfl rfl rfl rfl rfl ⟨rfl,rfl,rfl,rfl,rfl⟩ rfl rfl rfl rfl rfl (by kernel_rfl) Tryz.func5 (by kernel_rfl)
    (of_decide_eq_true (by kernel_rfl)) (by unfold Func.isWrapper; first | (rw [if_pos (by decide +kernel)]; kernel_rfl) | (rw [if_neg (by decide +kernel)]; exact ⟨rfl,rfl⟩))
    (fun os started H enc _ => storeLasts_lifted os started H enc)
theorem storeLasts_proved : Rows.StoreLastsSaid := storeLasts_over
#print axioms storeLasts_proved
end Go.Proofs.YtinkencbkcciiaaGreat
