/- The law EngineAnswers of layer 20 holds for every input: it returns true, and its arguments read as they did.
Conditions: none. -/
import Derived.Test.YtfgblingojgafaaGreatRows
import Derived.Test.YtfgblingojgafaaGreatLaw20a
import Derived.Test.YtfgblingojgafaaGreatFx
import Derived.Test.YtfgblingojgafaaGreatSA
import Derived.Test.YtfgblingojgafaaGreatKD
import Derived.Test.YtfgblingojgafaaGreatRA
namespace Go.Proofs.YtfgblingojgafaaGreat
open Go Go.K Go.ChangeShapes Go.WideShapes Go.ChangeAt Go.RowKit
set_option linter.unusedVariables false
set_option maxRecDepth 100000
theorem engineAnswers_st35 : strucT Tryz.prog 35 = true := by kernel_rfl
theorem engineAnswers_sh35 : shN Tryz.prog 4 35 = some (siteSh 66) := by kernel_rfl
theorem engineAnswers_rg : flatN Tryz.prog 3 66 = some Rg.tags := by kernel_rfl
theorem engineAnswers_es22 : elemS Tryz.prog 22 = some (43,8) := by kernel_rfl
theorem engineAnswers_fn43 : flatN Tryz.prog 3 43 = some Le.tags := by kernel_rfl
theorem engineAnswers_ce43 : Tryz.prog.cellsOf 43 = 8 := by kernel_rfl
theorem engineAnswers_st30 : strucT Tryz.prog 30 = true := by kernel_rfl
theorem engineAnswers_sh30 : shN Tryz.prog 4 30 = some (caseSh 5 81) := by kernel_rfl
theorem engineAnswers_t8 : tagOf Tryz.prog 5 = some (0,.u8) := by kernel_rfl
theorem engineAnswers_so : shN Tryz.prog 2 81 = some [i64g,.sl 5 1] := by kernel_rfl
theorem engineAnswers_lifted (os : Os) (started : os.Started) (H : Type) (enc : TypeId × Value → H) : ReturnsInHanded {} Tryz.checked os 7 .any (Rows.engineAnswersSpec.pre6 enc Tryz.prog Tryz.f7 Rows.engineAnswersRow.domain false) (Rows.engineAnswersSpec.post enc Tryz.prog Tryz.f7 false true false false) := by
  refine law_lifted (C := Tryz.checked) (tb := 4) (by kernel_rfl) started (by kernel_rfl) Tryz.func7
    (ChangeSpec.witness6 (enc := enc) (C := Tryz.checked) false ⟨#[],#[.agg #[.int .i64 0,.int .i64 0,.int .i64 0,.int .u32 0,.int .i64 0,.int .i64 0,.int .i64 0,.float .f64 0,.float .f64 0,.float .f64 0,.float .f64 0,.slice none 0 0,.int .i64 0],.slice none 0 0,.agg #[.int .i64 0,.int .i64 0,.int .i64 0,.int .i64 0,.int .u32 0,.int .i64 0,.int .i64 0,.int .u32 0,.int .u32 0,.int .u32 0,.int .u32 0,.slice none 0 0,.slice none 0 0]],[]⟩ 8 (by kernel_rfl) (by kernel_rfl) (by kernel_rfl) (by kernel_rfl)) (by kernel_rfl) (by kernel_rfl) rfl rfl Tryz.underlying4 ?_ ?_
  · intro ds hd
    rw [Tryz.params7] at hd
    match ds,hd with
    | [_,_,_],_ => rfl
  · intro W base args ds ps hval hA
    rw [Tryz.params7] at hA hval
    obtain ⟨v0,vs0,d0,ds0,p0,q0,hargs,rfl,rfl,h0,r0⟩ := trodAll_cons hA
    obtain ⟨v1,vs1,d1,ds1,p1,q1,rfl,rfl,rfl,h1,r1⟩ := trodAll_cons r0
    obtain ⟨v2,vs2,d2,ds2,p2,q2,rfl,rfl,rfl,h2,r2⟩ := trodAll_cons r1
    obtain ⟨rfl,rfl,rfl⟩ := trodAll_nil r2
    obtain rfl : args = #[v0,v1,v2] := by cases args; simp_all
    obtain ⟨x0,pv0,rfl,hpv0,hpk0,hsv0⟩ := open_site engineAnswers_st35 engineAnswers_sh35 engineAnswers_rg (hval 0 35 _ rfl rfl) h0
    obtain ⟨rows1,hr1,hl1,hw1⟩ := open_rows engineAnswers_es22 engineAnswers_fn43 engineAnswers_ce43 rfl (by decide) (hval 1 22 _ rfl rfl) h1
    obtain ⟨l1,rfl,hok1⟩ := rows_of Le.cells Le.Ok (fun q hq => Le.of_wf (hw1 q hq))
    rw [List.length_map] at hr1 hl1
    obtain ⟨c2,rfl,hco2⟩ := open_case engineAnswers_st30 engineAnswers_sh30 engineAnswers_t8 engineAnswers_so (hval 2 30 _ rfl rfl) h2
    exact answers20_h hpv0 hpk0 hsv0 hr1 hok1 hl1 hco2
theorem engineAnswers_over : Rows.engineAnswersRow.holds Tryz.pinned (OpenSpec.ofChange Rows.engineAnswersSpec) :=
  OpenClaim.holds_of_wide 7 Tryz.f7 rfl rfl rfl rfl rfl rfl rfl ⟨rfl,rfl,rfl,rfl,rfl⟩ rfl rfl rfl rfl rfl (by kernel_rfl) Tryz.func7 (by kernel_rfl)
    (of_decide_eq_true (by kernel_rfl)) (by unfold Func.isWrapper; first | (rw [if_pos (by decide +kernel)]; kernel_rfl) | (rw [if_neg (by decide +kernel)]; exact ⟨rfl,rfl⟩))
    (fun os started H enc _ => engineAnswers_lifted os started H enc)
theorem engineAnswers_proved : Rows.EngineAnswersSaid := engineAnswers_over
#print axioms engineAnswers_proved
end Go.Proofs.YtfgblingojgafaaGreat
