/- The law ClientMeets of layer 24 holds for every input: it returns true, and its arguments read as they did.
Conditions: none. -/
import Derived.Test.YtfgblingojgafaaGreatRows
import Derived.Test.YtfgblingojgafaaGreatLaw24d
namespace Go.Proofs.YtfgblingojgafaaGreat
open Go Go.K Go.ChangeShapes Go.WideShapes Go.ChangeAt Go.RowKit
set_option linter.unusedVariables false
set_option maxRecDepth 100000
theorem clientMeets_tg9 : tagOf Tryz.prog 9 = some (2,.i64) := by kernel_rfl
theorem clientMeets_tg3 : tagOf Tryz.prog 3 = some (0,.i64) := by kernel_rfl
theorem clientMeets_lifted (os : Os) (started : os.Started) (H : Type) (enc : TypeId × Value → H) : ReturnsInHanded {} Tryz.checked os 8 .any (Rows.clientMeetsSpec.pre6 enc Tryz.prog Tryz.f8 Rows.clientMeetsRow.domain false) (Rows.clientMeetsSpec.post enc Tryz.prog Tryz.f8 false true false false) := by
  refine law_lifted (C := Tryz.checked) (tb := 4) (by kernel_rfl) started (by kernel_rfl) Tryz.func8
    (ChangeSpec.witness6 (enc := enc) (C := Tryz.checked) false ⟨#[],#[.string ⟨#[]⟩,.int .i64 0,.int .i64 0],[]⟩ 8 (by kernel_rfl) (by kernel_rfl) (by kernel_rfl) (by kernel_rfl)) (by kernel_rfl) (by kernel_rfl) rfl rfl Tryz.underlying4 ?_ ?_
  · intro ds hd
    rw [Tryz.params8] at hd
    match ds,hd with
    | [_,_,_],_ => rfl
  · intro W base args ds ps hval hA
    rw [Tryz.params8] at hA hval
    obtain ⟨v0,vs0,d0,ds0,p0,q0,hargs,rfl,rfl,h0,r0⟩ := trodAll_cons hA
    obtain ⟨v1,vs1,d1,ds1,p1,q1,rfl,rfl,rfl,h1,r1⟩ := trodAll_cons r0
    obtain ⟨v2,vs2,d2,ds2,p2,q2,rfl,rfl,rfl,h2,r2⟩ := trodAll_cons r1
    obtain ⟨rfl,rfl,rfl⟩ := trodAll_nil r2
    obtain rfl : args = #[v0,v1,v2] := by cases args; simp_all
    obtain ⟨s0,rfl,hz0⟩ := open_str clientMeets_tg9 h0 (hval 0 9 _ rfl rfl)
    obtain ⟨n1,rfl,hn1⟩ := open_i64 clientMeets_tg3 h1 (hval 1 3 _ rfl rfl)
    obtain ⟨n2,rfl,hn2⟩ := open_i64 clientMeets_tg3 h2 (hval 2 3 _ rfl rfl)
    exact meets24_c
theorem clientMeets_over : Rows.clientMeetsRow.holds Tryz.pinned (OpenSpec.ofChange Rows.clientMeetsSpec) :=
  OpenClaim.holds_of_wide 8 Tryz.f8 rfl rfl rfl rfl rfl rfl rfl ⟨rfl,rfl,rfl,rfl,rfl⟩ rfl rfl rfl rfl rfl (by kernel_rfl) Tryz.func8 (by kernel_rfl)
    (of_decide_eq_true (by kernel_rfl)) (by unfold Func.isWrapper; first | (rw [if_pos (by decide +kernel)]; kernel_rfl) | (rw [if_neg (by decide +kernel)]; exact ⟨rfl,rfl⟩))
    (fun os started H enc _ => clientMeets_lifted os started H enc)
theorem clientMeets_proved : Rows.ClientMeetsSaid := clientMeets_over
#print axioms clientMeets_proved
end Go.Proofs.YtfgblingojgafaaGreat
