/- The library's sort at numbers of 32 bits, walked.
Conditions: as each theorem names them. -/
import Derived.Test.YtinkencbkcciiaaGreatProg
import Derived.Test.YtinkencbkcciiaaGreatSA
import Derived.Test.YtinkencbkcciiaaGreatZG
set_option linter.unusedSimpArgs false
set_option linter.unusedVariables false
set_option maxRecDepth 4000
namespace Go.Proofs.YtinkencbkcciiaaGreat
open Go Go.K
attribute [local irreducible] Code.wp wpList Calls wpQuiet
open Go.Sort
theorem isnan_u0 {m : Int} {V : Vw} : Does Tryz.prog 229 [.int .u32 m] V [] (Pv (.bool false) V []) := by
 refine Does.intro Tryz.func229 rfl rfl (le rfl) (fun B => ?_)
 refine Zs<|Zr<|Za Z<|Ze<|Zg<|Zs<|Zr<|Zm Z<|Zm Z<|Zv (Y.int Z Z Z)<|Za Z<|Ze<|Zg<|Zu<|?_
 exact Ex.ret1 rfl rfl  ⟨by simp,rfl,rfl⟩
theorem isnan_u0_h {m : Int} {V : Vw} {H : Hp} : Does Tryz.prog 229 [.int .u32 m] V H (Pv (.bool false) V H) := isnan_u0.frame
end Go.Proofs.YtinkencbkcciiaaGreat
