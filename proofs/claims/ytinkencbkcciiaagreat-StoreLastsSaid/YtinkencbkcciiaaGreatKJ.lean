/- Regions in any order: what stands behind a test that is passed may be taken first, too.
Conditions: as each theorem names them; no program in sight. -/
import Derived.Test.YtinkencbkcciiaaGreatKA
import Derived.Test.YtinkencbkcciiaaGreatKB
set_option linter.unusedSimpArgs false
set_option linter.unusedVariables false
set_option linter.unusedSectionVars false
namespace Go.K
section
variable {C : Cx} {V : Vw} {H : Hp} {L : Sl} {Q : Exit → Act → World → Prop} {ops : Array Oper} {os : List Oper}
variable {ty : TypeId} {pos : String} {aft : Array Edge} {d : Nat} {S0 : Sg}
end
end Go.K
