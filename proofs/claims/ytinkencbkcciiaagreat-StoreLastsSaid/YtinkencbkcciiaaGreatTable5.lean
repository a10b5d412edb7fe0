/- A table in one piece of memory: its contracts.
Conditions: as each theorem names them. -/
import Derived.Test.YtinkencbkcciiaaGreatProg
import Derived.Test.YtinkencbkcciiaaGreatTable3
import Derived.Test.YtinkencbkcciiaaGreatKF
import Derived.Test.YtinkencbkcciiaaGreatKG
import Derived.Test.YtinkencbkcciiaaGreatZG
set_option linter.unusedSimpArgs false
set_option linter.unusedVariables false
set_option maxRecDepth 4000
namespace Go.Proofs.YtinkencbkcciiaaGreat
open Go Go.K
attribute [local irreducible] Code.wp wpList Calls wpQuiet
theorem set_o {V : Vw} {l : List Le} {tx : Nat} {s : Sg} (hin : Le.In 149 l tx s) {q : Le} (hs : q.client.size ≤ 9223372036854775807) : Does Tryz.prog 55 [.pointer (some ⟨tx,0,none⟩),.agg q.cells.toArray] V [s] (fun v V' H' => V' = V ∧ v = .int .i64 (Le.setE l q).1 ∧ ∃ s2,Le.In 149 (Le.setE l q).2 tx s2 ∧ H' = [s2]) := by
  obtain ⟨hr,hlm,vm,sm,hm,rfl⟩ := hin
  exact (set_t hm hr hs).one.outcut fun v V' H' ⟨hV,hv,s2,h2,hH⟩ => ⟨[H'.flatten],one_piece H',hV,hv,_,⟨Le.setE_ris hr q,by rw [Le.setE_len]; exact hlm,_,s2,h2,by rw [hH]⟩,rfl⟩
theorem get_o {V : Vw} {l : List Le} {tx : Nat} {s : Sg} (hin : Le.In 149 l tx s) {a : Int} : Does Tryz.prog 34 [.pointer (some ⟨tx,0,none⟩),.int .u32 a] V [s] (Pv (.tuple #[.agg (Le.getE l a).1.cells.toArray,.int .i64 (Le.getE l a).2]) V [s]) := by
  obtain ⟨hr,hlm,vm,sm,hm,rfl⟩ := hin
  exact (get_t hm).one.outcut fun v V' H' ⟨hv,hV,hH⟩ => ⟨_,by rw [hH]; exact one_piece _,hv,hV,rfl⟩
theorem all_o {V : Vw} {l : List Le} {tx : Nat} {s : Sg} (hin : Le.In 149 l tx s) : Does Tryz.prog 28 [.pointer (some ⟨tx,0,none⟩)] V [s] (fun v V' H' => V' = V ∧ ∃ q,Ow 49 8 v (l).length ((l).flatMap Le.cells) q ∧ H' = [q,s]) := by
  obtain ⟨hr,hlm,vm,sm,hm,rfl⟩ := hin
  obtain ⟨bm,es,clock,rfl,rfl,hmi⟩ := hm
  exact ((tall_c hmi hr hlm).one.outcut (R' := fun v V' H' => ∃ q,_ ∧ H' = [q,_]) fun v V' H' ⟨hV,q,hO,hH⟩ => ⟨[q,_],by rw [hH]; exact two_piece q _,q,hO,rfl⟩).forget fun v V' H' _ h => ⟨rfl,h⟩
end Go.Proofs.YtinkencbkcciiaaGreat
