/- Boxes of messages: Last, and what a law puts.
Conditions: as each theorem names them. -/
import Derived.Test.YtpdnkhdmajmbiaaProg
import Derived.Test.YtpdnkhdmajmbiaaBA
import Derived.Test.YtpdnkhdmajmbiaaOutbox
import Derived.Test.YtpdnkhdmajmbiaaRB
import Derived.Test.YtpdnkhdmajmbiaaZG
set_option linter.unusedSimpArgs false
set_option linter.unusedVariables false
set_option maxRecDepth 4000
namespace Go.Proofs.Ytpdnkhdmajmbiaa
open Go Go.K
attribute [local irreducible] Code.wp wpList Calls wpQuiet
theorem Outbox2_fo99_3 : fieldOff Try.prog 99 3 = some 3 := by kernel_rfl
theorem Outbox2_ts3 : scal Try.prog 3 = true := by kernel_rfl
theorem Outbox2_zo35 : zeroOf Try.prog 35 = some (.agg #[.int .i64 0, .int .i64 0, .int .i64 0, .int .i64 0, .int .i64 0, .int .u32 0, .int .i64 0, .string ⟨#[]⟩, .int .i64 0, .int .i64 0, .bool false]) := by kernel_rfl
theorem Outbox2_pl35 : placesS Try.prog 35 = some [(0, 1), (1, 1), (2, 1), (3, 1), (4, 1), (5, 1), (6, 1), (7, 1), (8, 1), (9, 1), (10, 1)] := by kernel_rfl
theorem Outbox2_sz35 : sizeT Try.prog 35 = some 11 := by kernel_rfl
theorem Outbox2_ag35 : aggsz Try.prog 35 = some 11 := by kernel_rfl

theorem last_c {V : Vw} {H : Hp} {n : Int} {bx : Nat} {vo vf vw : Value}  : Does Try.prog 19 [.pointer (some ⟨bx, 0, none⟩)] V ([(bx, .cells #[vo, vf, vw, .int .i64 n] 99 (0, 0))] :: H) (Pv (.int .i64 n) V ([(bx, .cells #[vo, vf, vw, .int .i64 n] 99 (0, 0))] :: H)) := by
 refine Does.intro Try.func19 rfl rfl (le rfl) (fun B => ?_)
 refine Zs<|Zr<|Za Z<|Ze<|Zg<|Zs<|Zr<|Zm Z<|Zv (Y.nilCheck Z)<|Zv (Y.fieldAddr Z Outbox2_fo99_3)<|Zv (Y.load Z Outbox2_ts3 (Kn.at 0 Z) Z)<|Za Z<|Ze<|Zg<|Zu<|?_
 exact Ex.ret1 rfl rfl  ⟨rfl, rfl, rfl⟩

theorem update_c {V : Vw} {a p : Int}  : Does Try.prog 16 [.int .u32 a, .int .i64 p] V [] (Pv (.agg #[.int .i64 2, .int .i64 0, .int .i64 0, .int .i64 0, .int .i64 0, .int .u32 a, .int .i64 2, .string ⟨#[97]⟩, .int .i64 (p % 65536), .int .i64 0, .bool false]) V []) := by
 refine Does.intro Try.func16 rfl rfl (le rfl) (fun B => ?_)
 refine Zs<|Zr<|?_
 refine Run.alloc Outbox2_zo35 (lt rfl) (fun b1 => ?_)
 refine Ze<|Zg<|Zs<|Zr<|Zm Z<|Zm Z<|Zv (Y.int (r := .int .i64 (p % 65536)) rfl rfl (by simp only [intRes]; rw [and_low2 p 65535 65536 16 WD rfl rfl]))<|Zv (Y.buildS (l := [(0, .const (.int .i64 2)), (5, .tmp 5), (6, .const (.int .i64 2)), (7, .const (.string ⟨#[97]⟩)), (8, .tmp 7)]) Outbox2_zo35 Outbox2_pl35 Z Z)<|Run.store (s := [(b1, .cells #[.int .i64 2, .int .i64 0, .int .i64 0, .int .i64 0, .int .i64 0, .int .u32 a, .int .i64 2, .string ⟨#[97]⟩, .int .i64 (p % 65536), .int .i64 0, .bool false] 35 (0, 0))]) Z Z Outbox2_sz35 (i := 0) Z Z (le Z) Z Z<|?_
 refine Ze<|Zg<|Zu<|?_
 exact Ex.retCell [] rfl rfl Outbox2_ag35 (Kn.at 0 rfl) rfl ⟨rfl, rfl, rfl⟩

theorem update_h {a p : Int} {V : Vw} {H : Hp} : Does Try.prog 16 [.int .u32 a, .int .i64 p] V H (Pv (.agg (Ob.upd a p).cells) V H) := update_c.frame
end Go.Proofs.Ytpdnkhdmajmbiaa
