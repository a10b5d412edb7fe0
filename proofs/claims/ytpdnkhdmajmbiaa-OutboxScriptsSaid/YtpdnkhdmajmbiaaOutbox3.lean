/- Boxes of messages: Len.
Conditions: as each theorem names them. -/
import Derived.Test.YtpdnkhdmajmbiaaProg
import Derived.Test.YtpdnkhdmajmbiaaBA
import Derived.Test.YtpdnkhdmajmbiaaOutbox
import Derived.Test.YtpdnkhdmajmbiaaKC
import Derived.Test.YtpdnkhdmajmbiaaZG
set_option linter.unusedSimpArgs false
set_option linter.unusedVariables false
set_option maxRecDepth 4000
namespace Go.Proofs.Ytpdnkhdmajmbiaa
open Go Go.K
attribute [local irreducible] Code.wp wpList Calls wpQuiet
theorem Outbox3_fo99_1 : fieldOff Try.prog 99 1 = some 1 := by kernel_rfl
theorem Outbox3_ts54 : scal Try.prog 54 = true := by kernel_rfl
theorem Outbox3_mt54 : mapT Try.prog 54 = some (.u32, 30, 3) := by kernel_rfl
theorem Outbox3_fo99_2 : fieldOff Try.prog 99 2 = some 2 := by kernel_rfl
theorem Outbox3_ts97 : scal Try.prog 97 = true := by kernel_rfl
theorem Outbox3_mt97 : mapT Try.prog 97 = some (.u32, 30, 35) := by kernel_rfl
theorem Outbox3_zo3 : zeroOf Try.prog 3 = some (.int .i64 0) := by kernel_rfl

theorem len_c {V : Vw} {o : Ob} {bx bm clock : Nat} {es : Array MapEntry} {vo vf : Value} {so sf : Sg} (hmf : Om .u32 vf o.mf sf) (hmi : MapIs .u32 o.mw es clock) (hb1 : o.outs.length ≤ 1073741824) (hb2 : o.mw.length ≤ 4294967296)  : Does Try.prog 26 [.pointer (some ⟨bx, 0, none⟩)] V [[(bx, .cells #[vo, vf, .map (some bm), .int .i64 o.last] 99 (0, 0))], so, sf, [(bm, .map es clock)], Ob.sg 105 o] (Pv (.int .i64 ((o.len : Nat) : Int)) V [[(bx, .cells #[vo, vf, .map (some bm), .int .i64 o.last] 99 (0, 0))], so, sf, [(bm, .map es clock)], Ob.sg 105 o]) := by
 refine Does.intro Try.func26 rfl rfl (le rfl) (fun B => ?_)
 refine Zs<|Zr<|Za Z<|Ze<|Zg<|Zs<|Zr<|Zm Z<|Zv (Y.nilCheck Z)<|Zv (Y.fieldAddr Z Outbox3_fo99_1)<|Zv (Y.load Z Outbox3_ts54 (Kn.at 0 Z) Z)<|Zv (Y.lenMap Z Outbox3_mt54 hmf (j := 2) Z)<|Za Z<|Ze<|Zg<|Zs<|?_
 refine Zs<|Zr<|Zm Z<|Zv (Y.nilCheck Z)<|Zv (Y.fieldAddr Z Outbox3_fo99_2)<|Zv (Y.load Z Outbox3_ts97 (Kn.at 0 Z) Z)<|?_
 refine Run.rangeMap (kk := .u32) (l := o.mw) (j := 3) rfl Outbox3_mt97 rfl (lt rfl) (fun vi si hit => ?_)
 refine Ze<|Zg<|Zb<|?_
 refine ZL (X := Sg × List (Int × Value)) (fun z0 => V) (fun z0 => [z0.1, [(bx, .cells #[vo, vf, .map (some bm), .int .i64 o.last] 99 (0, 0))], so, sf, [(bm, .map es clock)], Ob.sg 105 o]) (fun z0 => [(0, .pointer (some ⟨bx, 0, none⟩)), (3, .int .i64 ((o.mf.length + z0.2.countP o.idle : Nat) : Int)), (16, vi)]) (fun z0 => It bm es clock o.mw z0.2 vi z0.1) (fun z0 => o.mw.length - z0.2.length) (⟨si, []⟩ : Sg × List (Int × Value)) hit ?_
 rintro ⟨s1, ds⟩ hit1
 try dsimp only at hit1 ⊢
 have hml := Ob.mf_len o
 have hfw := hit1.few
 have hcl := Ob.idle_le o ds
 refine Zs<|Zr<|?_
 refine Run.nextMap (j := 4) (j2 := 0) rfl hmi rfl hit1 rfl (lt rfl) (fun hdone => ?_) (fun kx ux s2 hin hfew hit2 hat => ?_)
 ·refine Zv (Y.extract Z Z)<|Ze<|Zg<|Zs<|Tr.cond_f Z Z<|Zx<|Zy<|Zy<|Zi<|Zg<|Zs<|Zr<|Zm Z<|Za Z<|Ze<|Zg<|?_
  refine Zu<|Ex.drop<|?_
  exact Ex.ret1 rfl rfl  ⟨congrArg (fun z : Nat => Value.int _ (z : Int)) (by unfold Ob.len; rw [Ob.mf_len, hdone.countP_eq]), rfl, rfl⟩
 ·refine Zv (Y.extract Z Z)<|Ze<|Zg<|Zs<|Tr.cond_t Z Z<|Zt<|Zg<|Zb<|Zs<|Zr<|?_
  rcases hbz : o.busy kx with _ | xz
  ·refine Zv (Y.entry (j := 4) (j2 := 0) Z hmi Z hat Z)<|Zv (Y.extract Z Z)<|Za Z<|Ze<|Zg<|Zs<|Zr<|Zm Z<|Zv (Y.nilCheck Z)<|Zv (Y.fieldAddr Z Outbox3_fo99_1)<|Zv (Y.load Z Outbox3_ts54 (Kn.at 1 Z) Z)<|Zm Z<|Zv (Y.lookup (r := .tuple #[.int .i64 0, .bool false]) Z Z Outbox3_mt54 Outbox3_zo3 hmf (j := 3) rfl (by rw [Ob.mf_get, hbz]; rfl))<|Zm Z<|Zv (Y.extract Z Z)<|Zv (Y.extract Z Z)<|?_
   refine Za Z<|Za Z<|Ze<|Zg<|Zs<|Zr<|Zm Z<|Zv (Y.not Z)<|Ze<|Zg<|Tr.cond_t Z Z<|Zr<|Zm Z<|Zv (Y.add Z Z W)<|Za Z<|Ze<|?_
   refine Zc ?_
   have ec := Ob.idle_snoc o ds kx ux
   rw [hbz] at ec
   exact ZR (⟨s2, ds ++ [(kx, ux)]⟩ : Sg × List (Int × Value)) hit2 (by dsimp only; rw [List.length_append, List.length_singleton]; omega) (by repeat (first | exact subB_nil _ | refine subB_cons (by first | rfl | exact congrArg (fun z => some (Value.int _ z)) W | exact congrArg (fun z => some (Value.int _ z)) (by (try dsimp only); simp only [Option.isNone_none, Option.isNone_some, if_true, Bool.false_eq_true, if_false] at ec; omega)) ?_))
  ·refine Zv (Y.entry (j := 4) (j2 := 0) Z hmi Z hat Z)<|Zv (Y.extract Z Z)<|Za Z<|Ze<|Zg<|Zs<|Zr<|Zm Z<|Zv (Y.nilCheck Z)<|Zv (Y.fieldAddr Z Outbox3_fo99_1)<|Zv (Y.load Z Outbox3_ts54 (Kn.at 1 Z) Z)<|Zm Z<|Zv (Y.lookup (r := .tuple #[.int .i64 xz.xid, .bool true]) Z Z Outbox3_mt54 Outbox3_zo3 hmf (j := 3) rfl (by rw [Ob.mf_get, hbz]; rfl))<|Zm Z<|Zv (Y.extract Z Z)<|Zv (Y.extract Z Z)<|?_
   refine Za Z<|Za Z<|Ze<|Zg<|Zs<|Zr<|Zm Z<|Zv (Y.not Z)<|Ze<|Zg<|Tr.cond_f Z Z<|Zt<|Zc<|?_
   have ec := Ob.idle_snoc o ds kx ux
   rw [hbz] at ec
   exact ZR (⟨s2, ds ++ [(kx, ux)]⟩ : Sg × List (Int × Value)) hit2 (by dsimp only; rw [List.length_append, List.length_singleton]; omega) (by repeat (first | exact subB_nil _ | refine subB_cons (by first | rfl | exact congrArg (fun z => some (Value.int _ z)) W | exact congrArg (fun z => some (Value.int _ z)) (by (try dsimp only); simp only [Option.isNone_none, Option.isNone_some, if_true, Bool.false_eq_true, if_false] at ec; omega)) ?_))
end Go.Proofs.Ytpdnkhdmajmbiaa
