/- Boxes of messages: Clear, Busy; as one piece of memory.
Conditions: as each theorem names them. -/
import Derived.Test.YtpdnkhdmajmbiaaProg
import Derived.Test.YtpdnkhdmajmbiaaOutbox5
import Derived.Test.YtpdnkhdmajmbiaaOutbox2
import Derived.Test.YtpdnkhdmajmbiaaOutbox3
import Derived.Test.YtpdnkhdmajmbiaaBA
import Derived.Test.YtpdnkhdmajmbiaaZG
set_option linter.unusedSimpArgs false
set_option linter.unusedVariables false
set_option maxRecDepth 4000
namespace Go.Proofs.Ytpdnkhdmajmbiaa
open Go Go.K
attribute [local irreducible] Code.wp wpList Calls wpQuiet
theorem Outbox6_fo99_0 : fieldOff Try.prog 99 0 = some 0 := by kernel_rfl
theorem Outbox6_ts96 : scal Try.prog 96 = true := by kernel_rfl
theorem Outbox6_mt96 : mapT Try.prog 96 = some (.i64, 3, 102) := by kernel_rfl
theorem Outbox6_fo99_1 : fieldOff Try.prog 99 1 = some 1 := by kernel_rfl
theorem Outbox6_ts54 : scal Try.prog 54 = true := by kernel_rfl
theorem Outbox6_mt54 : mapT Try.prog 54 = some (.u32, 30, 3) := by kernel_rfl
theorem Outbox6_fo99_2 : fieldOff Try.prog 99 2 = some 2 := by kernel_rfl
theorem Outbox6_ts97 : scal Try.prog 97 = true := by kernel_rfl
theorem Outbox6_mt97 : mapT Try.prog 97 = some (.u32, 30, 35) := by kernel_rfl
theorem Outbox6_zo3 : zeroOf Try.prog 3 = some (.int .i64 0) := by kernel_rfl
theorem Outbox6_zo35 : zeroOf Try.prog 35 = some (.agg #[.int .i64 0, .int .i64 0, .int .i64 0, .int .i64 0, .int .i64 0, .int .u32 0, .int .i64 0, .string ⟨#[]⟩, .int .i64 0, .int .i64 0, .bool false]) := by kernel_rfl
theorem Outbox6_sz35 : sizeT Try.prog 35 = some 11 := by kernel_rfl

theorem clear_c {V : Vw} {o : Ob} {bx : Nat} {vo vf vw : Value} {so sf sw : Sg} (hmo : Om .i64 vo o.mout so) (hmf : Om .u32 vf o.mf sf) (hmw : Om .u32 vw o.mw sw)  : Does Try.prog 32 [.pointer (some ⟨bx, 0, none⟩)] V [[(bx, .cells #[vo, vf, vw, .int .i64 o.last] 99 (0, 0))], so, sf, sw, Ob.sg 105 o] (fun _ V' H' => V' = V ∧ Ob.Is 105 99 o.clear bx H') := by
 refine Does.intro Try.func32 rfl rfl (le rfl) (fun B => ?_)
 refine Zs<|Zr<|Zm Z<|Zv (Y.nilCheck Z)<|Zv (Y.fieldAddr Z Outbox6_fo99_0)<|Zv (Y.load Z Outbox6_ts96 (Kn.at 0 Z) Z)<|?_
 refine Run.mapClear0 1 rfl Outbox6_mt96 hmo rfl (fun s1 hm2 => ?_)
 refine Run.heapTo (H' := [[(bx, .cells #[vo, vf, vw, .int .i64 o.last] 99 (0, 0))], s1, sf, sw, Ob.sg 105 o]) Z<|Ze<|Zg<|Zs<|Zr<|Zm Z<|Zv (Y.nilCheck Z)<|Zv (Y.fieldAddr Z Outbox6_fo99_1)<|Zv (Y.load Z Outbox6_ts54 (Kn.at 0 Z) Z)<|?_
 refine Run.mapClear0 2 rfl Outbox6_mt54 hmf rfl (fun s3 hm4 => ?_)
 refine Run.heapTo (H' := [[(bx, .cells #[vo, vf, vw, .int .i64 o.last] 99 (0, 0))], s1, s3, sw, Ob.sg 105 o]) Z<|Ze<|Zg<|Zr<|Zm Z<|Zv (Y.nilCheck Z)<|Zv (Y.fieldAddr Z Outbox6_fo99_2)<|Zv (Y.load Z Outbox6_ts97 (Kn.at 0 Z) Z)<|?_
 refine Run.mapClear0 3 rfl Outbox6_mt97 hmw rfl (fun s5 hm6 => ?_)
 refine Run.heapTo (H' := [[(bx, .cells #[vo, vf, vw, .int .i64 o.last] 99 (0, 0))], s1, s3, s5, Ob.sg 105 o]) Z<|Ze<|Ex.keepTo (H' := [[(bx, .cells #[vo, vf, vw, .int .i64 o.last] 99 (0, 0))], s1, s3, s5]) [0, 0, 0, 0] Z<|Ex.recut (H' := [[(bx, .cells #[vo, vf, vw, .int .i64 o.last] 99 (0, 0))], s1, s3, s5] ++ [[]]) (List.Perm.of_eq (by simp))<|?_
 exact Ex.end0 rfl ⟨rfl, _, _, _, _, _, _, rfl, hm2, hm4, hm6⟩

theorem busy_c {V : Vw} {o : Ob} {bx : Nat} {vo vf vw : Value} {so sf sw : Sg} (hmo : Om .i64 vo o.mout so) (hmf : Om .u32 vf o.mf sf) (hmw : Om .u32 vw o.mw sw) {a : Int}  : Does Try.prog 30 [.pointer (some ⟨bx, 0, none⟩), .int .u32 a] V [[(bx, .cells #[vo, vf, vw, .int .i64 o.last] 99 (0, 0))], so, sf, sw, Ob.sg 105 o] (Pv (.bool (o.isBusy a)) V [[(bx, .cells #[vo, vf, vw, .int .i64 o.last] 99 (0, 0))], so, sf, sw, Ob.sg 105 o]) := by
 refine Does.intro Try.func30 rfl rfl (le rfl) (fun B => ?_)
 refine Zs<|Zr<|Za Z<|Ze<|Zg<|Zs<|Zr<|Zm Z<|Zv (Y.nilCheck Z)<|Zv (Y.fieldAddr Z Outbox6_fo99_1)<|Zv (Y.load Z Outbox6_ts54 (Kn.at 0 Z) Z)<|Zm Z<|?_
 rcases hb : o.busy a with _ | x
 ·refine Zv (Y.lookup (r := .tuple #[.int .i64 0, .bool false]) Z Z Outbox6_mt54 Outbox6_zo3 hmf (j := 2) rfl (by rw [Ob.mf_get, hb]; rfl))<|Zm Z<|Zv (Y.extract Z Z)<|Zv (Y.extract Z Z)<|Za Z<|Za Z<|Ze<|Zg<|Zs<|Zr<|Zm Z<|Zv (Y.nilCheck Z)<|Zv (Y.fieldAddr Z Outbox6_fo99_2)<|Zv (Y.load Z Outbox6_ts97 (Kn.at 0 Z) Z)<|Zm Z<|?_
  rcases ho : o.wait a with _ | y
  ·refine Zv (Y.lookup (r := .tuple #[.agg #[.int .i64 0, .int .i64 0, .int .i64 0, .int .i64 0, .int .i64 0, .int .u32 0, .int .i64 0, .string ⟨#[]⟩, .int .i64 0, .int .i64 0, .bool false], .bool false]) Z Z Outbox6_mt97 Outbox6_zo35 hmw (j := 3) rfl (by rw [show o.mw = o.waits.map (fun x => (x.1, Value.agg x.2.cells)) from rfl, Ob.mw_get, show o.waits.lookup a = _ from ho]; rfl))<|Zm Z<|Zv (Y.extract Z Z)<|Zv (Y.extract Z Z)<|?_
   refine Run.alloc Outbox6_zo35 (lt rfl) (fun b1 => ?_)
   refine Run.store (s := [(b1, .cells #[.int .i64 0, .int .i64 0, .int .i64 0, .int .i64 0, .int .i64 0, .int .u32 0, .int .i64 0, .string ⟨#[]⟩, .int .i64 0, .int .i64 0, .bool false] 35 (0, 0))]) Z Z Outbox6_sz35 (i := 0) Z Z (le Z) Z Z<|Za Z<|Ze<|Zg<|Zs<|Zr<|Zm Z<|Zm Z<|Zp Z<|Zm Z<|Zv (Y.pick_f Z Z Z)<|Za Z<|Ze<|Zg<|Zu<|Ex.keep [1, 1, 1, 1, 1]<|?_
   exact Ex.ret1 rfl rfl  ⟨by unfold Ob.isBusy; rw [hb, ho]; rfl, rfl, rfl⟩
  ·refine Zv (Y.lookup (r := .tuple #[.agg #[.int .i64 y.kind, .int .i64 y.life, .int .i64 y.seen, .int .i64 y.xid, .int .i64 y.state, .int .u32 y.addr, .int .i64 y.bind, .string y.client, .int .i64 y.pot, .int .i64 y.at_, .bool y.ok], .bool true]) Z Z Outbox6_mt97 Outbox6_zo35 hmw (j := 3) rfl (by rw [show o.mw = o.waits.map (fun x => (x.1, Value.agg x.2.cells)) from rfl, Ob.mw_get, show o.waits.lookup a = _ from ho]; rfl)) ?_
   refine Zm Z<|Zv (Y.extract Z Z)<|Zv (Y.extract Z Z)<|?_
   refine Run.alloc Outbox6_zo35 (lt rfl) (fun b2 => ?_)
   refine Run.store (s := [(b2, .cells #[.int .i64 y.kind, .int .i64 y.life, .int .i64 y.seen, .int .i64 y.xid, .int .i64 y.state, .int .u32 y.addr, .int .i64 y.bind, .string y.client, .int .i64 y.pot, .int .i64 y.at_, .bool y.ok] 35 (0, 0))]) Z Z Outbox6_sz35 (i := 0) Z Z (le Z) Z Z<|Za Z<|Ze<|Zg<|Zs<|Zr<|Zm Z<|Zm Z<|Zp Z<|Zm Z<|Zv (Y.pick_f Z Z Z)<|Za Z<|Ze<|Zg<|Zu<|Ex.keep [1, 1, 1, 1, 1]<|?_
   exact Ex.ret1 rfl rfl  ⟨by unfold Ob.isBusy; rw [hb, ho]; rfl, rfl, rfl⟩
 ·refine Zv (Y.lookup (r := .tuple #[.int .i64 x.xid, .bool true]) Z Z Outbox6_mt54 Outbox6_zo3 hmf (j := 2) rfl (by rw [Ob.mf_get, hb]; rfl))<|Zm Z<|Zv (Y.extract Z Z)<|Zv (Y.extract Z Z)<|Za Z<|Za Z<|Ze<|Zg<|Zs<|Zr<|Zm Z<|Zv (Y.nilCheck Z)<|Zv (Y.fieldAddr Z Outbox6_fo99_2)<|Zv (Y.load Z Outbox6_ts97 (Kn.at 0 Z) Z)<|Zm Z<|?_
  rcases ho : o.wait a with _ | y
  ·refine Zv (Y.lookup (r := .tuple #[.agg #[.int .i64 0, .int .i64 0, .int .i64 0, .int .i64 0, .int .i64 0, .int .u32 0, .int .i64 0, .string ⟨#[]⟩, .int .i64 0, .int .i64 0, .bool false], .bool false]) Z Z Outbox6_mt97 Outbox6_zo35 hmw (j := 3) rfl (by rw [show o.mw = o.waits.map (fun x => (x.1, Value.agg x.2.cells)) from rfl, Ob.mw_get, show o.waits.lookup a = _ from ho]; rfl))<|Zm Z<|Zv (Y.extract Z Z)<|Zv (Y.extract Z Z)<|?_
   refine Run.alloc Outbox6_zo35 (lt rfl) (fun b3 => ?_)
   refine Run.store (s := [(b3, .cells #[.int .i64 0, .int .i64 0, .int .i64 0, .int .i64 0, .int .i64 0, .int .u32 0, .int .i64 0, .string ⟨#[]⟩, .int .i64 0, .int .i64 0, .bool false] 35 (0, 0))]) Z Z Outbox6_sz35 (i := 0) Z Z (le Z) Z Z<|Za Z<|Ze<|Zg<|Zs<|Zr<|Zm Z<|Zm Z<|Zo Z Z<|Zv (Y.pick_t Z Z Z)<|Za Z<|Ze<|Zg<|Zu<|Ex.keep [1, 1, 1, 1, 1]<|?_
   exact Ex.ret1 rfl rfl  ⟨by unfold Ob.isBusy; rw [hb, ho]; rfl, rfl, rfl⟩
  ·refine Zv (Y.lookup (r := .tuple #[.agg #[.int .i64 y.kind, .int .i64 y.life, .int .i64 y.seen, .int .i64 y.xid, .int .i64 y.state, .int .u32 y.addr, .int .i64 y.bind, .string y.client, .int .i64 y.pot, .int .i64 y.at_, .bool y.ok], .bool true]) Z Z Outbox6_mt97 Outbox6_zo35 hmw (j := 3) rfl (by rw [show o.mw = o.waits.map (fun x => (x.1, Value.agg x.2.cells)) from rfl, Ob.mw_get, show o.waits.lookup a = _ from ho]; rfl)) ?_
   refine Zm Z<|Zv (Y.extract Z Z)<|Zv (Y.extract Z Z)<|?_
   refine Run.alloc Outbox6_zo35 (lt rfl) (fun b4 => ?_)
   refine Run.store (s := [(b4, .cells #[.int .i64 y.kind, .int .i64 y.life, .int .i64 y.seen, .int .i64 y.xid, .int .i64 y.state, .int .u32 y.addr, .int .i64 y.bind, .string y.client, .int .i64 y.pot, .int .i64 y.at_, .bool y.ok] 35 (0, 0))]) Z Z Outbox6_sz35 (i := 0) Z Z (le Z) Z Z<|Za Z<|Ze<|Zg<|Zs<|Zr<|Zm Z<|Zm Z<|Zo Z Z<|Zv (Y.pick_t Z Z Z)<|Za Z<|Ze<|Zg<|Zu<|Ex.keep [1, 1, 1, 1, 1]<|?_
   exact Ex.ret1 rfl rfl  ⟨by unfold Ob.isBusy; rw [hb, ho]; rfl, rfl, rfl⟩

theorem new_o {V : Vw} : Does Try.prog 14 [] V [] (fun v V' H' => V' = V ∧ ∃ bx s, v = .pointer (some ⟨bx, 0, none⟩) ∧ Ob.In 105 99 Ob.new bx s ∧ H' = [s]) :=
 new_c.outcut fun v V' H' ⟨hV, bx, hv, hI⟩ => ⟨[H'.flatten], one_piece H', hV, bx, _, hv, Ob.In.mk Ob.inv_new hI, rfl⟩
theorem put_o {V : Vw} {o : Ob} {bx : Nat} {s : Sg} (hb : Ob.In 105 99 o bx s) {m : Msg} : Does Try.prog 15 [.pointer (some ⟨bx, 0, none⟩), .agg m.cells] V [s] (fun v V' H' => V' = V ∧ ∃ b e o2 s2, o.put m b = (e, o2) ∧ v = .int .i64 e ∧ Ob.In 105 99 o2 bx s2 ∧ H' = [s2]) := by
 obtain ⟨hi, H, ⟨vo, vf, vw, so, sf, sw, rfl, h1, h2, h3⟩, rfl⟩ := hb
 exact (put_c h1 h2 h3 hi).one.outcut fun v V' H' ⟨hV, b, hv, hI⟩ => ⟨[H'.flatten], one_piece H', hV, b, _, _, _, rfl, hv, Ob.In.mk (Ob.inv_put hi) hI, rfl⟩
theorem acked_o {V : Vw} {o : Ob} {bx : Nat} {s : Sg} (hb : Ob.In 105 99 o bx s) {k : Int} : Does Try.prog 17 [.pointer (some ⟨bx, 0, none⟩), .int .i64 k] V [s] (fun v V' H' => V' = V ∧ ∃ b m f o2 s2, o.acked k b = (m, f, o2) ∧ v = .tuple #[.agg m.cells, .bool f] ∧ Ob.In 105 99 o2 bx s2 ∧ H' = [s2]) := by
 obtain ⟨hi, H, ⟨vo, vf, vw, so, sf, sw, rfl, h1, h2, h3⟩, rfl⟩ := hb
 exact (acked_c h1 h2 h3 hi).one.outcut fun v V' H' ⟨hV, b, hv, hI⟩ => ⟨[H'.flatten], one_piece H', hV, b, _, _, _, _, rfl, hv, Ob.In.mk (Ob.inv_acked hi) hI, rfl⟩
theorem tick_o {V : Vw} {o : Ob} {bx : Nat} {s : Sg} (hb : Ob.In 105 99 o bx s) {now : Int} (hsm : o.last ≤ 1000000000) : Does Try.prog 18 [.pointer (some ⟨bx, 0, none⟩), .int .i64 now] V [s] (fun v V' H' => V' = V ∧ ∃ ms e o2 p c q s2, o.tickE now = (ms, e, o2) ∧ v = .tuple #[.slice p ms.length c, .int .i64 e] ∧ Ow 35 11 (.slice p ms.length c) ms.length (ms.flatMap Msg.cl) q ∧ Ob.In 105 99 o2 bx s2 ∧ H' = [q, s2]) := by
 obtain ⟨hi, H, ⟨vo, vf, vw, so, sf, sw, rfl, h1, h2, h3⟩, rfl⟩ := hb
 exact (tick_c h1 h2 h3 hi (by have := Ob.outs_len hi; omega)).one.outcut fun v V' H' ⟨hV, p, c, q, H2, hv, hO, hH, hI⟩ => ⟨[q, H2.flatten], by rw [hH]; exact two_piece q H2, hV, _, _, _, p, c, q, _, rfl, hv, hO, Ob.In.mk (Ob.inv_tickE hi) hI, rfl⟩
theorem last_o {V : Vw} {o : Ob} {bx : Nat} {s : Sg} (hb : Ob.In 105 99 o bx s) : Does Try.prog 19 [.pointer (some ⟨bx, 0, none⟩)] V [s] (Pv (.int .i64 o.last) V [s]) := by
 obtain ⟨hi, H, ⟨vo, vf, vw, so, sf, sw, rfl, h1, h2, h3⟩, rfl⟩ := hb
 exact last_c.one.outcut fun v V' H' ⟨hv, hV, hH⟩ => ⟨_, by rw [hH]; exact one_piece _, hv, hV, rfl⟩
theorem len_o {V : Vw} {o : Ob} {bx : Nat} {s : Sg} (hb : Ob.In 105 99 o bx s) (hw : o.waits.length ≤ 4294967296) : Does Try.prog 26 [.pointer (some ⟨bx, 0, none⟩)] V [s] (Pv (.int .i64 ((o.len : Nat) : Int)) V [s]) := by
 obtain ⟨hi, H, ⟨vo, vf, vw, so, sf, sw, rfl, h1, h2, h3⟩, rfl⟩ := hb
 obtain ⟨bm, es, clock, rfl, rfl, hmi⟩ := h3
 exact (len_c h2 hmi (by have := Ob.outs_len hi; have := hi.l1; omega) (by unfold Ob.mw; rw [List.length_map]; exact hw)).one.outcut fun v V' H' ⟨hv, hV, hH⟩ => ⟨_, by rw [hH]; exact one_piece _, hv, hV, rfl⟩
theorem busy_o {V : Vw} {o : Ob} {bx : Nat} {s : Sg} (hb : Ob.In 105 99 o bx s) {a : Int} : Does Try.prog 30 [.pointer (some ⟨bx, 0, none⟩), .int .u32 a] V [s] (Pv (.bool (o.isBusy a)) V [s]) := by
 obtain ⟨hi, H, ⟨vo, vf, vw, so, sf, sw, rfl, h1, h2, h3⟩, rfl⟩ := hb
 exact (busy_c h1 h2 h3).one.outcut fun v V' H' ⟨hv, hV, hH⟩ => ⟨_, by rw [hH]; exact one_piece _, hv, hV, rfl⟩
theorem clear_o {V : Vw} {o : Ob} {bx : Nat} {s : Sg} (hb : Ob.In 105 99 o bx s) : Does Try.prog 32 [.pointer (some ⟨bx, 0, none⟩)] V [s] (fun _ V' H' => V' = V ∧ ∃ s2, Ob.In 105 99 o.clear bx s2 ∧ H' = [s2]) := by
 obtain ⟨hi, H, ⟨vo, vf, vw, so, sf, sw, rfl, h1, h2, h3⟩, rfl⟩ := hb
 exact (clear_c h1 h2 h3).one.outcut fun v V' H' ⟨hV, hI⟩ => ⟨[H'.flatten], one_piece H', hV, _, Ob.In.mk (Ob.inv_clear hi) hI, rfl⟩
end Go.Proofs.Ytpdnkhdmajmbiaa
