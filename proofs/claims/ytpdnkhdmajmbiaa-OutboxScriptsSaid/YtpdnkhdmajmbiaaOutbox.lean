/- Boxes of messages that go out, walked.
Conditions: as each theorem names them. -/
import Derived.Test.YtpdnkhdmajmbiaaProg
import Derived.Test.YtpdnkhdmajmbiaaBA
import Derived.Test.YtpdnkhdmajmbiaaKB
import Derived.Test.YtpdnkhdmajmbiaaMessage
import Derived.Test.YtpdnkhdmajmbiaaZG
set_option linter.unusedSimpArgs false
set_option linter.unusedVariables false
set_option maxRecDepth 4000
namespace Go.Proofs.Ytpdnkhdmajmbiaa
open Go Go.K
attribute [local irreducible] Code.wp wpList Calls wpQuiet
theorem Outbox_zo99 : zeroOf Try.prog 99 = some (.agg #[.map none, .map none, .map none, .int .i64 0]) := by kernel_rfl
theorem Outbox_pl99 : placesS Try.prog 99 = some [(0, 1), (1, 1), (2, 1), (3, 1)] := by kernel_rfl
theorem Outbox_fo99_2 : fieldOff Try.prog 99 2 = some 2 := by kernel_rfl
theorem Outbox_ts97 : scal Try.prog 97 = true := by kernel_rfl
theorem Outbox_zo35 : zeroOf Try.prog 35 = some (.agg #[.int .i64 0, .int .i64 0, .int .i64 0, .int .i64 0, .int .i64 0, .int .u32 0, .int .i64 0, .string ⟨#[]⟩, .int .i64 0, .int .i64 0, .bool false]) := by kernel_rfl
theorem Outbox_mt97 : mapT Try.prog 97 = some (.u32, 30, 35) := by kernel_rfl
theorem Outbox_sz35 : sizeT Try.prog 35 = some 11 := by kernel_rfl
theorem Outbox_fo99_1 : fieldOff Try.prog 99 1 = some 1 := by kernel_rfl
theorem Outbox_ts54 : scal Try.prog 54 = true := by kernel_rfl
theorem Outbox_mt54 : mapT Try.prog 54 = some (.u32, 30, 3) := by kernel_rfl
theorem Outbox_zo3 : zeroOf Try.prog 3 = some (.int .i64 0) := by kernel_rfl
theorem Outbox_fo99_3 : fieldOff Try.prog 99 3 = some 3 := by kernel_rfl
theorem Outbox_ts3 : scal Try.prog 3 = true := by kernel_rfl
theorem Outbox_sz3 : sizeT Try.prog 3 = some 1 := by kernel_rfl
theorem Outbox_fo35_3 : fieldOff Try.prog 35 3 = some 3 := by kernel_rfl
theorem Outbox_mo : Try.prog.follows .mixedOrders = true := by kernel_rfl
theorem Outbox_fo99_0 : fieldOff Try.prog 99 0 = some 0 := by kernel_rfl
theorem Outbox_ts96 : scal Try.prog 96 = true := by kernel_rfl
theorem Outbox_ag35 : aggsz Try.prog 35 = some 11 := by kernel_rfl
theorem Outbox_zo105 : zeroOf Try.prog 105 = some (.agg #[.int .i64 0, .int .i64 0, .int .i64 0, .int .i64 0, .int .i64 0, .int .u32 0, .int .i64 0, .string ⟨#[]⟩, .int .i64 0, .int .i64 0, .bool false, .int .i64 0]) := by kernel_rfl
theorem Outbox_pl105 : placesS Try.prog 105 = some [(0, 11), (11, 1)] := by kernel_rfl
theorem Outbox_mt96 : mapT Try.prog 96 = some (.i64, 3, 102) := by kernel_rfl
theorem Outbox_zo102 : zeroOf Try.prog 102 = some (.pointer none) := by kernel_rfl
theorem Outbox_fo35_1 : fieldOff Try.prog 35 1 = some 1 := by kernel_rfl
theorem Outbox_fo35_2 : fieldOff Try.prog 35 2 = some 2 := by kernel_rfl
theorem Outbox_fo35_0 : fieldOff Try.prog 35 0 = some 0 := by kernel_rfl
theorem Outbox_fo35_5 : fieldOff Try.prog 35 5 = some 5 := by kernel_rfl
theorem Outbox_ts30 : scal Try.prog 30 = true := by kernel_rfl
theorem Outbox_pl35 : placesS Try.prog 35 = some [(0, 1), (1, 1), (2, 1), (3, 1), (4, 1), (5, 1), (6, 1), (7, 1), (8, 1), (9, 1), (10, 1)] := by kernel_rfl
theorem Outbox_fo105_0 : fieldOff Try.prog 105 0 = some 0 := by kernel_rfl

theorem new_c {V : Vw}  : Does Try.prog 14 [] V [] (fun v V' H' => V' = V ∧ ∃ bx, v = .pointer (some ⟨bx, 0, none⟩) ∧ Ob.Is 105 99 Ob.new bx H') := by
 refine Does.intro Try.func14 rfl rfl (le rfl) (fun B => ?_)
 refine Zs<|Zr<|Za Z<|Ze<|Zg<|Zs<|Zr<|?_
 refine Run.makeMap .i64 (lt rfl) (fun v1 s2 hm3 => ?_)
 obtain ⟨b4, rfl⟩ := hm3.form
 refine Run.makeMap .u32 (lt rfl) (fun v5 s6 hm7 => ?_)
 obtain ⟨b8, rfl⟩ := hm7.form
 refine Run.makeMap .u32 (lt rfl) (fun v9 s10 hm11 => ?_)
 obtain ⟨b12, rfl⟩ := hm11.form
 refine Zv (Y.buildS (l := [(0, .tmp 1), (1, .tmp 2), (2, .tmp 3)]) Outbox_zo99 Outbox_pl99 Z Z) ?_
 refine Run.box rfl (lt rfl) (fun b13 => ?_)
 refine Za Z<|Ze<|Zg<|Zu<|Ex.keepTo (H' := [[(b13, .cells #[.map (some b4), .map (some b8), .map (some b12), .int .i64 0] 99 (0, 0))], s2, s6, s10]) [0, 2, 1, 0] Z<|Ex.recut (H' := [[(b13, .cells #[.map (some b4), .map (some b8), .map (some b12), .int .i64 0] 99 (0, 0))], s2, s6, s10] ++ [[]]) (List.Perm.of_eq (by simp))<|?_
 exact Ex.ret1 rfl rfl  ⟨rfl, b13, rfl, _, _, _, _, _, _, rfl, hm3, hm7, hm11⟩

theorem goes_c {V : Vw} {o : Ob} {bx : Nat} {vo vf vw : Value} {so sf sw : Sg} (hmo : Om .i64 vo o.mout so) (hmf : Om .u32 vf o.mf sf) (hmw : Om .u32 vw o.mw sw) {a : Int} (hi : o.Inv)  : Does Try.prog 53 [.pointer (some ⟨bx, 0, none⟩), .int .u32 a] V [[(bx, .cells #[vo, vf, vw, .int .i64 o.last] 99 (0, 0))], so, sf, sw, Ob.sg 105 o] (fun _ V' H' => V' = V ∧ ∃ b, Ob.Is 105 99 (o.goes a b) bx H') := by
 have hl := hi.l1
 have hl0 := hi.l0
 refine Does.intro Try.func53 rfl rfl (le rfl) (fun B => ?_)
 refine Zs<|Zr<|Zm Z<|Zv (Y.nilCheck Z)<|Zv (Y.fieldAddr Z Outbox_fo99_2)<|Zv (Y.load Z Outbox_ts97 (Kn.at 0 Z) Z)<|Zm Z<|?_
 rcases ho : o.wait a with _ | m
 ·refine Zv (Y.lookup (r := .tuple #[.agg #[.int .i64 0, .int .i64 0, .int .i64 0, .int .i64 0, .int .i64 0, .int .u32 0, .int .i64 0, .string ⟨#[]⟩, .int .i64 0, .int .i64 0, .bool false], .bool false]) Z Z Outbox_mt97 Outbox_zo35 hmw (j := 3) rfl (by rw [show o.mw = o.waits.map (fun x => (x.1, Value.agg x.2.cells)) from rfl, Ob.mw_get, show o.waits.lookup a = _ from ho]; rfl))<|Zm Z<|Zv (Y.extract Z Z)<|Zv (Y.extract Z Z)<|?_
  refine Run.alloc Outbox_zo35 (lt rfl) (fun b1 => ?_)
  refine Run.store (s := [(b1, .cells #[.int .i64 0, .int .i64 0, .int .i64 0, .int .i64 0, .int .i64 0, .int .u32 0, .int .i64 0, .string ⟨#[]⟩, .int .i64 0, .int .i64 0, .bool false] 35 (0, 0))]) Z Z Outbox_sz35 (i := 0) Z Z (le Z) Z Z<|Za Z<|Ze<|Zg<|Zs<|Zs<|Zr<|Zm Z<|Zv (Y.nilCheck Z)<|Zv (Y.fieldAddr Z Outbox_fo99_1)<|Zv (Y.load Z Outbox_ts54 (Kn.at 1 Z) Z)<|Zm Z<|?_
  rcases hb : o.busy a with _ | x
  ·refine Zv (Y.lookup (r := .tuple #[.int .i64 0, .bool false]) Z Z Outbox_mt54 Outbox_zo3 hmf (j := 3) rfl (by rw [Ob.mf_get, hb]; rfl))<|Zm Z<|Zv (Y.extract Z Z)<|Zv (Y.extract Z Z)<|Za Z<|Za Z<|Ze<|Zg<|Zs<|Zr<|Zm Z<|Zv (Y.not Z)<|Zm Z<|Zo Z Z<|Zv (Y.pick_t Z Z Z)<|Zm Z<|?_
   refine Zo Z Z<|Zo Z Z<|Zo Z Z<|Zo Z Z<|Zo Z Z<|Zv (Y.pick_t Z Z Z)<|Ze<|Zg<|Tr.cond_t Z Z<|Zu<|Zn<|Ex.keep [1, 1, 1, 1, 1]<|?_
   exact Ex.ret0 rfl ⟨rfl, 0, by rw [Ob.goes_not (b := 0) (.inl ho)]; exact ⟨_, _, _, _, _, _, rfl, hmo, hmf, hmw⟩⟩
  ·refine Zv (Y.lookup (r := .tuple #[.int .i64 x.xid, .bool true]) Z Z Outbox_mt54 Outbox_zo3 hmf (j := 3) rfl (by rw [Ob.mf_get, hb]; rfl))<|Zm Z<|Zv (Y.extract Z Z)<|Zv (Y.extract Z Z)<|Za Z<|Za Z<|Ze<|Zg<|Zs<|Zr<|Zm Z<|Zv (Y.not Z)<|Zm Z<|Zo Z Z<|Zv (Y.pick_t Z Z Z)<|Zm Z<|?_
   refine Zo Z Z<|Zo Z Z<|Zo Z Z<|Zo Z Z<|Zo Z Z<|Zv (Y.pick_t Z Z Z)<|Ze<|Zg<|Tr.cond_t Z Z<|Zu<|Zn<|Ex.keep [1, 1, 1, 1, 1]<|?_
   exact Ex.ret0 rfl ⟨rfl, 0, by rw [Ob.goes_not (b := 0) (.inl ho)]; exact ⟨_, _, _, _, _, _, rfl, hmo, hmf, hmw⟩⟩
 ·refine Zv (Y.lookup (r := .tuple #[.agg #[.int .i64 m.kind, .int .i64 m.life, .int .i64 m.seen, .int .i64 m.xid, .int .i64 m.state, .int .u32 m.addr, .int .i64 m.bind, .string m.client, .int .i64 m.pot, .int .i64 m.at_, .bool m.ok], .bool true]) Z Z Outbox_mt97 Outbox_zo35 hmw (j := 3) rfl (by rw [show o.mw = o.waits.map (fun x => (x.1, Value.agg x.2.cells)) from rfl, Ob.mw_get, show o.waits.lookup a = _ from ho]; rfl)) ?_
  refine Zm Z<|Zv (Y.extract Z Z)<|Zv (Y.extract Z Z)<|?_
  refine Run.alloc Outbox_zo35 (lt rfl) (fun b2 => ?_)
  refine Run.store (s := [(b2, .cells #[.int .i64 m.kind, .int .i64 m.life, .int .i64 m.seen, .int .i64 m.xid, .int .i64 m.state, .int .u32 m.addr, .int .i64 m.bind, .string m.client, .int .i64 m.pot, .int .i64 m.at_, .bool m.ok] 35 (0, 0))]) Z Z Outbox_sz35 (i := 0) Z Z (le Z) Z Z<|Za Z<|Ze<|Zg<|Zs<|Zs<|Zr<|Zm Z<|Zv (Y.nilCheck Z)<|Zv (Y.fieldAddr Z Outbox_fo99_1)<|Zv (Y.load Z Outbox_ts54 (Kn.at 1 Z) Z)<|Zm Z<|?_
  rcases hb : o.busy a with _ | x
  ·refine Zv (Y.lookup (r := .tuple #[.int .i64 0, .bool false]) Z Z Outbox_mt54 Outbox_zo3 hmf (j := 3) rfl (by rw [Ob.mf_get, hb]; rfl))<|Zm Z<|Zv (Y.extract Z Z)<|Zv (Y.extract Z Z)<|Za Z<|Za Z<|Ze<|Zg<|Zs<|Zr<|Zm Z<|Zv (Y.not Z)<|Zm Z<|Zp Z<|Zm Z<|Zv (Y.pick_f Z Z Z)<|?_
   refine Zm Z<|Zp Z<|Zm Z<|Zp Z<|Zv (Y.nilCheck Z)<|Zp Z<|Zv (Y.fieldAddr Z Outbox_fo99_3)<|Zp Z<|Zv (Y.load Z Outbox_ts3 (Kn.at 1 Z) Z)<|Zp Z<|Zv (Y.int Z Z Z)<|Zv (Y.pick_f Z Z Z)<|Ze<|Zg<|?_
   rcases Zsplit (decide (o.last ≥ 1073741824)) with ⟨h3, g3⟩ | ⟨h3, g3⟩ <;> try simp only [kb] at g3
   ·refine Tr.cond_t Z h3<|Zu<|Zn<|Ex.keep [1, 1, 1, 1, 1]<|?_
    exact Ex.ret0 rfl ⟨rfl, 0, by rw [Ob.goes_not (b := 0) (.inr (.inr W))]; exact ⟨_, _, _, _, _, _, rfl, hmo, hmf, hmw⟩⟩
   ·refine Tr.cond_f Z h3<|Zt<|Zg<|Zs<|Zr<|Zm Z<|Zv (Y.nilCheck Z)<|Zv (Y.fieldAddr Z Outbox_fo99_2)<|Zv (Y.load Z Outbox_ts97 (Kn.at 1 Z) Z)<|Zm Z<|?_
    refine Run.mapDelete0 4 rfl rfl Outbox_mt97 hmw rfl (fun s4 hm5 => ?_)
    refine Run.heapTo (H' := [[(b2, .cells #[.int .i64 m.kind, .int .i64 m.life, .int .i64 m.seen, .int .i64 m.xid, .int .i64 m.state, .int .u32 m.addr, .int .i64 m.bind, .string m.client, .int .i64 m.pot, .int .i64 m.at_, .bool m.ok] 35 (0, 0))], [(bx, .cells #[vo, vf, vw, .int .i64 o.last] 99 (0, 0))], so, sf, s4, Ob.sg 105 o]) Z<|Ze<|Zg<|Zs<|Zr<|Zm Z<|Zv (Y.nilCheck Z)<|Zv (Y.fieldAddr Z Outbox_fo99_3)<|Zv (Y.load Z Outbox_ts3 (Kn.at 1 Z) Z)<|?_
    refine Zv (Y.add Z Z W)<|Zv (Y.nilCheck Z)<|Zv (Y.fieldAddr Z Outbox_fo99_3)<|Run.store (s := [(bx, .cells #[vo, vf, vw, .int .i64 (o.last + 1)] 99 (0, 0))]) Z Z Outbox_sz3 (i := 1) Z Z (le Z) Z Z<|Ze<|Zg<|Zs<|Zr<|Zm Z<|Zv (Y.nilCheck Z)<|Zv (Y.fieldAddr Z Outbox_fo99_3)<|Zv (Y.load Z Outbox_ts3 (Kn.at 1 Z) Z)<|Zv (Y.fieldAddr Z Outbox_fo35_3)<|Run.store (s := [(b2, .cells #[.int .i64 m.kind, .int .i64 m.life, .int .i64 m.seen, .int .i64 (o.last + 1), .int .i64 m.state, .int .u32 m.addr, .int .i64 m.bind, .string m.client, .int .i64 m.pot, .int .i64 m.at_, .bool m.ok] 35 (0, 0))]) Z Z Outbox_sz3 (i := 0) Z Z (le Z) Z Z<|?_
    refine Ze<|Zg<|Tr.anyD [(bx, .cells #[vo, vf, vw, .int .i64 (o.last + 1)] 99 (0, 0)), (b2, .cells #[.int .i64 m.kind, .int .i64 m.life, .int .i64 m.seen, .int .i64 (o.last + 1), .int .i64 m.state, .int .u32 m.addr, .int .i64 m.bind, .string m.client, .int .i64 m.pot, .int .i64 m.at_, .bool m.ok] 35 (0, 0))] Outbox_mo<|RunD.pure (i := 0) rfl WK WK WK (fun _ _ _ h => h) (lt rfl) (KnAll.cons (Kn.at 1 rfl) (ZK 0 Z)) (fun _ => (Y.move rfl))<|?_
    refine RunD.pure (i := 1) rfl WK WK WK (fun _ _ _ h => h) (lt rfl) (KnAll.cons (Kn.at 1 rfl) (ZK 0 Z)) (fun _ => (Y.nilCheck rfl))<|RunD.pure (i := 2) rfl WK WK WK (fun _ _ _ h => h) (lt rfl) (KnAll.cons (Kn.at 1 rfl) (ZK 0 Z)) (fun _ => (Y.fieldAddr rfl Outbox_fo99_0))<|RunD.take (i := 3) 0 rfl rfl WK WK WK (fun _ _ _ h => h) (lt rfl) (KnAll.cons (Kn.at 1 rfl) (ZK 0 Z)) (fun _ => (Y.load rfl Outbox_ts96 Kn.vk1 rfl))<|?_
    refine RunD.pure (i := 4) rfl WK WK WK (fun _ _ _ h => h) (lt rfl) (KnAll.cons (Kn.at 1 rfl) (ZK 0 Z)) (fun _ => (Y.fieldAddr rfl Outbox_fo35_3))<|RunD.take (i := 5) 1 rfl rfl WK WK WK (fun _ _ _ h => h) (lt rfl) (KnAll.cons (Kn.at 1 rfl) (ZK 0 Z)) (fun _ => (Y.load rfl Outbox_ts3 Kn.vk1 rfl))<|RunD.pure (i := 6) rfl WK WK WK (fun _ _ _ h => h) (lt rfl) (KnAll.cons (Kn.at 1 rfl) (ZK 0 Z)) (fun _ => (Y.move rfl))<|?_
    refine RunD.pure (i := 7) rfl WK WK WK (fun _ _ _ h => h) (lt rfl) (KnAll.cons (Kn.at 1 rfl) (ZK 0 Z)) (fun _ => (Y.nilCheck rfl))<|RunD.pure (i := 8) rfl WK WK WK (fun _ _ _ h => h) (lt rfl) (KnAll.cons (Kn.at 1 rfl) (ZK 0 Z)) (fun _ => (Y.fieldAddr rfl Outbox_fo99_1))<|RunD.take (i := 9) 0 rfl rfl WK WK WK (fun _ _ _ h => h) (lt rfl) (KnAll.cons (Kn.at 1 rfl) (ZK 0 Z)) (fun _ => (Y.load rfl Outbox_ts54 Kn.vk1 rfl))<|?_
    refine RunD.pure (i := 10) rfl WK WK WK (fun _ _ _ h => h) (lt rfl) (KnAll.cons (Kn.at 1 rfl) (ZK 0 Z)) (fun _ => (Y.move rfl))<|RunD.take (i := 11) 1 rfl rfl WK WK WK (fun _ _ _ h => h) (lt rfl) (KnAll.cons (Kn.at 1 rfl) (ZK 0 Z)) (fun _ => (Y.loadAgg rfl Outbox_ag35 Kn.vk1 rfl))<|RunD.pure (i := 12) rfl WK WK WK (fun _ _ _ h => h) (lt rfl) (KnAll.cons (Kn.at 1 rfl) (ZK 0 Z)) (fun _ => (Y.buildS (l := [(0, .tmp 66), (1, .const (.int .i64 (-1)))]) Outbox_zo105 Outbox_pl105 rfl rfl))<|?_
    refine RunD.pure (i := 14) rfl WK WK WK (fun _ _ _ h => h) (lt rfl) (KnAll.cons (Kn.at 1 rfl) (ZK 0 Z)) (fun _ => (Y.fieldAddr rfl Outbox_fo35_3))<|RunD.take (i := 15) 1 rfl rfl WK WK WK (fun _ _ _ h => h) (lt rfl) (KnAll.cons (Kn.at 1 rfl) (ZK 0 Z)) (fun _ => (Y.load rfl Outbox_ts3 Kn.vk1 rfl))<|?_
    refine RunD.two (i := 13) (j := 16) WK rfl rfl  ?_ ?_ 
    ·refine Run.box rfl (lt rfl) (fun b6 => ?_)
     refine Ze<|Ex.anyD (KnAll.cons (Kn.at 2 Z) (ZK 1 Z))<|?_
     refine RunD.one (i := 16) WK rfl  ?_ 
     refine Run.mapEntry 3 rfl rfl Outbox_mt96 Outbox_zo102 hmo rfl (lt rfl) (fun s7 old8 n9 he10 => ?_)
     refine Run.heapTo (H' := [[(b6, .cells #[.int .i64 m.kind, .int .i64 m.life, .int .i64 m.seen, .int .i64 (o.last + 1), .int .i64 m.state, .int .u32 m.addr, .int .i64 m.bind, .string m.client, .int .i64 m.pot, .int .i64 m.at_, .bool m.ok, .int .i64 (-1)] 105 (0, 0))], [(b2, .cells #[.int .i64 m.kind, .int .i64 m.life, .int .i64 m.seen, .int .i64 (o.last + 1), .int .i64 m.state, .int .u32 m.addr, .int .i64 m.bind, .string m.client, .int .i64 m.pot, .int .i64 m.at_, .bool m.ok] 35 (0, 0))], [(bx, .cells #[vo, vf, vw, .int .i64 (o.last + 1)] 99 (0, 0))], s7, sf, s4, Ob.sg 105 o]) Z ?_
     refine Ze<|Ex.anyD (KnAll.cons (Kn.at 2 Z) (ZK 1 Z))<|RunD.pure (i := 17) rfl WK WK WK (fun _ _ _ h => h) (lt rfl) (KnAll.cons (Kn.at 2 rfl) (ZK 1 Z)) (fun _ => (Y.extract rfl rfl))<|?_
     refine RunD.one (i := 18) WK rfl  ?_ 
     refine Run.entryStore 3 rfl rfl rfl he10 rfl (fun s11 hm12 => ?_)
     refine Run.heapTo (H' := [[(b6, .cells #[.int .i64 m.kind, .int .i64 m.life, .int .i64 m.seen, .int .i64 (o.last + 1), .int .i64 m.state, .int .u32 m.addr, .int .i64 m.bind, .string m.client, .int .i64 m.pot, .int .i64 m.at_, .bool m.ok, .int .i64 (-1)] 105 (0, 0))], [(b2, .cells #[.int .i64 m.kind, .int .i64 m.life, .int .i64 m.seen, .int .i64 (o.last + 1), .int .i64 m.state, .int .u32 m.addr, .int .i64 m.bind, .string m.client, .int .i64 m.pot, .int .i64 m.at_, .bool m.ok] 35 (0, 0))], [(bx, .cells #[vo, vf, vw, .int .i64 (o.last + 1)] 99 (0, 0))], s11, sf, s4, Ob.sg 105 o]) Z ?_
     refine Ze<|Ex.anyD (KnAll.cons (Kn.at 2 Z) (ZK 1 Z))<|?_
     refine RunD.one (i := 19) WK rfl  ?_ 
     refine Run.mapEntry 4 rfl rfl Outbox_mt54 Outbox_zo3 hmf rfl (lt rfl) (fun s13 old14 n15 he16 => ?_)
     refine Run.heapTo (H' := [[(b6, .cells #[.int .i64 m.kind, .int .i64 m.life, .int .i64 m.seen, .int .i64 (o.last + 1), .int .i64 m.state, .int .u32 m.addr, .int .i64 m.bind, .string m.client, .int .i64 m.pot, .int .i64 m.at_, .bool m.ok, .int .i64 (-1)] 105 (0, 0))], [(b2, .cells #[.int .i64 m.kind, .int .i64 m.life, .int .i64 m.seen, .int .i64 (o.last + 1), .int .i64 m.state, .int .u32 m.addr, .int .i64 m.bind, .string m.client, .int .i64 m.pot, .int .i64 m.at_, .bool m.ok] 35 (0, 0))], [(bx, .cells #[vo, vf, vw, .int .i64 (o.last + 1)] 99 (0, 0))], s11, s13, s4, Ob.sg 105 o]) Z ?_
     refine Ze<|Ex.anyD (KnAll.cons (Kn.at 2 Z) (ZK 1 Z))<|RunD.pure (i := 20) rfl WK WK WK (fun _ _ _ h => h) (lt rfl) (KnAll.cons (Kn.at 2 rfl) (ZK 1 Z)) (fun _ => (Y.extract rfl rfl))<|?_
     refine RunD.one (i := 21) WK rfl  ?_ 
     refine Run.entryStore 4 rfl rfl rfl he16 rfl (fun s17 hm18 => ?_)
     refine Run.heapTo (H' := [[(b6, .cells #[.int .i64 m.kind, .int .i64 m.life, .int .i64 m.seen, .int .i64 (o.last + 1), .int .i64 m.state, .int .u32 m.addr, .int .i64 m.bind, .string m.client, .int .i64 m.pot, .int .i64 m.at_, .bool m.ok, .int .i64 (-1)] 105 (0, 0))], [(b2, .cells #[.int .i64 m.kind, .int .i64 m.life, .int .i64 m.seen, .int .i64 (o.last + 1), .int .i64 m.state, .int .u32 m.addr, .int .i64 m.bind, .string m.client, .int .i64 m.pot, .int .i64 m.at_, .bool m.ok] 35 (0, 0))], [(bx, .cells #[vo, vf, vw, .int .i64 (o.last + 1)] 99 (0, 0))], s11, s17, s4, Ob.sg 105 o]) Z ?_
     refine Ze<|Ex.anyD (KnAll.cons (Kn.at 2 Z) (ZK 1 Z))<|RunD.done WK<|Ex.keepTo (H' := [[(bx, .cells #[vo, vf, vw, .int .i64 (o.last + 1)] 99 (0, 0))], s11, s17, s4, Ob.sg 105 o, [(b6, .cells #[.int .i64 m.kind, .int .i64 m.life, .int .i64 m.seen, .int .i64 (o.last + 1), .int .i64 m.state, .int .u32 m.addr, .int .i64 m.bind, .string m.client, .int .i64 m.pot, .int .i64 m.at_, .bool m.ok, .int .i64 (-1)] 105 (0, 0))]]) [2, 2, 2, 2, 2, 0] Z<|?_
     refine Ex.recut (H' := [[(bx, .cells #[vo, vf, vw, .int .i64 (o.last + 1)] 99 (0, 0))], s11, s17, s4, (Ob.sg 105 o ++ [(b6, .cells #[.int .i64 m.kind, .int .i64 m.life, .int .i64 m.seen, .int .i64 (o.last + 1), .int .i64 m.state, .int .u32 m.addr, .int .i64 m.bind, .string m.client, .int .i64 m.pot, .int .i64 m.at_, .bool m.ok, .int .i64 (-1)] 105 (0, 0))])]) (List.Perm.of_eq (by simp)) ?_
     exact Ex.end0 rfl ⟨rfl, b6, Ob.is_go hi ho hb W hm12 hm18 hm5⟩
    ·refine Run.mapEntry 2 rfl rfl Outbox_mt96 Outbox_zo102 hmo rfl (lt rfl) (fun s19 old20 n21 he22 => ?_)
     refine Run.heapTo (H' := [[(b2, .cells #[.int .i64 m.kind, .int .i64 m.life, .int .i64 m.seen, .int .i64 (o.last + 1), .int .i64 m.state, .int .u32 m.addr, .int .i64 m.bind, .string m.client, .int .i64 m.pot, .int .i64 m.at_, .bool m.ok] 35 (0, 0))], [(bx, .cells #[vo, vf, vw, .int .i64 (o.last + 1)] 99 (0, 0))], s19, sf, s4, Ob.sg 105 o]) Z<|Ze<|Ex.anyD (KnAll.cons (Kn.at 1 Z) (ZK 0 Z))<|RunD.pure (i := 17) rfl WK WK WK (fun _ _ _ h => h) (lt rfl) (KnAll.cons (Kn.at 1 rfl) (ZK 0 Z)) (fun _ => (Y.extract rfl rfl))<|?_
     refine RunD.one (i := 13) WK rfl  ?_ 
     refine Run.box rfl (lt rfl) (fun b23 => ?_)
     refine Ze<|Ex.anyD (KnAll.cons (Kn.at 2 Z) (ZK 1 Z))<|?_
     refine RunD.one (i := 18) WK rfl  ?_ 
     refine Run.entryStore 3 rfl rfl rfl he22 rfl (fun s24 hm25 => ?_)
     refine Run.heapTo (H' := [[(b23, .cells #[.int .i64 m.kind, .int .i64 m.life, .int .i64 m.seen, .int .i64 (o.last + 1), .int .i64 m.state, .int .u32 m.addr, .int .i64 m.bind, .string m.client, .int .i64 m.pot, .int .i64 m.at_, .bool m.ok, .int .i64 (-1)] 105 (0, 0))], [(b2, .cells #[.int .i64 m.kind, .int .i64 m.life, .int .i64 m.seen, .int .i64 (o.last + 1), .int .i64 m.state, .int .u32 m.addr, .int .i64 m.bind, .string m.client, .int .i64 m.pot, .int .i64 m.at_, .bool m.ok] 35 (0, 0))], [(bx, .cells #[vo, vf, vw, .int .i64 (o.last + 1)] 99 (0, 0))], s24, sf, s4, Ob.sg 105 o]) Z ?_
     refine Ze<|Ex.anyD (KnAll.cons (Kn.at 2 Z) (ZK 1 Z))<|?_
     refine RunD.one (i := 19) WK rfl  ?_ 
     refine Run.mapEntry 4 rfl rfl Outbox_mt54 Outbox_zo3 hmf rfl (lt rfl) (fun s26 old27 n28 he29 => ?_)
     refine Run.heapTo (H' := [[(b23, .cells #[.int .i64 m.kind, .int .i64 m.life, .int .i64 m.seen, .int .i64 (o.last + 1), .int .i64 m.state, .int .u32 m.addr, .int .i64 m.bind, .string m.client, .int .i64 m.pot, .int .i64 m.at_, .bool m.ok, .int .i64 (-1)] 105 (0, 0))], [(b2, .cells #[.int .i64 m.kind, .int .i64 m.life, .int .i64 m.seen, .int .i64 (o.last + 1), .int .i64 m.state, .int .u32 m.addr, .int .i64 m.bind, .string m.client, .int .i64 m.pot, .int .i64 m.at_, .bool m.ok] 35 (0, 0))], [(bx, .cells #[vo, vf, vw, .int .i64 (o.last + 1)] 99 (0, 0))], s24, s26, s4, Ob.sg 105 o]) Z ?_
     refine Ze<|Ex.anyD (KnAll.cons (Kn.at 2 Z) (ZK 1 Z))<|RunD.pure (i := 20) rfl WK WK WK (fun _ _ _ h => h) (lt rfl) (KnAll.cons (Kn.at 2 rfl) (ZK 1 Z)) (fun _ => (Y.extract rfl rfl))<|?_
     refine RunD.one (i := 21) WK rfl  ?_ 
     refine Run.entryStore 4 rfl rfl rfl he29 rfl (fun s30 hm31 => ?_)
     refine Run.heapTo (H' := [[(b23, .cells #[.int .i64 m.kind, .int .i64 m.life, .int .i64 m.seen, .int .i64 (o.last + 1), .int .i64 m.state, .int .u32 m.addr, .int .i64 m.bind, .string m.client, .int .i64 m.pot, .int .i64 m.at_, .bool m.ok, .int .i64 (-1)] 105 (0, 0))], [(b2, .cells #[.int .i64 m.kind, .int .i64 m.life, .int .i64 m.seen, .int .i64 (o.last + 1), .int .i64 m.state, .int .u32 m.addr, .int .i64 m.bind, .string m.client, .int .i64 m.pot, .int .i64 m.at_, .bool m.ok] 35 (0, 0))], [(bx, .cells #[vo, vf, vw, .int .i64 (o.last + 1)] 99 (0, 0))], s24, s30, s4, Ob.sg 105 o]) Z ?_
     refine Ze<|Ex.anyD (KnAll.cons (Kn.at 2 Z) (ZK 1 Z))<|RunD.done WK<|Ex.keepTo (H' := [[(bx, .cells #[vo, vf, vw, .int .i64 (o.last + 1)] 99 (0, 0))], s24, s30, s4, Ob.sg 105 o, [(b23, .cells #[.int .i64 m.kind, .int .i64 m.life, .int .i64 m.seen, .int .i64 (o.last + 1), .int .i64 m.state, .int .u32 m.addr, .int .i64 m.bind, .string m.client, .int .i64 m.pot, .int .i64 m.at_, .bool m.ok, .int .i64 (-1)] 105 (0, 0))]]) [2, 2, 2, 2, 2, 0] Z<|?_
     refine Ex.recut (H' := [[(bx, .cells #[vo, vf, vw, .int .i64 (o.last + 1)] 99 (0, 0))], s24, s30, s4, (Ob.sg 105 o ++ [(b23, .cells #[.int .i64 m.kind, .int .i64 m.life, .int .i64 m.seen, .int .i64 (o.last + 1), .int .i64 m.state, .int .u32 m.addr, .int .i64 m.bind, .string m.client, .int .i64 m.pot, .int .i64 m.at_, .bool m.ok, .int .i64 (-1)] 105 (0, 0))])]) (List.Perm.of_eq (by simp)) ?_
     exact Ex.end0 rfl ⟨rfl, b23, Ob.is_go hi ho hb W hm25 hm31 hm5⟩
  ·refine Zv (Y.lookup (r := .tuple #[.int .i64 x.xid, .bool true]) Z Z Outbox_mt54 Outbox_zo3 hmf (j := 3) rfl (by rw [Ob.mf_get, hb]; rfl))<|Zm Z<|Zv (Y.extract Z Z)<|Zv (Y.extract Z Z)<|Za Z<|Za Z<|Ze<|Zg<|Zs<|Zr<|Zm Z<|Zv (Y.not Z)<|Zm Z<|Zp Z<|Zm Z<|Zv (Y.pick_f Z Z Z)<|?_
   refine Zm Z<|Zo Z Z<|Zo Z Z<|Zo Z Z<|Zo Z Z<|Zo Z Z<|Zv (Y.pick_t Z Z Z)<|Ze<|Zg<|Tr.cond_t Z Z<|Zu<|Zn<|Ex.keep [1, 1, 1, 1, 1]<|?_
   exact Ex.ret0 rfl ⟨rfl, 0, by rw [Ob.goes_not (b := 0) (.inr (.inl ⟨x, hb⟩))]; exact ⟨_, _, _, _, _, _, rfl, hmo, hmf, hmw⟩⟩

theorem put_c {V : Vw} {o : Ob} {bx : Nat} {vo vf vw : Value} {so sf sw : Sg} (hmo : Om .i64 vo o.mout so) (hmf : Om .u32 vf o.mf sf) (hmw : Om .u32 vw o.mw sw) {m : Msg} (hi : o.Inv)  : Does Try.prog 15 [.pointer (some ⟨bx, 0, none⟩), .agg #[.int .i64 m.kind, .int .i64 m.life, .int .i64 m.seen, .int .i64 m.xid, .int .i64 m.state, .int .u32 m.addr, .int .i64 m.bind, .string m.client, .int .i64 m.pot, .int .i64 m.at_, .bool m.ok]] V [[(bx, .cells #[vo, vf, vw, .int .i64 o.last] 99 (0, 0))], so, sf, sw, Ob.sg 105 o] (fun v V' H' => V' = V ∧ ∃ b, v = .int .i64 (o.put m b).1 ∧ Ob.Is 105 99 ((o.put m b).2) bx H') := by
 refine Does.intro Try.func15 rfl rfl (le rfl) (fun B => ?_)
 refine Zs<|Zr<|?_
 refine Run.box rfl (lt rfl) (fun b1 => ?_)
 refine Za Z<|Ze<|Zg<|Zs<|Zr<|Zv (Y.fieldAddr Z Outbox_fo35_1)<|Run.store (s := [(b1, .cells #[.int .i64 m.kind, .int .i64 1, .int .i64 m.seen, .int .i64 m.xid, .int .i64 m.state, .int .u32 m.addr, .int .i64 m.bind, .string m.client, .int .i64 m.pot, .int .i64 m.at_, .bool m.ok] 35 (0, 0))]) Z Z Outbox_sz3 (i := 0) Z Z (le Z) Z Z<|Zv (Y.fieldAddr Z Outbox_fo35_2)<|Run.store (s := [(b1, .cells #[.int .i64 m.kind, .int .i64 1, .int .i64 0, .int .i64 m.xid, .int .i64 m.state, .int .u32 m.addr, .int .i64 m.bind, .string m.client, .int .i64 m.pot, .int .i64 m.at_, .bool m.ok] 35 (0, 0))]) Z Z Outbox_sz3 (i := 0) Z Z (le Z) Z Z<|?_
 refine Zv (Y.fieldAddr Z Outbox_fo35_3)<|Run.store (s := [(b1, .cells #[.int .i64 m.kind, .int .i64 1, .int .i64 0, .int .i64 1, .int .i64 m.state, .int .u32 m.addr, .int .i64 m.bind, .string m.client, .int .i64 m.pot, .int .i64 m.at_, .bool m.ok] 35 (0, 0))]) Z Z Outbox_sz3 (i := 0) Z Z (le Z) Z Z<|Ze<|Zg<|Zs<|Zb<|Zs<|Zr<|Zv (Y.fieldAddr Z Outbox_fo35_0)<|Zv (Y.load Z Outbox_ts3 (Kn.at 0 Z) Z)<|Zv (Y.int Z Z Z)<|Zm Z<|?_
 rcases Zsplit (m.kind != 2) with ⟨h2, g2⟩ | ⟨h2, g2⟩ <;> try simp only [kb] at g2
 ·refine Zo h2 Z<|Zo h2 Z<|Zo h2 Z<|Zv (Y.pick_t Z h2 Z)<|Za Z<|Ze<|Zg<|Tr.cond_t Z Z<|Zs<|Zr<|Za Z<|Ze<|Zg<|Zu<|Zk<|Zn<|?_
  refine Ex.keepTo (H' := [[(bx, .cells #[vo, vf, vw, .int .i64 o.last] 99 (0, 0))], so, sf, sw, Ob.sg 105 o]) [1, 1, 1, 1, 1] Z ?_
  exact Ex.ret1 rfl rfl  ⟨rfl, 0, by rw [Ob.put_form (b := 0) (.inl W)], by rw [Ob.put_form (b := 0) (.inl W)]; exact ⟨_, _, _, _, _, _, rfl, hmo, hmf, hmw⟩⟩
 ·refine Zp h2<|Zv (Y.loadAgg Z Outbox_ag35 (Kn.at 0 Z) Z)<|Zp h2<|Run.call0 (l := [.tmp 13]) Z Z Z (lt Z) (right_c (m := Ob.ask m))<|Zp h2<|Zv (Y.not Z)<|Zv (Y.pick_f Z h2 Z)<|Za Z<|Ze<|Zg<|?_
  rcases Zsplit (Msg.right (Ob.ask m)) with ⟨h3, g3⟩ | ⟨h3, g3⟩ <;> try simp only [kb] at g3
  ·refine Tr.cond_f Z (congrArg Bool.not h3)<|Zs<|Zr<|Zm Z<|Zv (Y.nilCheck Z)<|Zv (Y.fieldAddr Z Outbox_fo99_3)<|Zv (Y.load Z Outbox_ts3 (Kn.at 1 Z) Z)<|Zv (Y.int Z Z Z)<|Za Z<|Ze<|Zg<|?_
   rcases Zsplit (decide (o.last ≥ 1073741824)) with ⟨h4, g4⟩ | ⟨h4, g4⟩ <;> try simp only [kb] at g4
   ·refine Tr.cond_t Z h4<|Zs<|Zr<|Za Z<|Ze<|Zg<|Zu<|Zk<|Zn<|Ex.keepTo (H' := [[(bx, .cells #[vo, vf, vw, .int .i64 o.last] 99 (0, 0))], so, sf, sw, Ob.sg 105 o]) [1, 1, 1, 1, 1] Z<|?_
    exact Ex.ret1 rfl rfl  ⟨rfl, 0, by rw [Ob.put_full (b := 0) W h3 W], by rw [Ob.put_full (b := 0) W h3 W]; exact ⟨_, _, _, _, _, _, rfl, hmo, hmf, hmw⟩⟩
   ·refine Tr.cond_f Z h4<|Zt<|Zc<|Zg<|Zs<|Zr<|Zv (Y.fieldAddr Z Outbox_fo35_1)<|Run.store (s := [(b1, .cells #[.int .i64 m.kind, .int .i64 0, .int .i64 0, .int .i64 1, .int .i64 m.state, .int .u32 m.addr, .int .i64 m.bind, .string m.client, .int .i64 m.pot, .int .i64 m.at_, .bool m.ok] 35 (0, 0))]) Z Z Outbox_sz3 (i := 0) Z Z (le Z) Z Z<|Zv (Y.fieldAddr Z Outbox_fo35_3)<|Run.store (s := [(b1, .cells #[.int .i64 m.kind, .int .i64 0, .int .i64 0, .int .i64 0, .int .i64 m.state, .int .u32 m.addr, .int .i64 m.bind, .string m.client, .int .i64 m.pot, .int .i64 m.at_, .bool m.ok] 35 (0, 0))]) Z Z Outbox_sz3 (i := 0) Z Z (le Z) Z Z<|?_
    refine Ze<|Zg<|Zs<|Tr.tail 7 Outbox_mo WK<|ZM Z<|ZV (Y.nilCheck Z)<|ZV (Y.fieldAddr Z Outbox_fo99_2)<|ZV (Y.load Z Outbox_ts97 (Kn.at 1 Z) Z)<|ZV (Y.fieldAddr Z Outbox_fo35_5)<|ZV (Y.load Z Outbox_ts30 (Kn.at 0 Z) Z)<|ZV (Y.loadAgg Z Outbox_ag35 (Kn.at 0 Z) Z)<|RunQ.nil_run<|?_
    refine Run.mapUpdate 4 rfl rfl rfl Outbox_mt97 hmw rfl (fun s5 hm6 => ?_)
    refine Run.heapTo (H' := [[(b1, .cells #[.int .i64 m.kind, .int .i64 0, .int .i64 0, .int .i64 0, .int .i64 m.state, .int .u32 m.addr, .int .i64 m.bind, .string m.client, .int .i64 m.pot, .int .i64 m.at_, .bool m.ok] 35 (0, 0))], [(bx, .cells #[vo, vf, vw, .int .i64 o.last] 99 (0, 0))], so, sf, s5, Ob.sg 105 o]) Z<|Ze<|Zg<|Zs<|Zr<|Zm Z<|Zv (Y.fieldAddr Z Outbox_fo35_5)<|Zv (Y.load Z Outbox_ts30 (Kn.at 0 Z) Z)<|?_
    refine Run.call [1, 1, 1, 1, 1] (l := [.tmp 32, .tmp 34]) rfl rfl rfl (lt rfl) (goes_c (o := (o.set m.addr (Ob.kept m))) (a := m.addr) hmo hmf (Ob.set_mw (m := Ob.kept m) hm6) (Ob.inv_set hi rfl)) (fun v9 V9 H9 hle9 hR => ?_)
    obtain ⟨hV, b9, vo9, vf9, vw9, so9, sf9, sw9, rfl, hmo9, hmf9, hmw9⟩ := hR; replace hV := hV.symm; subst hV
    refine Run.heapTo (H' := [[(b1, .cells #[.int .i64 m.kind, .int .i64 0, .int .i64 0, .int .i64 0, .int .i64 m.state, .int .u32 m.addr, .int .i64 m.bind, .string m.client, .int .i64 m.pot, .int .i64 m.at_, .bool m.ok] 35 (0, 0))], [(bx, .cells #[vo9, vf9, vw9, .int .i64 ((Ob.goes (o.set m.addr (Ob.kept m)) m.addr b9).last)] 99 (0, 0))], so9, sf9, sw9, Ob.sg 105 (Ob.goes (o.set m.addr (Ob.kept m)) m.addr b9)]) Z ?_
    refine Run.heapTo (H' := [[(b1, .cells #[.int .i64 m.kind, .int .i64 0, .int .i64 0, .int .i64 0, .int .i64 m.state, .int .u32 m.addr, .int .i64 m.bind, .string m.client, .int .i64 m.pot, .int .i64 m.at_, .bool m.ok] 35 (0, 0))], [(bx, .cells #[vo9, vf9, vw9, .int .i64 ((Ob.goes (o.set m.addr (Ob.kept m)) m.addr b9).last)] 99 (0, 0))], so9, sf9, sw9, Ob.sg 105 (Ob.goes (o.set m.addr (Ob.kept m)) m.addr b9)]) Z ?_
    refine Ze<|Zg<|Zs<|Zr<|Za Z<|Ze<|Zg<|Zu<|Ex.keepTo (H' := [[(bx, .cells #[vo9, vf9, vw9, .int .i64 ((Ob.goes (o.set m.addr (Ob.kept m)) m.addr b9).last)] 99 (0, 0))], so9, sf9, sw9, Ob.sg 105 (Ob.goes (o.set m.addr (Ob.kept m)) m.addr b9)]) [1, 1, 1, 1, 1] Z<|?_
    exact Ex.ret1 rfl rfl  ⟨rfl, b9, by rw [Ob.put_ok W h3 W], by rw [Ob.put_ok W h3 W]; exact ⟨_, _, _, _, _, _, rfl, hmo9, hmf9, hmw9⟩⟩
  ·refine Tr.cond_t Z (congrArg Bool.not h3)<|Zs<|Zr<|Za Z<|Ze<|Zg<|Zu<|Zk<|Zn<|Ex.keepTo (H' := [[(bx, .cells #[vo, vf, vw, .int .i64 o.last] 99 (0, 0))], so, sf, sw, Ob.sg 105 o]) [1, 1, 1, 1, 1] Z<|?_
   exact Ex.ret1 rfl rfl  ⟨rfl, 0, by rw [Ob.put_form (b := 0) (.inr h3)], by rw [Ob.put_form (b := 0) (.inr h3)]; exact ⟨_, _, _, _, _, _, rfl, hmo, hmf, hmw⟩⟩

theorem acked_c {V : Vw} {o : Ob} {bx : Nat} {vo vf vw : Value} {so sf sw : Sg} (hmo : Om .i64 vo o.mout so) (hmf : Om .u32 vf o.mf sf) (hmw : Om .u32 vw o.mw sw) {k : Int} (hi : o.Inv)  : Does Try.prog 17 [.pointer (some ⟨bx, 0, none⟩), .int .i64 k] V [[(bx, .cells #[vo, vf, vw, .int .i64 o.last] 99 (0, 0))], so, sf, sw, Ob.sg 105 o] (fun v V' H' => V' = V ∧ ∃ b, v = .tuple #[.agg (o.acked k b).1.cells, .bool (o.acked k b).2.1] ∧ Ob.Is 105 99 ((o.acked k b).2.2) bx H') := by
 refine Does.intro Try.func17 rfl rfl (le rfl) (fun B => ?_)
 refine Zs<|Zr<|?_
 refine Run.alloc Outbox_zo35 (lt rfl) (fun b1 => ?_)
 refine Za Z<|Ze<|Zg<|Zs<|Zr<|Zm Z<|Zv (Y.nilCheck Z)<|Zv (Y.fieldAddr Z Outbox_fo99_0)<|Zv (Y.load Z Outbox_ts96 (Kn.at 1 Z) Z)<|Zm Z<|?_
 rcases hx : o.outs.find? (fun x => x.xid == k) with _ | x
 ·refine Zv (Y.lookup (r := .tuple #[.pointer none, .bool false]) Z Z Outbox_mt96 Outbox_zo102 hmo (j := 2) rfl (by rw [Ob.mout_get, hx]; rfl))<|Zm Z<|Zv (Y.extract Z Z)<|Zv (Y.extract Z Z)<|Za Z<|Za Z<|Ze<|Zg<|Zs<|Zs<|Zr<|Zm Z<|Zv (Y.not Z)<|Ze<|Zg<|Tr.cond_t Z Z<|?_
  refine Zs<|Zr<|Zv (Y.buildS (l := []) Outbox_zo35 Outbox_pl35 Z Z)<|Run.store (s := [(b1, .cells #[.int .i64 0, .int .i64 0, .int .i64 0, .int .i64 0, .int .i64 0, .int .u32 0, .int .i64 0, .string ⟨#[]⟩, .int .i64 0, .int .i64 0, .bool false] 35 (0, 0))]) Z Z Outbox_sz35 (i := 0) Z Z (le Z) Z Z<|Za Z<|Ze<|Zg<|Zu<|Zn<|?_
  exact Ex.retCell2 [1, 1, 1, 1, 1] rfl rfl rfl Outbox_ag35 (Kn.at 0 rfl) rfl ⟨rfl, 0, by rw [Ob.acked_none hx]; rfl, by rw [Ob.acked_none hx]; exact ⟨_, _, _, _, _, _, rfl, hmo, hmf, hmw⟩⟩
 ·refine Zv (Y.lookup (r := .tuple #[.pointer (some ⟨x.blk, 0, none⟩), .bool true]) rfl rfl Outbox_mt96 Outbox_zo102 hmo (j := 2) rfl (by rw [Ob.mout_get, hx]; rfl))<|Zm Z<|Zv (Y.extract Z Z)<|Zv (Y.extract Z Z)<|Za Z<|Za Z<|Ze<|Zg<|Zs<|Zs<|Zr<|Zm Z<|Zv (Y.not Z)<|Ze<|Zg<|Tr.cond_f Z Z<|?_
  refine Zt<|Zg<|Zs<|Zr<|Run.keepTo (H' := [[(b1, .cells #[.int .i64 0, .int .i64 0, .int .i64 0, .int .i64 0, .int .i64 0, .int .u32 0, .int .i64 0, .string ⟨#[]⟩, .int .i64 0, .int .i64 0, .bool false] 35 (0, 0))], [(bx, .cells #[vo, vf, vw, .int .i64 o.last] 99 (0, 0))], so, sf, sw, Ob.sg 105 o]) [0, 0, 0, 0, 0, 0] Z<|Run.recut (H' := [[(b1, .cells #[.int .i64 0, .int .i64 0, .int .i64 0, .int .i64 0, .int .i64 0, .int .u32 0, .int .i64 0, .string ⟨#[]⟩, .int .i64 0, .int .i64 0, .bool false] 35 (0, 0))], [(bx, .cells #[vo, vf, vw, .int .i64 o.last] 99 (0, 0))], so, sf, sw, Ob.sg 105 (o.rem k), [(x.blk, .cells #[.int .i64 x.msg.kind, .int .i64 x.msg.life, .int .i64 x.msg.seen, .int .i64 x.msg.xid, .int .i64 x.msg.state, .int .u32 x.msg.addr, .int .i64 x.msg.bind, .string x.msg.client, .int .i64 x.msg.pot, .int .i64 x.msg.at_, .bool x.msg.ok, .int .i64 x.sent] 105 (0, 0))]]) (recut_last (A := [[(b1, .cells #[.int .i64 0, .int .i64 0, .int .i64 0, .int .i64 0, .int .i64 0, .int .u32 0, .int .i64 0, .string ⟨#[]⟩, .int .i64 0, .int .i64 0, .bool false] 35 (0, 0))], [(bx, .cells #[vo, vf, vw, .int .i64 o.last] 99 (0, 0))], so, sf, sw]) (Ob.rem_sg hx))<|?_
  refine Zm Z<|Zv (Y.nilCheck Z)<|Zv (Y.fieldAddr Z Outbox_fo105_0)<|Zv (Y.fieldAddr Z Outbox_fo35_5)<|Zv (Y.load Z Outbox_ts30 (Kn.at 6 Z) Z)<|Za Z<|Ze<|Zg<|Zs<|Zr<|Zm Z<|Zv (Y.nilCheck Z)<|Zv (Y.fieldAddr Z Outbox_fo99_0)<|Zv (Y.load Z Outbox_ts96 (Kn.at 1 Z) Z)<|Zm Z<|?_
  refine Run.mapDelete0 2 rfl rfl Outbox_mt96 hmo rfl (fun s2 hm3 => ?_)
  refine Run.heapTo (H' := [[(b1, .cells #[.int .i64 0, .int .i64 0, .int .i64 0, .int .i64 0, .int .i64 0, .int .u32 0, .int .i64 0, .string ⟨#[]⟩, .int .i64 0, .int .i64 0, .bool false] 35 (0, 0))], [(bx, .cells #[vo, vf, vw, .int .i64 o.last] 99 (0, 0))], s2, sf, sw, Ob.sg 105 (o.rem k), [(x.blk, .cells #[.int .i64 x.msg.kind, .int .i64 x.msg.life, .int .i64 x.msg.seen, .int .i64 x.msg.xid, .int .i64 x.msg.state, .int .u32 x.msg.addr, .int .i64 x.msg.bind, .string x.msg.client, .int .i64 x.msg.pot, .int .i64 x.msg.at_, .bool x.msg.ok, .int .i64 x.sent] 105 (0, 0))]]) Z ?_
  refine Ze<|Zg<|Zs<|Zr<|Zm Z<|Zv (Y.nilCheck Z)<|Zv (Y.fieldAddr Z Outbox_fo99_1)<|Zv (Y.load Z Outbox_ts54 (Kn.at 1 Z) Z)<|Zm Z<|?_
  refine Run.mapDelete0 3 rfl rfl Outbox_mt54 hmf rfl (fun s4 hm5 => ?_)
  refine Run.heapTo (H' := [[(b1, .cells #[.int .i64 0, .int .i64 0, .int .i64 0, .int .i64 0, .int .i64 0, .int .u32 0, .int .i64 0, .string ⟨#[]⟩, .int .i64 0, .int .i64 0, .bool false] 35 (0, 0))], [(bx, .cells #[vo, vf, vw, .int .i64 o.last] 99 (0, 0))], s2, s4, sw, Ob.sg 105 (o.rem k), [(x.blk, .cells #[.int .i64 x.msg.kind, .int .i64 x.msg.life, .int .i64 x.msg.seen, .int .i64 x.msg.xid, .int .i64 x.msg.state, .int .u32 x.msg.addr, .int .i64 x.msg.bind, .string x.msg.client, .int .i64 x.msg.pot, .int .i64 x.msg.at_, .bool x.msg.ok, .int .i64 x.sent] 105 (0, 0))]]) Z ?_
  refine Ze<|Zg<|Zs<|Zr<|Zm Z<|Zm Z<|?_
  refine Run.call [1, 1, 1, 1, 1] (l := [.tmp 36, .tmp 37]) rfl rfl rfl (lt rfl) (goes_c (o := (o.rem k)) (a := x.msg.addr) (Ob.rem_mout hx ▸ hm3) (Ob.rem_mf hi hx ▸ hm5) hmw (Ob.inv_rem hi)) (fun v9 V9 H9 hle9 hR => ?_)
  obtain ⟨hV, b9, vo9, vf9, vw9, so9, sf9, sw9, rfl, hmo9, hmf9, hmw9⟩ := hR; replace hV := hV.symm; subst hV
  refine Run.heapTo (H' := [[(b1, .cells #[.int .i64 0, .int .i64 0, .int .i64 0, .int .i64 0, .int .i64 0, .int .u32 0, .int .i64 0, .string ⟨#[]⟩, .int .i64 0, .int .i64 0, .bool false] 35 (0, 0))], [(x.blk, .cells #[.int .i64 x.msg.kind, .int .i64 x.msg.life, .int .i64 x.msg.seen, .int .i64 x.msg.xid, .int .i64 x.msg.state, .int .u32 x.msg.addr, .int .i64 x.msg.bind, .string x.msg.client, .int .i64 x.msg.pot, .int .i64 x.msg.at_, .bool x.msg.ok, .int .i64 x.sent] 105 (0, 0))], [(bx, .cells #[vo9, vf9, vw9, .int .i64 ((Ob.goes (o.rem k) x.msg.addr b9).last)] 99 (0, 0))], so9, sf9, sw9, Ob.sg 105 (Ob.goes (o.rem k) x.msg.addr b9)]) Z ?_
  refine Run.heapTo (H' := [[(b1, .cells #[.int .i64 0, .int .i64 0, .int .i64 0, .int .i64 0, .int .i64 0, .int .u32 0, .int .i64 0, .string ⟨#[]⟩, .int .i64 0, .int .i64 0, .bool false] 35 (0, 0))], [(x.blk, .cells #[.int .i64 x.msg.kind, .int .i64 x.msg.life, .int .i64 x.msg.seen, .int .i64 x.msg.xid, .int .i64 x.msg.state, .int .u32 x.msg.addr, .int .i64 x.msg.bind, .string x.msg.client, .int .i64 x.msg.pot, .int .i64 x.msg.at_, .bool x.msg.ok, .int .i64 x.sent] 105 (0, 0))], [(bx, .cells #[vo9, vf9, vw9, .int .i64 ((Ob.goes (o.rem k) x.msg.addr b9).last)] 99 (0, 0))], so9, sf9, sw9, Ob.sg 105 (Ob.goes (o.rem k) x.msg.addr b9)]) Z ?_
  refine Ze<|Zg<|Zs<|Zr<|Zm Z<|Zv (Y.nilCheck Z)<|Zv (Y.fieldAddr Z Outbox_fo105_0)<|Zv (Y.loadAgg Z Outbox_ag35 (Kn.at 1 Z) Z)<|Run.store (s := [(b1, .cells #[.int .i64 x.msg.kind, .int .i64 x.msg.life, .int .i64 x.msg.seen, .int .i64 x.msg.xid, .int .i64 x.msg.state, .int .u32 x.msg.addr, .int .i64 x.msg.bind, .string x.msg.client, .int .i64 x.msg.pot, .int .i64 x.msg.at_, .bool x.msg.ok] 35 (0, 0))]) Z Z Outbox_sz35 (i := 0) Z Z (le Z) Z Z<|?_
  refine Za Z<|Ze<|Zg<|Zu<|?_
  exact Ex.retCell2 [2, 2, 2, 2, 2] rfl rfl rfl Outbox_ag35 (Kn.at 0 rfl) rfl ⟨rfl, b9, by rw [Ob.acked_some hx]; rfl, by rw [Ob.acked_some hx]; exact ⟨_, _, _, _, _, _, rfl, hmo9, hmf9, hmw9⟩⟩
end Go.Proofs.Ytpdnkhdmajmbiaa
