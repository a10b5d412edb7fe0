/- What was answered to messages, walked.
Conditions: as each theorem names them. -/
import Derived.Test.YtpdnkhdmajmbiaaProg
import Derived.Test.YtpdnkhdmajmbiaaBA
import Derived.Test.YtpdnkhdmajmbiaaOutbox
import Derived.Test.YtpdnkhdmajmbiaaZG
set_option linter.unusedSimpArgs false
set_option linter.unusedVariables false
set_option maxRecDepth 4000
namespace Go.Proofs.Ytpdnkhdmajmbiaa
open Go Go.K
attribute [local irreducible] Code.wp wpList Calls wpQuiet
theorem Seen_zo111 : zeroOf Try.prog 111 = some (.agg #[.map none]) := by kernel_rfl
theorem Seen_pl111 : placesS Try.prog 111 = some [(0, 1)] := by kernel_rfl
theorem Seen_mo : Try.prog.follows .mixedOrders = true := by kernel_rfl
theorem Seen_fo111_0 : fieldOff Try.prog 111 0 = some 0 := by kernel_rfl
theorem Seen_ts109 : scal Try.prog 109 = true := by kernel_rfl
theorem Seen_fo35_5 : fieldOff Try.prog 35 5 = some 5 := by kernel_rfl
theorem Seen_ts30 : scal Try.prog 30 = true := by kernel_rfl
theorem Seen_mt109 : mapT Try.prog 109 = some (.u32, 30, 116) := by kernel_rfl
theorem Seen_zo116 : zeroOf Try.prog 116 = some (.agg #[.int .i64 0, .bool false]) := by kernel_rfl
theorem Seen_sz116 : sizeT Try.prog 116 = some 2 := by kernel_rfl
theorem Seen_fo35_3 : fieldOff Try.prog 35 3 = some 3 := by kernel_rfl
theorem Seen_ts3 : scal Try.prog 3 = true := by kernel_rfl
theorem Seen_fo116_0 : fieldOff Try.prog 116 0 = some 0 := by kernel_rfl
theorem Seen_fo116_1 : fieldOff Try.prog 116 1 = some 1 := by kernel_rfl
theorem Seen_ts4 : scal Try.prog 4 = true := by kernel_rfl
theorem Seen_fs116_0 : fieldS Try.prog 116 0 = some 0 := by kernel_rfl
theorem Seen_pl116 : placesS Try.prog 116 = some [(0, 1), (1, 1)] := by kernel_rfl

theorem news_c {V : Vw}  : Does Try.prog 20 [] V [] (fun v V' H' => V' = V ∧ ∃ sx vs ss, v = .pointer (some ⟨sx, 0, none⟩) ∧ Om .u32 vs (Sn.ms []) ss ∧ H' = [[(sx, .cells #[vs] 111 (0, 0))], ss]) := by
 refine Does.intro Try.func20 rfl rfl (le rfl) (fun B => ?_)
 refine Zs<|Zr<|Za Z<|Ze<|Zg<|Zs<|Zr<|?_
 refine Run.makeMap .u32 (lt rfl) (fun v1 s2 hm3 => ?_)
 obtain ⟨b4, rfl⟩ := hm3.form
 refine Zv (Y.buildS (l := [(0, .tmp 1)]) Seen_zo111 Seen_pl111 Z Z) ?_
 refine Run.box rfl (lt rfl) (fun b5 => ?_)
 refine Za Z<|Ze<|Zg<|Zu<|Ex.keep [0, 0]<|?_
 exact Ex.ret1 rfl rfl  ⟨rfl, b5, _, _, rfl, hm3, rfl⟩

theorem take_c {V : Vw} {l : List (Int × (Int × Bool))} {sx : Nat} {vs : Value} {ss : Sg} (hms : Om .u32 vs (Sn.ms l) ss) {m : Msg}  : Does Try.prog 22 [.pointer (some ⟨sx, 0, none⟩), .agg #[.int .i64 m.kind, .int .i64 m.life, .int .i64 m.seen, .int .i64 m.xid, .int .i64 m.state, .int .u32 m.addr, .int .i64 m.bind, .string m.client, .int .i64 m.pot, .int .i64 m.at_, .bool m.ok]] V [[(sx, .cells #[vs] 111 (0, 0))], ss] (Pv (.tuple #[.bool (Sn.newer l m.addr m.xid), .bool (Sn.yes l m.addr m.xid), .bool (Sn.same l m.addr m.xid)]) V [[(sx, .cells #[vs] 111 (0, 0))], ss]) := by
 refine Does.intro Try.func22 rfl rfl (le rfl) (fun B => ?_)
 refine Zs<|Zr<|?_
 refine Run.box rfl (lt rfl) (fun b1 => ?_)
 rcases hx : l.lookup m.addr with _ | x
 ·refine Za Z<|Za Z<|Za Z<|Ze<|Zg<|Zs<|Tr.anyD [(sx, .cells #[vs] 111 (0, 0)), (b1, .cells #[.int .i64 m.kind, .int .i64 m.life, .int .i64 m.seen, .int .i64 m.xid, .int .i64 m.state, .int .u32 m.addr, .int .i64 m.bind, .string m.client, .int .i64 m.pot, .int .i64 m.at_, .bool m.ok] 35 (0, 0))] Seen_mo<|RunD.pure (i := 0) rfl WK WK WK (fun _ _ _ h => h) (lt rfl) (KnAll.cons (Kn.at 1 rfl) (ZK 0 Z)) (fun _ => (Y.move rfl))<|?_
  refine RunD.pure (i := 1) rfl WK WK WK (fun _ _ _ h => h) (lt rfl) (KnAll.cons (Kn.at 1 rfl) (ZK 0 Z)) (fun _ => (Y.nilCheck rfl))<|RunD.pure (i := 2) rfl WK WK WK (fun _ _ _ h => h) (lt rfl) (KnAll.cons (Kn.at 1 rfl) (ZK 0 Z)) (fun _ => (Y.fieldAddr rfl Seen_fo111_0))<|RunD.take (i := 3) 0 rfl rfl WK WK WK (fun _ _ _ h => h) (lt rfl) (KnAll.cons (Kn.at 1 rfl) (ZK 0 Z)) (fun _ => (Y.load rfl Seen_ts109 Kn.vk1 rfl))<|?_
  refine RunD.pure (i := 4) rfl WK WK WK (fun _ _ _ h => h) (lt rfl) (KnAll.cons (Kn.at 1 rfl) (ZK 0 Z)) (fun _ => (Y.fieldAddr rfl Seen_fo35_5))<|RunD.take (i := 5) 1 rfl rfl WK WK WK (fun _ _ _ h => h) (lt rfl) (KnAll.cons (Kn.at 1 rfl) (ZK 0 Z)) (fun _ => (Y.load rfl Seen_ts30 Kn.vk1 rfl))<|?_
  refine RunD.two (i := 6) (j := 10) WK rfl rfl  ?_ ?_ 
  ·refine Zv (Y.lookup (r := .tuple #[.agg #[.int .i64 0, .bool false], .bool false]) Z Z Seen_mt109 Seen_zo116 hms (j := 2) rfl (by rw [Sn.ms_get, hx]; rfl))<|Ze<|Ex.anyD (KnAll.cons (Kn.at 1 Z) (ZK 0 Z))<|RunD.pure (i := 7) rfl WK WK WK (fun _ _ _ h => h) (lt rfl) (KnAll.cons (Kn.at 1 rfl) (ZK 0 Z)) (fun _ => (Y.move rfl))<|RunD.pure (i := 8) rfl WK WK WK (fun _ _ _ h => h) (lt rfl) (KnAll.cons (Kn.at 1 rfl) (ZK 0 Z)) (fun _ => (Y.extract rfl rfl))<|?_
   refine RunD.pure (i := 9) rfl WK WK WK (fun _ _ _ h => h) (lt rfl) (KnAll.cons (Kn.at 1 rfl) (ZK 0 Z)) (fun _ => (Y.extract rfl rfl)) ?_
   refine RunD.one (i := 10) WK rfl  ?_ 
   refine Run.alloc Seen_zo116 (lt rfl) (fun b2 => ?_)
   refine Ze<|Ex.anyD (KnAll.cons (Kn.at 2 Z) (ZK 1 Z))<|?_
   refine RunD.one (i := 11) WK rfl  ?_ 
   refine Run.store (s := [(b2, .cells #[.int .i64 0, .bool false] 116 (0, 0))]) Z Z Seen_sz116 (i := 0) Z Z (le Z) Z Z<|Ze<|Ex.anyD (KnAll.cons (Kn.at 2 Z) (ZK 1 Z))<|RunD.pure (i := 12) rfl WK WK WK (fun _ _ _ h => h) (lt rfl) (KnAll.cons (Kn.at 2 rfl) (ZK 1 Z)) (fun _ => (Y.assign rfl))<|RunD.done WK<|Zg<|Zs<|Zr<|Zm Z<|Zm Z<|Zo Z Z<|Zo Z Z<|Zo Z Z<|Zo Z Z<|Zo Z Z<|Zv (Y.pick_f Z Z Z)<|?_
   refine Za Z<|Ze<|Zg<|Zs<|Tr.quiet Seen_mo WK<|ZV (Y.fieldAddr Z Seen_fo35_3)<|ZV (Y.load Z Seen_ts3 (Kn.at 1 Z) Z)<|ZV (Y.fieldAddr Z Seen_fo116_0)<|ZV (Y.load Z Seen_ts3 (Kn.at 0 Z) Z)<|ZV (Y.int Z Z Z)<|ZM Z<|ZM Z<|ZO Z Z<|ZO Z Z<|ZV (Y.pick_f Z Z Z)<|ZM Z<|?_
   refine ZA Z<|ZA Z<|ZA Z<|ZE<|Zg<|Zu<|Ex.keep [2, 2]<|?_
   exact Ex.ret3 rfl rfl rfl rfl  ⟨by unfold Sn.newer Sn.yes Sn.same Sn.got; rw [hx]; rfl, rfl, rfl⟩
  ·refine Run.alloc Seen_zo116 (lt rfl) (fun b3 => ?_)
   refine Ze<|Ex.anyD (KnAll.cons (Kn.at 2 Z) (ZK 1 Z))<|?_
   refine RunD.one (i := 6) WK rfl  ?_ 
   refine Zv (Y.lookup (r := .tuple #[.agg #[.int .i64 0, .bool false], .bool false]) Z Z Seen_mt109 Seen_zo116 hms (j := 3) rfl (by rw [Sn.ms_get, hx]; rfl))<|Ze<|Ex.anyD (KnAll.cons (Kn.at 2 Z) (ZK 1 Z))<|RunD.pure (i := 7) rfl WK WK WK (fun _ _ _ h => h) (lt rfl) (KnAll.cons (Kn.at 2 rfl) (ZK 1 Z)) (fun _ => (Y.move rfl))<|RunD.pure (i := 8) rfl WK WK WK (fun _ _ _ h => h) (lt rfl) (KnAll.cons (Kn.at 2 rfl) (ZK 1 Z)) (fun _ => (Y.extract rfl rfl))<|?_
   refine RunD.pure (i := 9) rfl WK WK WK (fun _ _ _ h => h) (lt rfl) (KnAll.cons (Kn.at 2 rfl) (ZK 1 Z)) (fun _ => (Y.extract rfl rfl)) ?_
   refine RunD.one (i := 11) WK rfl  ?_ 
   refine Run.store (s := [(b3, .cells #[.int .i64 0, .bool false] 116 (0, 0))]) Z Z Seen_sz116 (i := 0) Z Z (le Z) Z Z<|Ze<|Ex.anyD (KnAll.cons (Kn.at 2 Z) (ZK 1 Z))<|RunD.pure (i := 12) rfl WK WK WK (fun _ _ _ h => h) (lt rfl) (KnAll.cons (Kn.at 2 rfl) (ZK 1 Z)) (fun _ => (Y.assign rfl))<|RunD.done WK<|Zg<|Zs<|Zr<|Zm Z<|Zm Z<|Zo Z Z<|Zo Z Z<|Zo Z Z<|Zo Z Z<|Zo Z Z<|Zv (Y.pick_f Z Z Z)<|?_
   refine Za Z<|Ze<|Zg<|Zs<|Tr.quiet Seen_mo WK<|ZV (Y.fieldAddr Z Seen_fo35_3)<|ZV (Y.load Z Seen_ts3 (Kn.at 1 Z) Z)<|ZV (Y.fieldAddr Z Seen_fo116_0)<|ZV (Y.load Z Seen_ts3 (Kn.at 0 Z) Z)<|ZV (Y.int Z Z Z)<|ZM Z<|ZM Z<|ZO Z Z<|ZO Z Z<|ZV (Y.pick_f Z Z Z)<|ZM Z<|?_
   refine ZA Z<|ZA Z<|ZA Z<|ZE<|Zg<|Zu<|Ex.keep [2, 2]<|?_
   exact Ex.ret3 rfl rfl rfl rfl  ⟨by unfold Sn.newer Sn.yes Sn.same Sn.got; rw [hx]; rfl, rfl, rfl⟩
 ·refine Za Z<|Za Z<|Za Z<|Ze<|Zg<|Zs<|Tr.anyD [(sx, .cells #[vs] 111 (0, 0)), (b1, .cells #[.int .i64 m.kind, .int .i64 m.life, .int .i64 m.seen, .int .i64 m.xid, .int .i64 m.state, .int .u32 m.addr, .int .i64 m.bind, .string m.client, .int .i64 m.pot, .int .i64 m.at_, .bool m.ok] 35 (0, 0))] Seen_mo<|RunD.pure (i := 0) rfl WK WK WK (fun _ _ _ h => h) (lt rfl) (KnAll.cons (Kn.at 1 rfl) (ZK 0 Z)) (fun _ => (Y.move rfl))<|?_
  refine RunD.pure (i := 1) rfl WK WK WK (fun _ _ _ h => h) (lt rfl) (KnAll.cons (Kn.at 1 rfl) (ZK 0 Z)) (fun _ => (Y.nilCheck rfl))<|RunD.pure (i := 2) rfl WK WK WK (fun _ _ _ h => h) (lt rfl) (KnAll.cons (Kn.at 1 rfl) (ZK 0 Z)) (fun _ => (Y.fieldAddr rfl Seen_fo111_0))<|RunD.take (i := 3) 0 rfl rfl WK WK WK (fun _ _ _ h => h) (lt rfl) (KnAll.cons (Kn.at 1 rfl) (ZK 0 Z)) (fun _ => (Y.load rfl Seen_ts109 Kn.vk1 rfl))<|?_
  refine RunD.pure (i := 4) rfl WK WK WK (fun _ _ _ h => h) (lt rfl) (KnAll.cons (Kn.at 1 rfl) (ZK 0 Z)) (fun _ => (Y.fieldAddr rfl Seen_fo35_5))<|RunD.take (i := 5) 1 rfl rfl WK WK WK (fun _ _ _ h => h) (lt rfl) (KnAll.cons (Kn.at 1 rfl) (ZK 0 Z)) (fun _ => (Y.load rfl Seen_ts30 Kn.vk1 rfl))<|?_
  refine RunD.two (i := 6) (j := 10) WK rfl rfl  ?_ ?_ 
  ·refine Zv (Y.lookup (r := .tuple #[.agg #[.int .i64 x.1, .bool x.2], .bool true]) Z Z Seen_mt109 Seen_zo116 hms (j := 2) rfl (by rw [Sn.ms_get, hx]; rfl))<|Ze<|Ex.anyD (KnAll.cons (Kn.at 1 Z) (ZK 0 Z))<|RunD.pure (i := 7) rfl WK WK WK (fun _ _ _ h => h) (lt rfl) (KnAll.cons (Kn.at 1 rfl) (ZK 0 Z)) (fun _ => (Y.move rfl))<|RunD.pure (i := 8) rfl WK WK WK (fun _ _ _ h => h) (lt rfl) (KnAll.cons (Kn.at 1 rfl) (ZK 0 Z)) (fun _ => (Y.extract rfl rfl))<|?_
   refine RunD.pure (i := 9) rfl WK WK WK (fun _ _ _ h => h) (lt rfl) (KnAll.cons (Kn.at 1 rfl) (ZK 0 Z)) (fun _ => (Y.extract rfl rfl)) ?_
   refine RunD.one (i := 10) WK rfl  ?_ 
   refine Run.alloc Seen_zo116 (lt rfl) (fun b4 => ?_)
   refine Ze<|Ex.anyD (KnAll.cons (Kn.at 2 Z) (ZK 1 Z))<|?_
   refine RunD.one (i := 11) WK rfl  ?_ 
   refine Run.store (s := [(b4, .cells #[.int .i64 x.1, .bool x.2] 116 (0, 0))]) Z Z Seen_sz116 (i := 0) Z Z (le Z) Z Z<|Ze<|Ex.anyD (KnAll.cons (Kn.at 2 Z) (ZK 1 Z))<|RunD.pure (i := 12) rfl WK WK WK (fun _ _ _ h => h) (lt rfl) (KnAll.cons (Kn.at 2 rfl) (ZK 1 Z)) (fun _ => (Y.assign rfl))<|RunD.done WK<|Zg<|Zs<|Zr<|Zm Z<|Zm Z<|Zp Z<|Zv (Y.fieldAddr Z Seen_fo35_3)<|Zp Z<|Zv (Y.load Z Seen_ts3 (Kn.at 1 Z) Z)<|?_
   refine Zp Z<|Zv (Y.fieldAddr Z Seen_fo116_0)<|Zp Z<|Zv (Y.load Z Seen_ts3 (Kn.at 0 Z) Z)<|Zp Z<|Zv (Y.int Z Z Z)<|Zv (Y.pick_t Z Z Z)<|Za Z<|Ze<|Zg<|Zs<|Tr.quiet Seen_mo WK<|ZV (Y.fieldAddr Z Seen_fo35_3)<|ZV (Y.load Z Seen_ts3 (Kn.at 1 Z) Z)<|ZV (Y.fieldAddr Z Seen_fo116_0)<|ZV (Y.load Z Seen_ts3 (Kn.at 0 Z) Z)<|?_
   refine ZV (Y.int Z Z Z)<|ZM Z<|ZM Z<|?_
   rcases Zsplit (m.xid == x.1) with ⟨h5, g5⟩ | ⟨h5, g5⟩ <;> try simp only [kb] at g5
   ·refine ZP h5<|ZV (Y.fieldAddr Z Seen_fo116_1)<|ZP h5<|ZV (Y.load Z Seen_ts4 (Kn.at 0 Z) Z)<|ZV (Y.pick_t Z h5 Z)<|ZM Z<|ZA Z<|ZA Z<|ZA Z<|ZE<|Zg<|Zu<|Ex.keep [2, 2]<|?_
    exact Ex.ret3 rfl rfl rfl rfl  ⟨by unfold Sn.newer Sn.yes Sn.same Sn.got; rw [hx]; simp only [Option.getD_some, Option.isSome_some, Bool.true_and, Bool.false_and, h5] <;> rfl, rfl, rfl⟩
   ·refine ZO h5 Z<|ZO h5 Z<|ZV (Y.pick_f Z h5 Z)<|ZM Z<|ZA Z<|ZA Z<|ZA Z<|ZE<|Zg<|Zu<|Ex.keep [2, 2]<|?_
    exact Ex.ret3 rfl rfl rfl rfl  ⟨by unfold Sn.newer Sn.yes Sn.same Sn.got; rw [hx]; simp only [Option.getD_some, Option.isSome_some, Bool.true_and, Bool.false_and, h5] <;> rfl, rfl, rfl⟩
  ·refine Run.alloc Seen_zo116 (lt rfl) (fun b6 => ?_)
   refine Ze<|Ex.anyD (KnAll.cons (Kn.at 2 Z) (ZK 1 Z))<|?_
   refine RunD.one (i := 6) WK rfl  ?_ 
   refine Zv (Y.lookup (r := .tuple #[.agg #[.int .i64 x.1, .bool x.2], .bool true]) Z Z Seen_mt109 Seen_zo116 hms (j := 3) rfl (by rw [Sn.ms_get, hx]; rfl))<|Ze<|Ex.anyD (KnAll.cons (Kn.at 2 Z) (ZK 1 Z))<|RunD.pure (i := 7) rfl WK WK WK (fun _ _ _ h => h) (lt rfl) (KnAll.cons (Kn.at 2 rfl) (ZK 1 Z)) (fun _ => (Y.move rfl))<|RunD.pure (i := 8) rfl WK WK WK (fun _ _ _ h => h) (lt rfl) (KnAll.cons (Kn.at 2 rfl) (ZK 1 Z)) (fun _ => (Y.extract rfl rfl))<|?_
   refine RunD.pure (i := 9) rfl WK WK WK (fun _ _ _ h => h) (lt rfl) (KnAll.cons (Kn.at 2 rfl) (ZK 1 Z)) (fun _ => (Y.extract rfl rfl)) ?_
   refine RunD.one (i := 11) WK rfl  ?_ 
   refine Run.store (s := [(b6, .cells #[.int .i64 x.1, .bool x.2] 116 (0, 0))]) Z Z Seen_sz116 (i := 0) Z Z (le Z) Z Z<|Ze<|Ex.anyD (KnAll.cons (Kn.at 2 Z) (ZK 1 Z))<|RunD.pure (i := 12) rfl WK WK WK (fun _ _ _ h => h) (lt rfl) (KnAll.cons (Kn.at 2 rfl) (ZK 1 Z)) (fun _ => (Y.assign rfl))<|RunD.done WK<|Zg<|Zs<|Zr<|Zm Z<|Zm Z<|Zp Z<|Zv (Y.fieldAddr Z Seen_fo35_3)<|Zp Z<|Zv (Y.load Z Seen_ts3 (Kn.at 1 Z) Z)<|?_
   refine Zp Z<|Zv (Y.fieldAddr Z Seen_fo116_0)<|Zp Z<|Zv (Y.load Z Seen_ts3 (Kn.at 0 Z) Z)<|Zp Z<|Zv (Y.int Z Z Z)<|Zv (Y.pick_t Z Z Z)<|Za Z<|Ze<|Zg<|Zs<|Tr.quiet Seen_mo WK<|ZV (Y.fieldAddr Z Seen_fo35_3)<|ZV (Y.load Z Seen_ts3 (Kn.at 1 Z) Z)<|ZV (Y.fieldAddr Z Seen_fo116_0)<|ZV (Y.load Z Seen_ts3 (Kn.at 0 Z) Z)<|?_
   refine ZV (Y.int Z Z Z)<|ZM Z<|ZM Z<|?_
   rcases Zsplit (m.xid == x.1) with ⟨h7, g7⟩ | ⟨h7, g7⟩ <;> try simp only [kb] at g7
   ·refine ZP h7<|ZV (Y.fieldAddr Z Seen_fo116_1)<|ZP h7<|ZV (Y.load Z Seen_ts4 (Kn.at 0 Z) Z)<|ZV (Y.pick_t Z h7 Z)<|ZM Z<|ZA Z<|ZA Z<|ZA Z<|ZE<|Zg<|Zu<|Ex.keep [2, 2]<|?_
    exact Ex.ret3 rfl rfl rfl rfl  ⟨by unfold Sn.newer Sn.yes Sn.same Sn.got; rw [hx]; simp only [Option.getD_some, Option.isSome_some, Bool.true_and, Bool.false_and, h7] <;> rfl, rfl, rfl⟩
   ·refine ZO h7 Z<|ZO h7 Z<|ZV (Y.pick_f Z h7 Z)<|ZM Z<|ZA Z<|ZA Z<|ZA Z<|ZE<|Zg<|Zu<|Ex.keep [2, 2]<|?_
    exact Ex.ret3 rfl rfl rfl rfl  ⟨by unfold Sn.newer Sn.yes Sn.same Sn.got; rw [hx]; simp only [Option.getD_some, Option.isSome_some, Bool.true_and, Bool.false_and, h7] <;> rfl, rfl, rfl⟩

theorem note_c {V : Vw} {l : List (Int × (Int × Bool))} {sx : Nat} {vs : Value} {ss : Sg} (hms : Om .u32 vs (Sn.ms l) ss) {m : Msg} {ok : Bool}  : Does Try.prog 24 [.pointer (some ⟨sx, 0, none⟩), .agg #[.int .i64 m.kind, .int .i64 m.life, .int .i64 m.seen, .int .i64 m.xid, .int .i64 m.state, .int .u32 m.addr, .int .i64 m.bind, .string m.client, .int .i64 m.pot, .int .i64 m.at_, .bool m.ok], .bool ok] V [[(sx, .cells #[vs] 111 (0, 0))], ss] (fun _ V' H' => V' = V ∧ ∃ s2, Om .u32 vs (Sn.ms (Sn.note l m.addr m.xid ok)) s2 ∧ H' = [[(sx, .cells #[vs] 111 (0, 0))], s2]) := by
 refine Does.intro Try.func24 rfl rfl (le rfl) (fun B => ?_)
 refine Zs<|Zr<|?_
 rcases hx : l.lookup m.addr with _ | x
 ·refine Run.box rfl (lt rfl) (fun b1 => ?_)
  refine Ze<|Zg<|Zs<|Tr.quiet Seen_mo WK<|ZV (Y.fieldAddr Z Seen_fo35_3)<|ZV (Y.load Z Seen_ts3 (Kn.at 0 Z) Z)<|ZM Z<|ZV (Y.nilCheck Z)<|ZV (Y.fieldAddr Z Seen_fo111_0)<|ZV (Y.load Z Seen_ts109 (Kn.at 1 Z) Z)<|ZV (Y.fieldAddr Z Seen_fo35_5)<|ZV (Y.load Z Seen_ts30 (Kn.at 0 Z) Z)<|ZV (Y.lookup (r := .agg #[.int .i64 0, .bool false]) Z Z Seen_mt109 Seen_zo116 hms (j := 2) rfl (by rw [Sn.ms_get, hx]; rfl))<|ZV (Y.field Z Seen_fs116_0 Z)<|?_
  refine ZV (Y.int Z Z Z)<|ZE<|Zg<|?_
  rcases Zsplit (decide (m.xid > 0)) with ⟨h2, g2⟩ | ⟨h2, g2⟩ <;> try simp only [kb] at g2
  ·refine Tr.cond_t Z h2<|Tr.tail 10 Seen_mo WK<|ZM Z<|ZV (Y.nilCheck Z)<|ZV (Y.fieldAddr Z Seen_fo111_0)<|ZV (Y.load Z Seen_ts109 (Kn.at 1 Z) Z)<|ZV (Y.fieldAddr Z Seen_fo35_5)<|ZV (Y.load Z Seen_ts30 (Kn.at 0 Z) Z)<|ZV (Y.fieldAddr Z Seen_fo35_3)<|ZV (Y.load Z Seen_ts3 (Kn.at 0 Z) Z)<|ZM Z<|ZV (Y.buildS (l := [(0, .tmp 24), (1, .tmp 25)]) Seen_zo116 Seen_pl116 Z Z)<|RunQ.nil_run<|?_
   refine Run.mapUpdate 2 rfl rfl rfl Seen_mt109 hms rfl (fun s3 hm4 => ?_)
   refine Run.heapTo (H' := [[(b1, .cells #[.int .i64 m.kind, .int .i64 m.life, .int .i64 m.seen, .int .i64 m.xid, .int .i64 m.state, .int .u32 m.addr, .int .i64 m.bind, .string m.client, .int .i64 m.pot, .int .i64 m.at_, .bool m.ok] 35 (0, 0))], [(sx, .cells #[vs] 111 (0, 0))], s3]) Z<|Ze<|Ex.keepTo (H' := [[(sx, .cells #[vs] 111 (0, 0))], s3]) [1, 1] Z<|?_
   have hg : Sn.got l m.addr = ((0, false)) := by unfold Sn.got; rw [hx]; rfl
   exact Ex.end0 rfl ⟨rfl, s3, by rw [show Sn.note l m.addr m.xid ok = Sn.set l m.addr (m.xid, ok) from if_pos (by rw [hg]; dsimp only; omega), ← Sn.ms_set]; exact hm4, rfl⟩
  ·refine Tr.cond_f Z h2<|Zt<|Ex.keepTo (H' := [[(sx, .cells #[vs] 111 (0, 0))], ss]) [1, 1] Z<|?_
   have hg : Sn.got l m.addr = ((0, false)) := by unfold Sn.got; rw [hx]; rfl
   exact Ex.end0 rfl ⟨rfl, ss, by rw [show Sn.note l m.addr m.xid ok = l from if_neg (by rw [hg]; dsimp only; omega)]; exact hms, rfl⟩
 ·refine Run.box rfl (lt rfl) (fun b5 => ?_)
  refine Ze<|Zg<|Zs<|Tr.quiet Seen_mo WK<|ZV (Y.fieldAddr Z Seen_fo35_3)<|ZV (Y.load Z Seen_ts3 (Kn.at 0 Z) Z)<|ZM Z<|ZV (Y.nilCheck Z)<|ZV (Y.fieldAddr Z Seen_fo111_0)<|ZV (Y.load Z Seen_ts109 (Kn.at 1 Z) Z)<|ZV (Y.fieldAddr Z Seen_fo35_5)<|ZV (Y.load Z Seen_ts30 (Kn.at 0 Z) Z)<|ZV (Y.lookup (r := .agg #[.int .i64 x.1, .bool x.2]) Z Z Seen_mt109 Seen_zo116 hms (j := 2) rfl (by rw [Sn.ms_get, hx]; rfl))<|ZV (Y.field Z Seen_fs116_0 Z)<|?_
  refine ZV (Y.int Z Z Z)<|ZE<|Zg<|?_
  rcases Zsplit (decide (m.xid > x.1)) with ⟨h6, g6⟩ | ⟨h6, g6⟩ <;> try simp only [kb] at g6
  ·refine Tr.cond_t Z h6<|Tr.tail 10 Seen_mo WK<|ZM Z<|ZV (Y.nilCheck Z)<|ZV (Y.fieldAddr Z Seen_fo111_0)<|ZV (Y.load Z Seen_ts109 (Kn.at 1 Z) Z)<|ZV (Y.fieldAddr Z Seen_fo35_5)<|ZV (Y.load Z Seen_ts30 (Kn.at 0 Z) Z)<|ZV (Y.fieldAddr Z Seen_fo35_3)<|ZV (Y.load Z Seen_ts3 (Kn.at 0 Z) Z)<|ZM Z<|ZV (Y.buildS (l := [(0, .tmp 24), (1, .tmp 25)]) Seen_zo116 Seen_pl116 Z Z)<|RunQ.nil_run<|?_
   refine Run.mapUpdate 2 rfl rfl rfl Seen_mt109 hms rfl (fun s7 hm8 => ?_)
   refine Run.heapTo (H' := [[(b5, .cells #[.int .i64 m.kind, .int .i64 m.life, .int .i64 m.seen, .int .i64 m.xid, .int .i64 m.state, .int .u32 m.addr, .int .i64 m.bind, .string m.client, .int .i64 m.pot, .int .i64 m.at_, .bool m.ok] 35 (0, 0))], [(sx, .cells #[vs] 111 (0, 0))], s7]) Z<|Ze<|Ex.keepTo (H' := [[(sx, .cells #[vs] 111 (0, 0))], s7]) [1, 1] Z<|?_
   have hg : Sn.got l m.addr = ((x.1, x.2)) := by unfold Sn.got; rw [hx]; rfl
   exact Ex.end0 rfl ⟨rfl, s7, by rw [show Sn.note l m.addr m.xid ok = Sn.set l m.addr (m.xid, ok) from if_pos (by rw [hg]; dsimp only; omega), ← Sn.ms_set]; exact hm8, rfl⟩
  ·refine Tr.cond_f Z h6<|Zt<|Ex.keepTo (H' := [[(sx, .cells #[vs] 111 (0, 0))], ss]) [1, 1] Z<|?_
   have hg : Sn.got l m.addr = ((x.1, x.2)) := by unfold Sn.got; rw [hx]; rfl
   exact Ex.end0 rfl ⟨rfl, ss, by rw [show Sn.note l m.addr m.xid ok = l from if_neg (by rw [hg]; dsimp only; omega)]; exact hms, rfl⟩
end Go.Proofs.Ytpdnkhdmajmbiaa
