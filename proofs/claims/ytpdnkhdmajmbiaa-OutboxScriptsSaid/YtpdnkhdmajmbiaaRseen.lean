/- The reference of what was answered to messages, walked.
Conditions: as each theorem names them. -/
import Derived.Test.YtpdnkhdmajmbiaaProg
import Derived.Test.YtpdnkhdmajmbiaaBA
import Derived.Test.YtpdnkhdmajmbiaaOutbox
import Derived.Test.YtpdnkhdmajmbiaaKC
import Derived.Test.YtpdnkhdmajmbiaaLA
import Derived.Test.YtpdnkhdmajmbiaaKF
import Derived.Test.YtpdnkhdmajmbiaaZG
set_option linter.unusedSimpArgs false
set_option linter.unusedVariables false
set_option maxRecDepth 4000
namespace Go.Proofs.Ytpdnkhdmajmbiaa
open Go Go.K
attribute [local irreducible] Code.wp wpList Calls wpQuiet
theorem Rseen_fo114_0 : fieldOff Try.prog 114 0 = some 0 := by kernel_rfl
theorem Rseen_ts112 : scal Try.prog 112 = true := by kernel_rfl
theorem Rseen_es112 : elemS Try.prog 112 = some (119, 3) := by kernel_rfl
theorem Rseen_mo : Try.prog.follows .mixedOrders = true := by kernel_rfl
theorem Rseen_fo119_0 : fieldOff Try.prog 119 0 = some 0 := by kernel_rfl
theorem Rseen_ts30 : scal Try.prog 30 = true := by kernel_rfl
theorem Rseen_fo35_5 : fieldOff Try.prog 35 5 = some 5 := by kernel_rfl
theorem Rseen_fo35_3 : fieldOff Try.prog 35 3 = some 3 := by kernel_rfl
theorem Rseen_ts3 : scal Try.prog 3 = true := by kernel_rfl
theorem Rseen_fo119_1 : fieldOff Try.prog 119 1 = some 1 := by kernel_rfl
theorem Rseen_fo119_2 : fieldOff Try.prog 119 2 = some 2 := by kernel_rfl
theorem Rseen_ts4 : scal Try.prog 4 = true := by kernel_rfl
theorem Rseen_ag35 : aggsz Try.prog 35 = some 11 := by kernel_rfl
theorem Rseen_zo119 : zeroOf Try.prog 119 = some (.agg #[.int .u32 0, .int .i64 0, .bool false]) := by kernel_rfl
theorem Rseen_pl119 : placesS Try.prog 119 = some [(0, 1), (1, 1), (2, 1)] := by kernel_rfl
theorem Rseen_sz119 : sizeT Try.prog 119 = some 3 := by kernel_rfl
theorem Rseen_zi119 : zeroInfo Try.prog 119 = some (3, 24, .agg #[.int .u32 0, .int .i64 0, .bool false]) := by kernel_rfl
theorem Rseen_sz112 : sizeT Try.prog 112 = some 1 := by kernel_rfl
theorem Rseen_zo114 : zeroOf Try.prog 114 = some (.agg #[.slice none 0 0]) := by kernel_rfl
theorem Rseen_pl114 : placesS Try.prog 114 = some [(0, 1)] := by kernel_rfl

theorem rtake_c {V : Vw} {l : List (Int × (Int × Bool))} {rx : Nat} {pl : Option Addr} {cl : Nat} {sq : Sg} (hsq : Ow 119 3 (.slice pl l.length cl) l.length (l.flatMap Sn.row) sq) (hlm : l.length ≤ 1000) {m : Msg}  : Does Try.prog 23 [.pointer (some ⟨rx, 0, none⟩), .agg #[.int .i64 m.kind, .int .i64 m.life, .int .i64 m.seen, .int .i64 m.xid, .int .i64 m.state, .int .u32 m.addr, .int .i64 m.bind, .string m.client, .int .i64 m.pot, .int .i64 m.at_, .bool m.ok]] V [[(rx, .cells #[.slice pl l.length cl] 114 (0, 0))], sq] (Pv (.tuple #[.bool (Sn.newer l m.addr m.xid), .bool (Sn.yes l m.addr m.xid), .bool (Sn.same l m.addr m.xid)]) V [[(rx, .cells #[.slice pl l.length cl] 114 (0, 0))], sq]) := by
 refine Does.intro Try.func23 rfl rfl (le rfl) (fun B => ?_)
 refine Zs<|Zr<|?_
 refine Run.box rfl (lt rfl) (fun b1 => ?_)
 refine Za Z<|Za Z<|Za Z<|Ze<|Zg<|Zs<|Zs<|Zr<|Za Z<|Ze<|Zg<|Zb<|?_
 refine ZL (X := Nat) (fun z0 => V) (fun z0 => [[(b1, .cells #[.int .i64 m.kind, .int .i64 m.life, .int .i64 m.seen, .int .i64 m.xid, .int .i64 m.state, .int .u32 m.addr, .int .i64 m.bind, .string m.client, .int .i64 m.pot, .int .i64 m.at_, .bool m.ok] 35 (0, 0))], [(rx, .cells #[.slice pl l.length cl] 114 (0, 0))], sq]) (fun z0 => [(0, .pointer (some ⟨rx, 0, none⟩)), (3, .pointer (some ⟨b1, 0, none⟩)), (7, .int .i64 (z0 : Int))]) (fun z0 => z0 ≤ l.length ∧ ∀ j, j < z0 → (l.getD j Sn.rdflt).1 ≠ m.addr) (fun z0 => l.length - z0) (0 : Nat) ⟨Nat.zero_le _, fun j hj => absurd hj (Nat.not_lt_zero j)⟩ ?_
 rintro i1 ⟨hi, hno⟩
 refine Zs<|Zs<|Zr<|Zm Z<|Zm Z<|Zv (Y.nilCheck Z)<|Zv (Y.fieldAddr Z Rseen_fo114_0)<|Zv (Y.load Z Rseen_ts112 (Kn.at 1 Z) Z)<|Zv (Y.lenSl Z Rseen_es112)<|Zv (Y.int Z Z Z)<|Ze<|Zg<|?_
 rcases Zsplit (decide ((i1 : Int) < ((l.length : Nat) : Int))) with ⟨h2, g2⟩ | ⟨h2, g2⟩ <;> try simp only [kb] at g2
 ·refine Tr.cond_t Z h2<|Zt<|Zg<|Zs<|Zb<|Zs<|Tr.quiet Rseen_mo WK<|ZM Z<|ZV (Y.nilCheck Z)<|ZV (Y.fieldAddr Z Rseen_fo114_0)<|ZV (Y.load Z Rseen_ts112 (Kn.at 1 Z) Z)<|ZM Z<|ZV (Y.idxR i1 Z Z Rseen_es112 (hsq.rd 2 rfl) W W)<|ZV (Y.fieldR Z Rseen_fo119_0 (hsq.rd 2 rfl) W)<|ZV (Y.ldR Z Rseen_ts30 (hsq.rd 2 rfl) (flatm_at Sn.row_len W Sn.rdflt WD rfl))<|ZV (Y.fieldAddr Z Rseen_fo35_5)<|?_
  refine ZV (Y.load Z Rseen_ts30 (Kn.at 0 Z) Z)<|ZV (Y.int Z Z Z)<|ZE<|Zg<|?_
  rcases Zsplit (((l.getD i1 Sn.rdflt).1) == m.addr) with ⟨h3, g3⟩ | ⟨h3, g3⟩ <;> try simp only [kb] at g3
  ·refine Tr.cond_t Z h3<|Zs<|Tr.quiet Rseen_mo WK<|ZV (Y.fieldAddr Z Rseen_fo35_3)<|ZV (Y.load Z Rseen_ts3 (Kn.at 0 Z) Z)<|ZM Z<|ZV (Y.nilCheck Z)<|ZV (Y.fieldAddr Z Rseen_fo114_0)<|ZV (Y.load Z Rseen_ts112 (Kn.at 1 Z) Z)<|ZM Z<|ZV (Y.idxR i1 Z Z Rseen_es112 (hsq.rd 2 rfl) W W)<|ZV (Y.fieldR Z Rseen_fo119_1 (hsq.rd 2 rfl) W)<|ZV (Y.ldR Z Rseen_ts3 (hsq.rd 2 rfl) (flatm_at Sn.row_len W Sn.rdflt WD rfl))<|?_
   refine ZV (Y.int Z Z Z)<|ZA Z<|ZE<|Zg<|Zs<|Tr.quiet Rseen_mo WK<|ZV (Y.fieldAddr Z Rseen_fo35_3)<|ZV (Y.load Z Rseen_ts3 (Kn.at 0 Z) Z)<|ZM Z<|ZV (Y.nilCheck Z)<|ZV (Y.fieldAddr Z Rseen_fo114_0)<|ZV (Y.load Z Rseen_ts112 (Kn.at 1 Z) Z)<|ZM Z<|ZV (Y.idxR i1 Z Z Rseen_es112 (hsq.rd 2 rfl) W W)<|ZV (Y.fieldR Z Rseen_fo119_1 (hsq.rd 2 rfl) W)<|ZV (Y.ldR Z Rseen_ts3 (hsq.rd 2 rfl) (flatm_at Sn.row_len W Sn.rdflt WD rfl))<|?_
   refine ZV (Y.int Z Z Z)<|ZM Z<|ZM Z<|?_
   rcases Zsplit (m.xid == ((l.getD i1 Sn.rdflt).2.1)) with ⟨h4, g4⟩ | ⟨h4, g4⟩ <;> try simp only [kb] at g4
   ·refine ZP h4<|ZM Z<|ZP h4<|ZV (Y.nilCheck Z)<|ZP h4<|ZV (Y.fieldAddr Z Rseen_fo114_0)<|ZP h4<|ZV (Y.load Z Rseen_ts112 (Kn.at 1 Z) Z)<|ZP h4<|ZM Z<|ZP h4<|ZV (Y.idxR i1 Z Z Rseen_es112 (hsq.rd 2 rfl) W W)<|ZP h4<|ZV (Y.fieldR Z Rseen_fo119_2 (hsq.rd 2 rfl) W)<|ZP h4<|ZV (Y.ldR Z Rseen_ts4 (hsq.rd 2 rfl) (flatm_at Sn.row_len W Sn.rdflt WD rfl))<|?_
    refine ZV (Y.pick_t Z h4 Z)<|ZM Z<|ZA Z<|ZA Z<|ZA Z<|ZE<|Zg<|Zu<|Zk<|Zn<|Zn<|Zk<|Zn<|Ex.keep [1, 1]<|?_
    have hx := Sn.lookup_at (l := l) (a := m.addr) hno W W
    exact Ex.ret3 rfl rfl rfl rfl  ⟨by unfold Sn.newer Sn.yes Sn.same Sn.got; rw [hx]; simp only [Option.getD_some, Option.isSome_some, Bool.true_and, Bool.false_and, h4] <;> rfl, rfl, rfl⟩
   ·refine ZO h4 Z<|ZO h4 Z<|ZO h4 Z<|ZO h4 Z<|ZO h4 Z<|ZO h4 Z<|ZO h4 Z<|ZO h4 Z<|ZV (Y.pick_f Z h4 Z)<|ZM Z<|ZA Z<|ZA Z<|ZA Z<|ZE<|Zg<|Zu<|?_
    refine Zk<|Zn<|Zn<|Zk<|Zn<|Ex.keep [1, 1]<|?_
    have hx := Sn.lookup_at (l := l) (a := m.addr) hno W W
    exact Ex.ret3 rfl rfl rfl rfl  ⟨by unfold Sn.newer Sn.yes Sn.same Sn.got; rw [hx]; simp only [Option.getD_some, Option.isSome_some, Bool.true_and, Bool.false_and, h4] <;> rfl, rfl, rfl⟩
  ·refine Tr.cond_f Z h3<|Zt<|Zc<|Zg<|Zr<|Zm Z<|Zv (Y.add Z Z W)<|Za Z<|Ze<|?_
   exact ZR (i1 + 1 : Nat) ⟨by omega, upto_succ hno W⟩ W
 ·refine Tr.cond_f Z h2<|Zx<|Zy<|Zy<|Zi<|Zg<|Zs<|Zr<|Zv (Y.fieldAddr Z Rseen_fo35_3)<|Zv (Y.load Z Rseen_ts3 (Kn.at 0 Z) Z)<|Zv (Y.int Z Z Z)<|Za Z<|Za Z<|Za Z<|Ze<|Zg<|?_
  refine Zu<|Ex.keep [1, 1]<|?_
  have hx := Sn.lookup_no (l := l) (a := m.addr) fun j hj => hno j W
  exact Ex.ret3 rfl rfl rfl rfl  ⟨by unfold Sn.newer Sn.yes Sn.same Sn.got; rw [hx]; rfl, rfl, rfl⟩

theorem rnote_c {V : Vw} {l : List (Int × (Int × Bool))} {rx : Nat} {pl : Option Addr} {cl : Nat} {sq : Sg} (hsq : Ow 119 3 (.slice pl l.length cl) l.length (l.flatMap Sn.row) sq) (hlm : l.length ≤ 1000) {m : Msg} {ok : Bool}  : Does Try.prog 25 [.pointer (some ⟨rx, 0, none⟩), .agg #[.int .i64 m.kind, .int .i64 m.life, .int .i64 m.seen, .int .i64 m.xid, .int .i64 m.state, .int .u32 m.addr, .int .i64 m.bind, .string m.client, .int .i64 m.pot, .int .i64 m.at_, .bool m.ok], .bool ok] V [[(rx, .cells #[.slice pl l.length cl] 114 (0, 0))], sq] (fun _ V' H' => V' = V ∧ ∃ p2 c2 s2, Ow 119 3 (.slice p2 (Sn.note l m.addr m.xid ok).length c2) (Sn.note l m.addr m.xid ok).length ((Sn.note l m.addr m.xid ok).flatMap Sn.row) s2 ∧ H' = [[(rx, .cells #[.slice p2 (Sn.note l m.addr m.xid ok).length c2] 114 (0, 0))], s2]) := by
 refine Does.intro Try.func25 rfl rfl (le rfl) (fun B => ?_)
 refine Zs<|Zr<|?_
 refine Run.box rfl (lt rfl) (fun b1 => ?_)
 refine Ze<|Zg<|Zs<|Zr<|Zm Z<|Zv (Y.loadAgg Z Rseen_ag35 (Kn.at 0 Z) Z)<|?_
 refine Run.call [1, 1] (l := [.tmp 11, .tmp 12]) rfl rfl rfl (lt rfl) (rtake_c (m := m) hsq hlm) (fun v9 V9 H9 hle9 hR => ?_)
 obtain ⟨rfl, hV, rfl⟩ := hR; replace hV := hV.symm; subst hV
 refine Run.heapTo (H' := [[(b1, .cells #[.int .i64 m.kind, .int .i64 m.life, .int .i64 m.seen, .int .i64 m.xid, .int .i64 m.state, .int .u32 m.addr, .int .i64 m.bind, .string m.client, .int .i64 m.pot, .int .i64 m.at_, .bool m.ok] 35 (0, 0))], [(rx, .cells #[.slice pl l.length cl] 114 (0, 0))], sq]) Z<|Run.heapTo (H' := [[(b1, .cells #[.int .i64 m.kind, .int .i64 m.life, .int .i64 m.seen, .int .i64 m.xid, .int .i64 m.state, .int .u32 m.addr, .int .i64 m.bind, .string m.client, .int .i64 m.pot, .int .i64 m.at_, .bool m.ok] 35 (0, 0))], [(rx, .cells #[.slice pl l.length cl] 114 (0, 0))], sq]) Z<|?_
 refine Zm Z<|Zv (Y.extract Z Z)<|Zv (Y.extract Z Z)<|Zv (Y.extract Z Z)<|Za Z<|Za Z<|Za Z<|Ze<|Zg<|Zs<|Zs<|Zr<|Zm Z<|Zv (Y.not Z)<|Ze<|Zg<|?_
 rcases Zsplit (Sn.newer l m.addr m.xid) with ⟨h2, g2⟩ | ⟨h2, g2⟩ <;> try simp only [kb] at g2
 ·refine Tr.cond_f Z (congrArg Bool.not h2)<|Zt<|Zg<|Zs<|Zs<|Zr<|Za Z<|Ze<|Zg<|Zb<|?_
  refine ZL (X := Nat) (fun z0 => V) (fun z0 => [[(b1, .cells #[.int .i64 m.kind, .int .i64 m.life, .int .i64 m.seen, .int .i64 m.xid, .int .i64 m.state, .int .u32 m.addr, .int .i64 m.bind, .string m.client, .int .i64 m.pot, .int .i64 m.at_, .bool m.ok] 35 (0, 0))], [(rx, .cells #[.slice pl l.length cl] 114 (0, 0))], sq]) (fun z0 => [(0, .pointer (some ⟨rx, 0, none⟩)), (2, .bool ok), (4, .pointer (some ⟨b1, 0, none⟩)), (9, .int .i64 (z0 : Int))]) (fun z0 => z0 ≤ l.length ∧ ∀ j, j < z0 → (l.getD j Sn.rdflt).1 ≠ m.addr) (fun z0 => l.length - z0) (0 : Nat) ⟨Nat.zero_le _, fun j hj => absurd hj (Nat.not_lt_zero j)⟩ ?_
  rintro i1 ⟨hi, hno⟩
  refine Zs<|Zs<|Zr<|Zm Z<|Zm Z<|Zv (Y.nilCheck Z)<|Zv (Y.fieldAddr Z Rseen_fo114_0)<|Zv (Y.load Z Rseen_ts112 (Kn.at 1 Z) Z)<|Zv (Y.lenSl Z Rseen_es112)<|Zv (Y.int Z Z Z)<|Ze<|Zg<|?_
  rcases Zsplit (decide ((i1 : Int) < ((l.length : Nat) : Int))) with ⟨h3, g3⟩ | ⟨h3, g3⟩ <;> try simp only [kb] at g3
  ·refine Tr.cond_t Z h3<|Zt<|Zg<|Zs<|Zb<|Zs<|Tr.quiet Rseen_mo WK<|ZM Z<|ZV (Y.nilCheck Z)<|ZV (Y.fieldAddr Z Rseen_fo114_0)<|ZV (Y.load Z Rseen_ts112 (Kn.at 1 Z) Z)<|ZM Z<|ZV (Y.idxR i1 Z Z Rseen_es112 (hsq.rd 2 rfl) W W)<|ZV (Y.fieldR Z Rseen_fo119_0 (hsq.rd 2 rfl) W)<|ZV (Y.ldR Z Rseen_ts30 (hsq.rd 2 rfl) (flatm_at Sn.row_len W Sn.rdflt WD rfl))<|ZV (Y.fieldAddr Z Rseen_fo35_5)<|?_
   refine ZV (Y.load Z Rseen_ts30 (Kn.at 0 Z) Z)<|ZV (Y.int Z Z Z)<|ZE<|Zg<|?_
   rcases Zsplit (((l.getD i1 Sn.rdflt).1) == m.addr) with ⟨h4, g4⟩ | ⟨h4, g4⟩ <;> try simp only [kb] at g4
   ·refine Tr.cond_t Z h4<|Zs<|Tr.tail 12 Rseen_mo WK<|ZM Z<|ZV (Y.nilCheck Z)<|ZV (Y.fieldAddr Z Rseen_fo114_0)<|ZV (Y.load Z Rseen_ts112 (Kn.at 1 Z) Z)<|ZM Z<|ZV (Y.fieldAddr Z Rseen_fo35_5)<|ZV (Y.load Z Rseen_ts30 (Kn.at 0 Z) Z)<|ZV (Y.fieldAddr Z Rseen_fo35_3)<|ZV (Y.load Z Rseen_ts3 (Kn.at 0 Z) Z)<|ZM Z<|ZV (Y.buildS (l := [(0, .tmp 45), (1, .tmp 47), (2, .tmp 48)]) Rseen_zo119 Rseen_pl119 Z Z)<|ZV (Y.idxR i1 Z Z Rseen_es112 (hsq.rd 2 rfl) W W)<|?_
    refine RunQ.nil_run ?_
    refine Run.stOA (u := ((m.addr, (m.xid, ok)) : Int × (Int × Bool))) (i := i1) (j := 2) Sn.row_enc WD rfl rfl Rseen_sz119 hsq rfl W rfl (fun s5 ho6 => ?_)
    refine Run.heapTo (H' := [[(b1, .cells #[.int .i64 m.kind, .int .i64 m.life, .int .i64 m.seen, .int .i64 m.xid, .int .i64 m.state, .int .u32 m.addr, .int .i64 m.bind, .string m.client, .int .i64 m.pot, .int .i64 m.at_, .bool m.ok] 35 (0, 0))], [(rx, .cells #[.slice pl l.length cl] 114 (0, 0))], s5]) Z<|Ze<|Zg<|Zu<|Zk<|Zn<|Zn<|Zk<|Zn<|Ex.keepTo (H' := [[(rx, .cells #[.slice pl l.length cl] 114 (0, 0))], s5]) [1, 1] Z<|?_
    have hn : Sn.note l m.addr m.xid ok = l.set i1 (m.addr, (m.xid, ok)) := (if_pos (of_decide_eq_true h2)).trans (Sn.set_at hno W W)
    have hln := congrArg List.length hn
    try simp only [List.length_set, List.length_append, List.length_singleton] at hln
    exact Ex.ret0 rfl ⟨rfl, pl, cl, s5, by rw [hln, hn]; exact ho6, by rw [hln]⟩
   ·refine Tr.cond_f Z h4<|Zt<|Zc<|Zg<|Zr<|Zm Z<|Zv (Y.add Z Z W)<|Za Z<|Ze<|?_
    exact ZR (i1 + 1 : Nat) ⟨by omega, upto_succ hno W⟩ W
  ·refine Tr.cond_f Z h3<|Zx<|Zy<|Zy<|Zi<|Zg<|Tr.anyL [(rx, .cells #[.slice pl l.length cl] 114 (0, 0)), (b1, .cells #[.int .i64 m.kind, .int .i64 m.life, .int .i64 m.seen, .int .i64 m.xid, .int .i64 m.state, .int .u32 m.addr, .int .i64 m.bind, .string m.client, .int .i64 m.pot, .int .i64 m.at_, .bool m.ok] 35 (0, 0))] 17 Rseen_mo<|RunL.pure (i := 0) rfl WK WK WK WK (fun _ _ _ h => h) (lt rfl) (KnAll.cons (Kn.at 1 rfl) (ZK 0 Z)) (fun _ => (Y.move rfl))<|?_
   refine RunL.pure (i := 2) rfl WK WK WK WK (fun _ _ _ h => h) (lt rfl) (KnAll.cons (Kn.at 1 rfl) (ZK 0 Z)) (fun _ => (Y.move rfl))<|RunL.pure (i := 3) rfl WK WK WK WK (fun _ _ _ h => h) (lt rfl) (KnAll.cons (Kn.at 1 rfl) (ZK 0 Z)) (fun _ => (Y.nilCheck rfl))<|RunL.pure (i := 4) rfl WK WK WK WK (fun _ _ _ h => h) (lt rfl) (KnAll.cons (Kn.at 1 rfl) (ZK 0 Z)) (fun _ => (Y.fieldAddr rfl Rseen_fo114_0))<|?_
   refine RunL.take (i := 5) 0 rfl rfl WK WK WK WK (fun _ _ _ h => h) (lt rfl) (KnAll.cons (Kn.at 1 rfl) (ZK 0 Z)) (fun _ => (Y.load rfl Rseen_ts112 Kn.vk1 rfl))<|RunL.pure (i := 7) rfl WK WK WK WK (fun _ _ _ h => h) (lt rfl) (KnAll.cons (Kn.at 1 rfl) (ZK 0 Z)) (fun _ => (Y.fieldAddr rfl Rseen_fo35_5))<|RunL.take (i := 8) 1 rfl rfl WK WK WK WK (fun _ _ _ h => h) (lt rfl) (KnAll.cons (Kn.at 1 rfl) (ZK 0 Z)) (fun _ => (Y.load rfl Rseen_ts30 Kn.vk1 rfl))<|?_
   refine RunL.pure (i := 9) rfl WK WK WK WK (fun _ _ _ h => h) (lt rfl) (KnAll.cons (Kn.at 1 rfl) (ZK 0 Z)) (fun _ => (Y.fieldAddr rfl Rseen_fo35_3))<|RunL.take (i := 10) 1 rfl rfl WK WK WK WK (fun _ _ _ h => h) (lt rfl) (KnAll.cons (Kn.at 1 rfl) (ZK 0 Z)) (fun _ => (Y.load rfl Rseen_ts3 Kn.vk1 rfl))<|RunL.pure (i := 11) rfl WK WK WK WK (fun _ _ _ h => h) (lt rfl) (KnAll.cons (Kn.at 1 rfl) (ZK 0 Z)) (fun _ => (Y.move rfl))<|?_
   refine RunL.pure (i := 12) rfl WK WK WK WK (fun _ _ _ h => h) (lt rfl) (KnAll.cons (Kn.at 1 rfl) (ZK 0 Z)) (fun _ => (Y.buildS (l := [(0, .tmp 59), (1, .tmp 61), (2, .tmp 62)]) Rseen_zo119 Rseen_pl119 rfl rfl)) ?_
   refine RunL.two (i := 1) (j := 13) WK rfl rfl  ?_ ?_ 
   ·refine Run.buildSlice0 Rseen_es112 (lt rfl) (fun b7 => ?_)
    refine Ze<|Ex.anyL (KnAll.cons (Kn.at 2 Z) (ZK 1 Z))<|?_
    refine RunL.two (i := 6) (j := 13) WK rfl rfl  ?_ ?_ 
    ·refine Run.append (n := 0) (m := l.length) (xs := []) (ys := l.flatMap Sn.row) rfl rfl Rseen_es112 Rseen_zi119 WD (j := 0) rfl (Ow.lit (cur := #[]) rfl WD) (Src.of_rd Rseen_es112 (hsq.rd 3 rfl)) W W (all_one_flat Sn.row_enc _) (lt rfl) (fun v8 s9 ho10 hf => ?_)
     obtain ⟨p8, c8, rfl⟩ := hf
     replace ho10 := Ow.app (f := Sn.row) (l := []) (m := l) ho10
     refine Ze<|Ex.anyL (KnAll.cons (Kn.at 2 Z) (ZK 1 Z))<|?_
     refine RunL.one (i := 13) WK rfl  ?_ 
     refine Run.buildSlice (l := [(0, .tmp 63)]) Rseen_es112 Rseen_zo119 rfl WD rfl rfl WD (lt rfl) (fun b11 => ?_)
     refine Ze<|Ex.anyL (KnAll.cons (Kn.at 3 Z) (ZK 2 Z))<|?_
     refine RunL.one (i := 14) WK rfl  ?_ 
     refine Run.append (n := 0 + l.length) (m := 1) (xs := ([] ++ l).flatMap Sn.row) (ys := [.int .u32 m.addr, .int .i64 m.xid, .bool ok]) rfl rfl Rseen_es112 Rseen_zi119 WD (j := 1) rfl ho10 (Src.of_rd Rseen_es112 (Rd.one (Kn.at 0 rfl) rfl)) W W rfl (lt rfl) (fun v12 s13 ho14 hf => ?_)
     obtain ⟨p12, c12, rfl⟩ := hf
     replace ho14 := Ow.app1 (f := Sn.row) (l := [] ++ l) (x := ((m.addr, (m.xid, ok)) : Int × (Int × Bool))) ho14
     refine Ze<|Ex.anyL (KnAll.cons (Kn.at 3 Z) (ZK 2 Z))<|?_
     refine RunL.one (i := 15) WK rfl  ?_ 
     refine Zv (Y.nilCheck Z)<|Ze<|Ex.anyL (KnAll.cons (Kn.at 3 Z) (ZK 2 Z))<|RunL.pure (i := 16) rfl WK WK WK WK (fun _ _ _ h => h) (lt rfl) (KnAll.cons (Kn.at 3 rfl) (ZK 2 Z)) (fun _ => (Y.fieldAddr rfl Rseen_fo114_0))<|?_
     refine RunL.one (i := 17) WK rfl  ?_ 
     refine Run.store (s := [(rx, .cells #[.slice p12 (0 + l.length + 1) c12] 114 (0, 0))]) Z Z Rseen_sz112 (i := 3) Z Z (le Z) Z Z<|Ze<|Ex.anyLz Z<|RunL.done WK<|Ex.keepTo (H' := [[(rx, .cells #[.slice p12 (0 + l.length + 1) c12] 114 (0, 0))], s13]) [3, 1] Z<|?_
     have hn : Sn.note l m.addr m.xid ok = l ++ [(m.addr, (m.xid, ok))] := (if_pos (of_decide_eq_true h2)).trans (Sn.set_no fun j hj => hno j W)
     have hln := congrArg List.length hn
     try simp only [List.length_set, List.length_append, List.length_singleton] at hln
     exact Ex.end0 rfl ⟨rfl, p12, c12, s13, by rw [hln, hn]; have hoz := ho14; simp only [List.nil_append, Nat.zero_add] at hoz; exact hoz, by rw [hln]; simp only [Nat.zero_add]⟩
    ·refine Run.buildSlice (l := [(0, .tmp 63)]) Rseen_es112 Rseen_zo119 rfl WD rfl rfl WD (lt rfl) (fun b15 => ?_)
     refine Ze<|Ex.anyL (KnAll.cons (Kn.at 3 Z) (ZK 2 Z))<|?_
     refine RunL.one (i := 6) WK rfl  ?_ 
     refine Run.append (n := 0) (m := l.length) (xs := []) (ys := l.flatMap Sn.row) rfl rfl Rseen_es112 Rseen_zi119 WD (j := 1) rfl (Ow.lit (cur := #[]) rfl WD) (Src.of_rd Rseen_es112 (hsq.rd 4 rfl)) W W (all_one_flat Sn.row_enc _) (lt rfl) (fun v16 s17 ho18 hf => ?_)
     obtain ⟨p16, c16, rfl⟩ := hf
     replace ho18 := Ow.app (f := Sn.row) (l := []) (m := l) ho18
     refine Ze<|Ex.anyL (KnAll.cons (Kn.at 3 Z) (ZK 2 Z))<|?_
     refine RunL.one (i := 14) WK rfl  ?_ 
     refine Run.append (n := 0 + l.length) (m := 1) (xs := ([] ++ l).flatMap Sn.row) (ys := [.int .u32 m.addr, .int .i64 m.xid, .bool ok]) rfl rfl Rseen_es112 Rseen_zi119 WD (j := 1) rfl ho18 (Src.of_rd Rseen_es112 (Rd.one (Kn.at 0 rfl) rfl)) W W rfl (lt rfl) (fun v19 s20 ho21 hf => ?_)
     obtain ⟨p19, c19, rfl⟩ := hf
     replace ho21 := Ow.app1 (f := Sn.row) (l := [] ++ l) (x := ((m.addr, (m.xid, ok)) : Int × (Int × Bool))) ho21
     refine Ze<|Ex.anyL (KnAll.cons (Kn.at 3 Z) (ZK 2 Z))<|?_
     refine RunL.one (i := 15) WK rfl  ?_ 
     refine Zv (Y.nilCheck Z)<|Ze<|Ex.anyL (KnAll.cons (Kn.at 3 Z) (ZK 2 Z))<|RunL.pure (i := 16) rfl WK WK WK WK (fun _ _ _ h => h) (lt rfl) (KnAll.cons (Kn.at 3 rfl) (ZK 2 Z)) (fun _ => (Y.fieldAddr rfl Rseen_fo114_0))<|?_
     refine RunL.one (i := 17) WK rfl  ?_ 
     refine Run.store (s := [(rx, .cells #[.slice p19 (0 + l.length + 1) c19] 114 (0, 0))]) Z Z Rseen_sz112 (i := 3) Z Z (le Z) Z Z<|Ze<|Ex.anyLz Z<|RunL.done WK<|Ex.keepTo (H' := [[(rx, .cells #[.slice p19 (0 + l.length + 1) c19] 114 (0, 0))], s20]) [3, 1] Z<|?_
     have hn : Sn.note l m.addr m.xid ok = l ++ [(m.addr, (m.xid, ok))] := (if_pos (of_decide_eq_true h2)).trans (Sn.set_no fun j hj => hno j W)
     have hln := congrArg List.length hn
     try simp only [List.length_set, List.length_append, List.length_singleton] at hln
     exact Ex.end0 rfl ⟨rfl, p19, c19, s20, by rw [hln, hn]; have hoz := ho21; simp only [List.nil_append, Nat.zero_add] at hoz; exact hoz, by rw [hln]; simp only [Nat.zero_add]⟩
   ·refine Run.buildSlice (l := [(0, .tmp 63)]) Rseen_es112 Rseen_zo119 rfl WD rfl rfl WD (lt rfl) (fun b22 => ?_)
    refine Ze<|Ex.anyL (KnAll.cons (Kn.at 2 Z) (ZK 1 Z))<|?_
    refine RunL.one (i := 1) WK rfl  ?_ 
    refine Run.buildSlice0 Rseen_es112 (lt rfl) (fun b23 => ?_)
    refine Ze<|Ex.anyL (KnAll.cons (Kn.at 3 Z) (ZK 2 Z))<|?_
    refine RunL.one (i := 6) WK rfl  ?_ 
    refine Run.append (n := 0) (m := l.length) (xs := []) (ys := l.flatMap Sn.row) rfl rfl Rseen_es112 Rseen_zi119 WD (j := 0) rfl (Ow.lit (cur := #[]) rfl WD) (Src.of_rd Rseen_es112 (hsq.rd 4 rfl)) W W (all_one_flat Sn.row_enc _) (lt rfl) (fun v24 s25 ho26 hf => ?_)
    obtain ⟨p24, c24, rfl⟩ := hf
    replace ho26 := Ow.app (f := Sn.row) (l := []) (m := l) ho26
    refine Ze<|Ex.anyL (KnAll.cons (Kn.at 3 Z) (ZK 2 Z))<|?_
    refine RunL.one (i := 14) WK rfl  ?_ 
    refine Run.append (n := 0 + l.length) (m := 1) (xs := ([] ++ l).flatMap Sn.row) (ys := [.int .u32 m.addr, .int .i64 m.xid, .bool ok]) rfl rfl Rseen_es112 Rseen_zi119 WD (j := 0) rfl ho26 (Src.of_rd Rseen_es112 (Rd.one (Kn.at 1 rfl) rfl)) W W rfl (lt rfl) (fun v27 s28 ho29 hf => ?_)
    obtain ⟨p27, c27, rfl⟩ := hf
    replace ho29 := Ow.app1 (f := Sn.row) (l := [] ++ l) (x := ((m.addr, (m.xid, ok)) : Int × (Int × Bool))) ho29
    refine Ze<|Ex.anyL (KnAll.cons (Kn.at 3 Z) (ZK 2 Z))<|?_
    refine RunL.one (i := 15) WK rfl  ?_ 
    refine Zv (Y.nilCheck Z)<|Ze<|Ex.anyL (KnAll.cons (Kn.at 3 Z) (ZK 2 Z))<|RunL.pure (i := 16) rfl WK WK WK WK (fun _ _ _ h => h) (lt rfl) (KnAll.cons (Kn.at 3 rfl) (ZK 2 Z)) (fun _ => (Y.fieldAddr rfl Rseen_fo114_0))<|?_
    refine RunL.one (i := 17) WK rfl  ?_ 
    refine Run.store (s := [(rx, .cells #[.slice p27 (0 + l.length + 1) c27] 114 (0, 0))]) Z Z Rseen_sz112 (i := 3) Z Z (le Z) Z Z<|Ze<|Ex.anyLz Z<|RunL.done WK<|Ex.keepTo (H' := [[(rx, .cells #[.slice p27 (0 + l.length + 1) c27] 114 (0, 0))], s28]) [3, 0] Z<|?_
    have hn : Sn.note l m.addr m.xid ok = l ++ [(m.addr, (m.xid, ok))] := (if_pos (of_decide_eq_true h2)).trans (Sn.set_no fun j hj => hno j W)
    have hln := congrArg List.length hn
    try simp only [List.length_set, List.length_append, List.length_singleton] at hln
    exact Ex.end0 rfl ⟨rfl, p27, c27, s28, by rw [hln, hn]; have hoz := ho29; simp only [List.nil_append, Nat.zero_add] at hoz; exact hoz, by rw [hln]; simp only [Nat.zero_add]⟩
 ·refine Tr.cond_t Z (congrArg Bool.not h2)<|Zu<|Zn<|Ex.keepTo (H' := [[(rx, .cells #[.slice pl l.length cl] 114 (0, 0))], sq]) [1, 1] Z<|?_
  have hn : Sn.note l m.addr m.xid ok = l := if_neg (of_decide_eq_false h2)
  have hln := congrArg List.length hn
  try simp only [List.length_set, List.length_append, List.length_singleton] at hln
  exact Ex.ret0 rfl ⟨rfl, pl, cl, sq, by rw [hln, hn]; exact hsq, by rw [hln]⟩

theorem rnews_c {V : Vw}  : Does Try.prog 21 [] V [] (fun v V' H' => V' = V ∧ ∃ rx, v = .pointer (some ⟨rx, 0, none⟩) ∧ H' = [[(rx, .cells #[.slice none 0 0] 114 (0, 0))], []]) := by
 refine Does.intro Try.func21 rfl rfl (le rfl) (fun B => ?_)
 refine Zs<|Zr<|Za Z<|Ze<|Zg<|Zs<|Zr<|Zv (Y.buildS (l := []) Rseen_zo114 Rseen_pl114 Z Z)<|?_
 refine Run.box rfl (lt rfl) (fun b1 => ?_)
 refine Za Z<|Ze<|Zg<|Zu<|Ex.keepTo (H' := [[(b1, .cells #[.slice none 0 0] 114 (0, 0))]]) [0] Z<|Ex.recut (H' := [[(b1, .cells #[.slice none 0 0] 114 (0, 0))]] ++ [[]]) (List.Perm.of_eq (by simp))<|?_
 exact Ex.ret1 rfl rfl  ⟨rfl, b1, rfl, rfl⟩
end Go.Proofs.Ytpdnkhdmajmbiaa
