/- The statement OutboxScripts, walked.
Conditions: as each theorem names them. -/
import Derived.Test.YtpdnkhdmajmbiaaProg
import Derived.Test.YtpdnkhdmajmbiaaLaw18
import Derived.Test.YtpdnkhdmajmbiaaRbox
import Derived.Test.YtpdnkhdmajmbiaaBC
import Derived.Test.YtpdnkhdmajmbiaaKF
import Derived.Test.YtpdnkhdmajmbiaaZG
set_option linter.unusedSimpArgs false
set_option linter.unusedVariables false
set_option maxRecDepth 4000
namespace Go.Proofs.Ytpdnkhdmajmbiaa
open Go Go.K
attribute [local irreducible] Code.wp wpList Calls wpQuiet
theorem Law18e_fo59_0 : fieldOff Try.prog 59 0 = some 0 := by kernel_rfl
theorem Law18e_ts3 : scal Try.prog 3 = true := by kernel_rfl
theorem Law18e_fo59_2 : fieldOff Try.prog 59 2 = some 2 := by kernel_rfl
theorem Law18e_ag35 : aggsz Try.prog 35 = some 11 := by kernel_rfl
theorem Law18e_fo59_1 : fieldOff Try.prog 59 1 = some 1 := by kernel_rfl
theorem Law18e_zo35 : zeroOf Try.prog 35 = some (.agg #[.int .i64 0, .int .i64 0, .int .i64 0, .int .i64 0, .int .i64 0, .int .u32 0, .int .i64 0, .string ⟨#[]⟩, .int .i64 0, .int .i64 0, .bool false]) := by kernel_rfl
theorem Law18e_sz35 : sizeT Try.prog 35 = some 11 := by kernel_rfl
theorem Law18e_tgs35 : tags Try.prog 35 = some [(0, .i64), (0, .i64), (0, .i64), (0, .i64), (0, .i64), (0, .u32), (0, .i64), (2, .i64), (0, .i64), (0, .i64), (1, .i64)] := by kernel_rfl
theorem Law18e_tg4 : tagOf Try.prog 4 = some (1, .i64) := by kernel_rfl
theorem Law18e_pt24 : ptrT Try.prog 24 = true := by kernel_rfl
theorem Law18e_es55 : elemS Try.prog 55 = some (59, 13) := by kernel_rfl
theorem Law18e_fo35_7 : fieldOff Try.prog 35 7 = some 7 := by kernel_rfl
theorem Law18e_ts9 : scal Try.prog 9 = true := by kernel_rfl
theorem Law18e_st9 : strT Try.prog 9 = true := by kernel_rfl
theorem Law18e_ag59 : aggsz Try.prog 59 = some 13 := by kernel_rfl
theorem Law18e_mo : Try.prog.follows .mixedOrders = true := by kernel_rfl
theorem Law18e_fo63_2 : fieldOff Try.prog 63 2 = some 2 := by kernel_rfl
theorem Law18e_fo35_5 : fieldOff Try.prog 35 5 = some 5 := by kernel_rfl
theorem Law18e_ts30 : scal Try.prog 30 = true := by kernel_rfl

set_option maxHeartbeats 1000000 in
theorem step_c {V : Vw} {r : Rb} {rx : Nat} {pl pw : Option Addr} {cl cw : Nat} {ql qw : Sg} (hl : Ow 156 12 (.slice pl r.l.length cl) r.l.length (r.l.flatMap roCells) ql) (hw : Ow 35 11 (.slice pw r.w.length cw) r.w.length (r.w.flatMap Msg.cl) qw) {o : Ob} {bx : Nat} {sb : Sg} (hb : Ob.In 105 99 o bx sb) (hR : Rb.Rel o r) (hld : o.load ≤ 900) {q : St18}  : Does Try.prog 28 [.pointer (some ⟨bx, 0, none⟩), .pointer (some ⟨rx, 0, none⟩), .agg #[.int .i64 q.do_, .int .i64 q.n, .int .i64 q.m.kind, .int .i64 q.m.life, .int .i64 q.m.seen, .int .i64 q.m.xid, .int .i64 q.m.state, .int .u32 q.m.addr, .int .i64 q.m.bind, .string q.m.client, .int .i64 q.m.pot, .int .i64 q.m.at_, .bool q.m.ok]] V [sb, [(rx, .cells #[.slice pl r.l.length cl, .slice pw r.w.length cw, .int .i64 r.xid] 63 (0, 0))], ql, qw] (fun v V' H' => V' = V ∧ v = .bool true ∧ ∃ o2 r2 s2 H2, Ob.In 105 99 o2 bx s2 ∧ Rb.Rel o2 r2 ∧ Rb.Is 63 156 35 r2 rx H2 ∧ H' = s2 :: H2 ∧ o2.load ≤ o.load + 1) := by
 obtain ⟨hf1, hf2, hf3, hf4⟩ := Rb.facts hb.1 hR
 have hll := Ob.last_load o
 refine Does.intro Try.func28 rfl rfl (le rfl) (fun B => ?_)
 refine Zs<|Zr<|?_
 refine Run.box rfl (lt rfl) (fun b1 => ?_)
 refine Za Z<|Ze<|Zg<|Zs<|Zs<|Zr<|Zv (Y.fieldAddr Z Law18e_fo59_0)<|Zv (Y.load Z Law18e_ts3 (Kn.at 0 Z) Z)<|Ze<|Zg<|Zb<|Zs<|Zr<|Zv (Y.int Z Z Z)<|Za Z<|Ze<|?_
 refine Zg ?_
 rcases Zsplit (q.do_ == 0) with ⟨h2, g2⟩ | ⟨h2, g2⟩ <;> try simp only [kb] at g2
 ·refine Tr.cond_t Z h2<|Zs<|Zr<|Zm Z<|Zv (Y.fieldAddr Z Law18e_fo59_2)<|Zv (Y.loadAgg Z Law18e_ag35 (Kn.at 0 Z) Z)<|?_
  refine Run.call [1] (l := [.tmp 21, .tmp 23]) rfl rfl rfl (lt rfl) (put_o hb (m := q.m)) (fun v9 V9 H9 hle9 hR => ?_)
  obtain ⟨hV, b3, e3, o3, sb3, hq3, rfl, hb3, rfl⟩ := hR; replace hV := hV.symm; subst hV
  refine Run.heapTo (H' := [[(b1, .cells #[.int .i64 q.do_, .int .i64 q.n, .int .i64 q.m.kind, .int .i64 q.m.life, .int .i64 q.m.seen, .int .i64 q.m.xid, .int .i64 q.m.state, .int .u32 q.m.addr, .int .i64 q.m.bind, .string q.m.client, .int .i64 q.m.pot, .int .i64 q.m.at_, .bool q.m.ok] 59 (0, 0))], [(rx, .cells #[.slice pl r.l.length cl, .slice pw r.w.length cw, .int .i64 r.xid] 63 (0, 0))], ql, qw, sb3]) Z ?_
  refine Run.heapTo (H' := [[(b1, .cells #[.int .i64 q.do_, .int .i64 q.n, .int .i64 q.m.kind, .int .i64 q.m.life, .int .i64 q.m.seen, .int .i64 q.m.xid, .int .i64 q.m.state, .int .u32 q.m.addr, .int .i64 q.m.bind, .string q.m.client, .int .i64 q.m.pot, .int .i64 q.m.at_, .bool q.m.ok] 59 (0, 0))], [(rx, .cells #[.slice pl r.l.length cl, .slice pw r.w.length cw, .int .i64 r.xid] 63 (0, 0))], ql, qw, sb3]) Z ?_
  refine Za Z<|Ze<|Zg<|Zs<|Zr<|Zm Z<|Zm Z<|Zv (Y.fieldAddr Z Law18e_fo59_2)<|Zv (Y.loadAgg Z Law18e_ag35 (Kn.at 0 Z) Z)<|?_
  refine Run.call [1, 1, 1] (l := [.tmp 26, .tmp 28]) rfl rfl rfl (lt rfl) (rput_c (r := r) hl hw W W (m := q.m) W hf3) (fun v9 V9 H9 hle9 hR9 => ?_)
  obtain ⟨hV, rfl, pl4, cl4, pw4, cw4, ql4, qw4, rfl, hl4, hw4⟩ := hR9; replace hV := hV.symm; subst hV
  refine Run.heapTo (H' := [[(b1, .cells #[.int .i64 q.do_, .int .i64 q.n, .int .i64 q.m.kind, .int .i64 q.m.life, .int .i64 q.m.seen, .int .i64 q.m.xid, .int .i64 q.m.state, .int .u32 q.m.addr, .int .i64 q.m.bind, .string q.m.client, .int .i64 q.m.pot, .int .i64 q.m.at_, .bool q.m.ok] 59 (0, 0))], sb3, [(rx, .cells #[.slice pl4 (Rb.put r q.m).2.l.length cl4, .slice pw4 (Rb.put r q.m).2.w.length cw4, .int .i64 ((Rb.put r q.m).2.xid)] 63 (0, 0))], ql4, qw4]) Z ?_
  refine Run.heapTo (H' := [[(b1, .cells #[.int .i64 q.do_, .int .i64 q.n, .int .i64 q.m.kind, .int .i64 q.m.life, .int .i64 q.m.seen, .int .i64 q.m.xid, .int .i64 q.m.state, .int .u32 q.m.addr, .int .i64 q.m.bind, .string q.m.client, .int .i64 q.m.pot, .int .i64 q.m.at_, .bool q.m.ok] 59 (0, 0))], sb3, [(rx, .cells #[.slice pl4 (Rb.put r q.m).2.l.length cl4, .slice pw4 (Rb.put r q.m).2.w.length cw4, .int .i64 ((Rb.put r q.m).2.xid)] 63 (0, 0))], ql4, qw4]) Z ?_
  refine Zv (Y.int Z Z Z)<|Za Z<|Ze<|Zg<|Zu<|Zk<|Zn<|Ex.keepTo (H' := [sb3, [(rx, .cells #[.slice pl4 (Rb.put r q.m).2.l.length cl4, .slice pw4 (Rb.put r q.m).2.w.length cw4, .int .i64 ((Rb.put r q.m).2.xid)] 63 (0, 0))], ql4, qw4]) [1, 1, 1, 1] Z<|?_
  have hk := Rb.rel_put hb.1 hR q.m b3; rw [hq3] at hk
  exact Ex.ret1 rfl rfl  ⟨rfl, congrArg Value.bool (by rw [hk.1]; simp), o3, (Rb.put r q.m).2, sb3, _, hb3, hk.2, ⟨_, _, _, _, _, _, rfl, hl4, hw4⟩, rfl, Ob.load_put hq3⟩
 ·refine Tr.cond_f Z h2<|Zs<|Zr<|Zv (Y.int Z Z Z)<|Za Z<|Ze<|Zg<|?_
  rcases Zsplit (q.do_ == 1) with ⟨h5, g5⟩ | ⟨h5, g5⟩ <;> try simp only [kb] at g5
  ·refine Tr.cond_t Z h5<|Zs<|Zr<|Zm Z<|Zv (Y.fieldAddr Z Law18e_fo59_1)<|Zv (Y.load Z Law18e_ts3 (Kn.at 0 Z) Z)<|?_
   refine Run.call [1] (l := [.tmp 34, .tmp 36]) rfl rfl rfl (lt rfl) (acked_o hb (k := q.n)) (fun v9 V9 H9 hle9 hR => ?_)
   obtain ⟨hV, b6, m6, f6, o6, sb6, hq6, rfl, hb6, rfl⟩ := hR; replace hV := hV.symm; subst hV
   refine Run.heapTo (H' := [[(b1, .cells #[.int .i64 q.do_, .int .i64 q.n, .int .i64 q.m.kind, .int .i64 q.m.life, .int .i64 q.m.seen, .int .i64 q.m.xid, .int .i64 q.m.state, .int .u32 q.m.addr, .int .i64 q.m.bind, .string q.m.client, .int .i64 q.m.pot, .int .i64 q.m.at_, .bool q.m.ok] 59 (0, 0))], [(rx, .cells #[.slice pl r.l.length cl, .slice pw r.w.length cw, .int .i64 r.xid] 63 (0, 0))], ql, qw, sb6]) Z ?_
   refine Run.heapTo (H' := [[(b1, .cells #[.int .i64 q.do_, .int .i64 q.n, .int .i64 q.m.kind, .int .i64 q.m.life, .int .i64 q.m.seen, .int .i64 q.m.xid, .int .i64 q.m.state, .int .u32 q.m.addr, .int .i64 q.m.bind, .string q.m.client, .int .i64 q.m.pot, .int .i64 q.m.at_, .bool q.m.ok] 59 (0, 0))], [(rx, .cells #[.slice pl r.l.length cl, .slice pw r.w.length cw, .int .i64 r.xid] 63 (0, 0))], ql, qw, sb6]) Z ?_
   refine Zm Z<|Zv (Y.extract Z Z)<|Zv (Y.extract Z Z)<|?_
   refine Run.alloc Law18e_zo35 (lt rfl) (fun b7 => ?_)
   refine Run.store (s := [(b7, .cells #[.int .i64 m6.kind, .int .i64 m6.life, .int .i64 m6.seen, .int .i64 m6.xid, .int .i64 m6.state, .int .u32 m6.addr, .int .i64 m6.bind, .string m6.client, .int .i64 m6.pot, .int .i64 m6.at_, .bool m6.ok] 35 (0, 0))]) Z Z Law18e_sz35 (i := 0) Z Z (le Z) Z Z<|Za Z<|Ze<|Zg<|Zs<|Zr<|Zm Z<|Zv (Y.fieldAddr Z Law18e_fo59_1)<|Zv (Y.load Z Law18e_ts3 (Kn.at 1 Z) Z)<|?_
   refine Run.call [2, 2, 2] (l := [.tmp 41, .tmp 43]) rfl rfl rfl (lt rfl) (racked_c (r := r) hl hw W W (k := q.n) hf3) (fun v9 V9 H9 hle9 hR9 => ?_)
   obtain ⟨hV, rfl, pl8, cl8, pw8, cw8, ql8, qw8, rfl, hl8, hw8⟩ := hR9; replace hV := hV.symm; subst hV
   refine Run.heapTo (H' := [[(b7, .cells #[.int .i64 m6.kind, .int .i64 m6.life, .int .i64 m6.seen, .int .i64 m6.xid, .int .i64 m6.state, .int .u32 m6.addr, .int .i64 m6.bind, .string m6.client, .int .i64 m6.pot, .int .i64 m6.at_, .bool m6.ok] 35 (0, 0))], [(b1, .cells #[.int .i64 q.do_, .int .i64 q.n, .int .i64 q.m.kind, .int .i64 q.m.life, .int .i64 q.m.seen, .int .i64 q.m.xid, .int .i64 q.m.state, .int .u32 q.m.addr, .int .i64 q.m.bind, .string q.m.client, .int .i64 q.m.pot, .int .i64 q.m.at_, .bool q.m.ok] 59 (0, 0))], sb6, [(rx, .cells #[.slice pl8 (Rb.acked r q.n).2.2.l.length cl8, .slice pw8 (Rb.acked r q.n).2.2.w.length cw8, .int .i64 ((Rb.acked r q.n).2.2.xid)] 63 (0, 0))], ql8, qw8]) Z ?_
   refine Run.heapTo (H' := [[(b7, .cells #[.int .i64 m6.kind, .int .i64 m6.life, .int .i64 m6.seen, .int .i64 m6.xid, .int .i64 m6.state, .int .u32 m6.addr, .int .i64 m6.bind, .string m6.client, .int .i64 m6.pot, .int .i64 m6.at_, .bool m6.ok] 35 (0, 0))], [(b1, .cells #[.int .i64 q.do_, .int .i64 q.n, .int .i64 q.m.kind, .int .i64 q.m.life, .int .i64 q.m.seen, .int .i64 q.m.xid, .int .i64 q.m.state, .int .u32 q.m.addr, .int .i64 q.m.bind, .string q.m.client, .int .i64 q.m.pot, .int .i64 q.m.at_, .bool q.m.ok] 59 (0, 0))], sb6, [(rx, .cells #[.slice pl8 (Rb.acked r q.n).2.2.l.length cl8, .slice pw8 (Rb.acked r q.n).2.2.w.length cw8, .int .i64 ((Rb.acked r q.n).2.2.xid)] 63 (0, 0))], ql8, qw8]) Z ?_
   refine Zm Z<|Zv (Y.extract Z Z)<|Zv (Y.extract Z Z)<|?_
   refine Run.alloc Law18e_zo35 (lt rfl) (fun b9 => ?_)
   refine Run.store (s := [(b9, .cells #[.int .i64 ((Rb.acked r q.n).1.kind), .int .i64 ((Rb.acked r q.n).1.life), .int .i64 ((Rb.acked r q.n).1.seen), .int .i64 ((Rb.acked r q.n).1.xid), .int .i64 ((Rb.acked r q.n).1.state), .int .u32 ((Rb.acked r q.n).1.addr), .int .i64 ((Rb.acked r q.n).1.bind), .string ((Rb.acked r q.n).1.client), .int .i64 ((Rb.acked r q.n).1.pot), .int .i64 ((Rb.acked r q.n).1.at_), .bool ((Rb.acked r q.n).1.ok)] 35 (0, 0))]) Z Z Law18e_sz35 (i := 0) Z Z (le Z) Z Z ?_
   refine Za Z<|Ze<|Zg<|Zs<|Zr<|?_
   obtain ⟨hk1, hk2, hk3⟩ := Rb.rel_acked hb.1 hR q.n b6; rw [hq6] at hk1 hk2 hk3
   refine Zv (Y.loadAgg Z Law18e_ag35 (Kn.at 1 Z) Z)<|Zv (Y.loadAgg Z Law18e_ag35 (Kn.at 0 Z) Z)<|Zv (Y.eqS Z Z Law18e_tgs35 Z Z)<|Zm Z<|Zp (Ob.same_of hk1.symm)<|Zm Z<|Zp (Ob.same_of hk1.symm)<|Zm Z<|Zp (Ob.same_of hk1.symm)<|Zv (Y.eqB Z Z Law18e_tg4)<|Zv (Y.pick_t Z (Ob.same_of hk1.symm) Z)<|Za Z<|Ze<|Zg<|Zu<|Zk<|?_
   refine Zn<|Ex.keepTo (H' := [sb6, [(rx, .cells #[.slice pl8 (Rb.acked r q.n).2.2.l.length cl8, .slice pw8 (Rb.acked r q.n).2.2.w.length cw8, .int .i64 ((Rb.acked r q.n).2.2.xid)] 63 (0, 0))], ql8, qw8]) [3, 3, 3, 3] Z<|?_
   exact Ex.ret1 rfl rfl  ⟨rfl, congrArg Value.bool (by rw [hk2]; simp), o6, (Rb.acked r q.n).2.2, sb6, _, hb6, hk3, ⟨_, _, _, _, _, _, rfl, hl8, hw8⟩, rfl, (by have := Ob.load_acked hq6; omega)⟩
  ·refine Tr.cond_f Z h5<|Zs<|Zr<|Zv (Y.int Z Z Z)<|Za Z<|Ze<|Zg<|?_
   rcases Zsplit (q.do_ == 2) with ⟨h10, g10⟩ | ⟨h10, g10⟩ <;> try simp only [kb] at g10
   ·refine Tr.cond_t Z h10<|Zs<|Zr<|Zm Z<|Zv (Y.fieldAddr Z Law18e_fo59_1)<|Zv (Y.load Z Law18e_ts3 (Kn.at 0 Z) Z)<|?_
    refine Run.call [1] (l := [.tmp 58, .tmp 60]) rfl rfl rfl (lt rfl) (tick_o hb (now := q.n) W) (fun v9 V9 H9 hle9 hR => ?_)
    obtain ⟨hV, ms11, e11, o11, p11, c11, q11, sb11, hq11, rfl, ho11, hb11, rfl⟩ := hR; replace hV := hV.symm; subst hV
    refine Run.heapTo (H' := [[(b1, .cells #[.int .i64 q.do_, .int .i64 q.n, .int .i64 q.m.kind, .int .i64 q.m.life, .int .i64 q.m.seen, .int .i64 q.m.xid, .int .i64 q.m.state, .int .u32 q.m.addr, .int .i64 q.m.bind, .string q.m.client, .int .i64 q.m.pot, .int .i64 q.m.at_, .bool q.m.ok] 59 (0, 0))], [(rx, .cells #[.slice pl r.l.length cl, .slice pw r.w.length cw, .int .i64 r.xid] 63 (0, 0))], ql, qw, q11, sb11]) Z ?_
    refine Run.heapTo (H' := [[(b1, .cells #[.int .i64 q.do_, .int .i64 q.n, .int .i64 q.m.kind, .int .i64 q.m.life, .int .i64 q.m.seen, .int .i64 q.m.xid, .int .i64 q.m.state, .int .u32 q.m.addr, .int .i64 q.m.bind, .string q.m.client, .int .i64 q.m.pot, .int .i64 q.m.at_, .bool q.m.ok] 59 (0, 0))], [(rx, .cells #[.slice pl r.l.length cl, .slice pw r.w.length cw, .int .i64 r.xid] 63 (0, 0))], ql, qw, q11, sb11]) Z ?_
    refine Zm Z<|Zv (Y.extract Z Z)<|Zv (Y.extract Z Z)<|Za Z<|Za Z<|Ze<|Zg<|Zs<|Zr<|Zm Z<|Zv (Y.fieldAddr Z Law18e_fo59_1)<|Zv (Y.load Z Law18e_ts3 (Kn.at 0 Z) Z)<|?_
    refine Run.call [1, 1, 1] (l := [.tmp 65, .tmp 67]) rfl rfl rfl (lt rfl) (rtick_c (r := r) (now := q.n) hl hw W W hf4) (fun v9 V9 H9 hle9 hR9 => ?_)
    obtain ⟨hV, po12, co12, qo12, _, rfl, hoo12, rfl, pl12, cl12, pw12, cw12, ql12, qw12, rfl, hl12, hw12⟩ := hR9; replace hV := hV.symm; subst hV
    refine Run.heapTo (H' := [[(b1, .cells #[.int .i64 q.do_, .int .i64 q.n, .int .i64 q.m.kind, .int .i64 q.m.life, .int .i64 q.m.seen, .int .i64 q.m.xid, .int .i64 q.m.state, .int .u32 q.m.addr, .int .i64 q.m.bind, .string q.m.client, .int .i64 q.m.pot, .int .i64 q.m.at_, .bool q.m.ok] 59 (0, 0))], q11, sb11, qo12, [(rx, .cells #[.slice pl12 (Rb.tick r q.n).2.2.l.length cl12, .slice pw12 (Rb.tick r q.n).2.2.w.length cw12, .int .i64 ((Rb.tick r q.n).2.2.xid)] 63 (0, 0))], ql12, qw12]) Z ?_
    refine Run.heapTo (H' := [[(b1, .cells #[.int .i64 q.do_, .int .i64 q.n, .int .i64 q.m.kind, .int .i64 q.m.life, .int .i64 q.m.seen, .int .i64 q.m.xid, .int .i64 q.m.state, .int .u32 q.m.addr, .int .i64 q.m.bind, .string q.m.client, .int .i64 q.m.pot, .int .i64 q.m.at_, .bool q.m.ok] 59 (0, 0))], q11, sb11, qo12, [(rx, .cells #[.slice pl12 (Rb.tick r q.n).2.2.l.length cl12, .slice pw12 (Rb.tick r q.n).2.2.w.length cw12, .int .i64 ((Rb.tick r q.n).2.2.xid)] 63 (0, 0))], ql12, qw12]) Z ?_
    refine Zm Z<|Zv (Y.extract Z Z)<|Zv (Y.extract Z Z)<|Za Z<|Za Z<|Ze<|Zg<|Zs<|Zr<|?_
    obtain ⟨hk1, hk2, hk3⟩ := Rb.rel_tick hb.1 hR q.n; rw [hq11] at hk1 hk2 hk3
    have hms : ms11 = (Rb.tick r q.n).1 := hk1.symm
    have hmb : ms11.length ≤ 1000000000 := by rw [hms]; exact Rb.tick_few W
    refine Zm Z<|Zm Z<|Run.call0 (l := [.tmp 71, .tmp 72]) Z Z Z (lt Z) (same18_c (ho11.rd 1 Z) (hoo12.rd 3 Z) hms hmb)<|Za Z<|Ze<|Zg<|Zs<|Zr<|Zm Z<|Zm Z<|Zp Z<|Zm Z<|Zp Z<|Zm Z<|Zp Z<|Zv (Y.int Z Z Z)<|?_
    refine Zv (Y.pick_t Z Z Z)<|Za Z<|Ze<|Zg<|Zu<|Zk<|Zn<|Ex.keepTo (H' := [sb11, [(rx, .cells #[.slice pl12 (Rb.tick r q.n).2.2.l.length cl12, .slice pw12 (Rb.tick r q.n).2.2.w.length cw12, .int .i64 ((Rb.tick r q.n).2.2.xid)] 63 (0, 0))], ql12, qw12]) [2, 3, 3, 3] Z<|?_
    exact Ex.ret1 rfl rfl  ⟨rfl, congrArg Value.bool (by rw [hk2]; simp), o11, (Rb.tick r q.n).2.2, sb11, _, hb11, hk3, ⟨_, _, _, _, _, _, rfl, hl12, hw12⟩, rfl, (by have := Ob.load_tick hq11; omega)⟩
   ·refine Tr.cond_f Z h10<|Zt<|Zc<|Zg<|Zs<|Zr<|Zm Z<|?_
    refine Run.call [1] (l := [.tmp 80]) rfl rfl rfl (lt rfl) (clear_o hb) (fun v9 V9 H9 hle9 hR => ?_)
    obtain ⟨hV, sb13, hb13, rfl⟩ := hR; replace hV := hV.symm; subst hV
    refine Run.heapTo (H' := [[(b1, .cells #[.int .i64 q.do_, .int .i64 q.n, .int .i64 q.m.kind, .int .i64 q.m.life, .int .i64 q.m.seen, .int .i64 q.m.xid, .int .i64 q.m.state, .int .u32 q.m.addr, .int .i64 q.m.bind, .string q.m.client, .int .i64 q.m.pot, .int .i64 q.m.at_, .bool q.m.ok] 59 (0, 0))], [(rx, .cells #[.slice pl r.l.length cl, .slice pw r.w.length cw, .int .i64 r.xid] 63 (0, 0))], ql, qw, sb13]) Z ?_
    refine Run.heapTo (H' := [[(b1, .cells #[.int .i64 q.do_, .int .i64 q.n, .int .i64 q.m.kind, .int .i64 q.m.life, .int .i64 q.m.seen, .int .i64 q.m.xid, .int .i64 q.m.state, .int .u32 q.m.addr, .int .i64 q.m.bind, .string q.m.client, .int .i64 q.m.pot, .int .i64 q.m.at_, .bool q.m.ok] 59 (0, 0))], [(rx, .cells #[.slice pl r.l.length cl, .slice pw r.w.length cw, .int .i64 r.xid] 63 (0, 0))], ql, qw, sb13]) Z ?_
    refine Ze<|Zg<|Zs<|Zr<|Zm Z<|?_
    refine Run.call [1, 1, 1] (l := [.tmp 82]) rfl rfl rfl (lt rfl) (rclear_c (r := r) hl hw W W) (fun v9 V9 H9 hle9 hR9 => ?_)
    obtain ⟨hV, pl14, cl14, pw14, cw14, ql14, qw14, rfl, hl14, hw14⟩ := hR9; replace hV := hV.symm; subst hV
    refine Run.heapTo (H' := [[(b1, .cells #[.int .i64 q.do_, .int .i64 q.n, .int .i64 q.m.kind, .int .i64 q.m.life, .int .i64 q.m.seen, .int .i64 q.m.xid, .int .i64 q.m.state, .int .u32 q.m.addr, .int .i64 q.m.bind, .string q.m.client, .int .i64 q.m.pot, .int .i64 q.m.at_, .bool q.m.ok] 59 (0, 0))], sb13, [(rx, .cells #[.slice pl14 (Rb.clear r).l.length cl14, .slice pw14 (Rb.clear r).w.length cw14, .int .i64 ((Rb.clear r).xid)] 63 (0, 0))], ql14, qw14]) Z ?_
    refine Run.heapTo (H' := [[(b1, .cells #[.int .i64 q.do_, .int .i64 q.n, .int .i64 q.m.kind, .int .i64 q.m.life, .int .i64 q.m.seen, .int .i64 q.m.xid, .int .i64 q.m.state, .int .u32 q.m.addr, .int .i64 q.m.bind, .string q.m.client, .int .i64 q.m.pot, .int .i64 q.m.at_, .bool q.m.ok] 59 (0, 0))], sb13, [(rx, .cells #[.slice pl14 (Rb.clear r).l.length cl14, .slice pw14 (Rb.clear r).w.length cw14, .int .i64 ((Rb.clear r).xid)] 63 (0, 0))], ql14, qw14]) Z ?_
    refine Ze<|Zg<|Zs<|Zr<|Za Z<|Ze<|Zg<|Zu<|Ex.keepTo (H' := [sb13, [(rx, .cells #[.slice pl14 (Rb.clear r).l.length cl14, .slice pw14 (Rb.clear r).w.length cw14, .int .i64 ((Rb.clear r).xid)] 63 (0, 0))], ql14, qw14]) [1, 1, 1, 1] Z<|?_
    exact Ex.ret1 rfl rfl  ⟨rfl, rfl, o.clear, (Rb.clear r), sb13, _, hb13, Rb.rel_clear hR, ⟨_, _, _, _, _, _, rfl, hl14, hw14⟩, rfl, (by have h9 := hb.1.l0; show o.last + 0 ≤ _; omega)⟩

theorem getD_mem_s {l : List St18} {i : Nat} (hi : i < l.length) : l.getD i St18.dflt ∈ l := by
  rw [List.getD_eq_getElem?_getD, List.getElem?_eq_getElem hi]; exact List.getElem_mem hi

set_option maxHeartbeats 1000000 in
theorem outboxscripts_c {V : Vw} {l : List St18} {p : Option Addr} {c : Nat} (hv : Rd V [] 13 (.slice p l.length c) l.length (l.flatMap St18.cells)) (hl9 : l.length ≤ 9223372036854775807) (hcs : ∀ s, s ∈ l → s.m.client.size ≤ 9223372036854775807)  : Does Try.prog 6 [.slice p l.length c] V [] (fun v _ _ => v = .bool true) := by
 refine Does.intro Try.func6 rfl rfl (le rfl) (fun B => ?_)
 refine Zs<|Zr<|Za Z<|Ze<|Zg<|Zs<|Zr<|Run.call0 (l := []) Z Z Z (lt Z) awake_h<|Run.heapTo (H' := []) Z<|Za Z<|Ze<|Zg<|Zs<|Zr<|?_
 refine Run.call [] (l := []) rfl rfl rfl (lt rfl) (new_o) (fun v9 V9 H9 hle9 hR => ?_)
 obtain ⟨hV, bx1, sb1, rfl, hb1, rfl⟩ := hR; replace hV := hV.symm; subst hV
 refine Run.heapTo (H' := [sb1]) Z<|Run.heapTo (H' := [sb1]) Z<|Za Z<|Ze<|Zg<|Zs<|Zr<|?_
 refine Run.call [] (l := []) rfl rfl rfl (lt rfl) rnew_c (fun v9 V9 H9 hle9 hR9 => ?_)
 obtain ⟨hV, rx, rfl, pl, cl, pw, cw, ql, qw, rfl, hl, hw⟩ := hR9; replace hV := hV.symm; subst hV
 refine Run.heapTo (H' := [sb1, [(rx, .cells #[.slice pl (⟨[], [], 0⟩ : Rb).l.length cl, .slice pw (⟨[], [], 0⟩ : Rb).w.length cw, .int .i64 ((⟨[], [], 0⟩ : Rb).xid)] 63 (0, 0))], ql, qw]) Z<|Run.heapTo (H' := [sb1, [(rx, .cells #[.slice pl (⟨[], [], 0⟩ : Rb).l.length cl, .slice pw (⟨[], [], 0⟩ : Rb).w.length cw, .int .i64 ((⟨[], [], 0⟩ : Rb).xid)] 63 (0, 0))], ql, qw]) Z<|Za Z<|Ze<|Zg<|Zs<|Zs<|Zr<|Zm Z<|Zv (Y.not Z)<|Zm Z<|Zp Z<|?_
 refine Zm Z<|Zp Z<|Zv (Y.eqNil Z Z Law18e_pt24)<|Zv (Y.pick_f Z Z Z)<|Ze<|Zg<|Tr.cond_f Z Z<|Zt<|Zg<|Zs<|Zs<|Zr<|Run.keepTo (H' := [sb1, [(rx, .cells #[.slice pl (⟨[], [], 0⟩ : Rb).l.length cl, .slice pw (⟨[], [], 0⟩ : Rb).w.length cw, .int .i64 ((⟨[], [], 0⟩ : Rb).xid)] 63 (0, 0))], ql, qw]) [0, 0, 0, 0] Z<|Za Z<|Ze<|Zg<|?_
 refine Zb ?_
 refine ZL (X := Nat × Ob × Rb × Sg × Option Addr × Nat × Option Addr × Nat × Sg × Sg) (fun z0 => V) (fun z0 => [z0.2.2.2.1, [(rx, .cells #[.slice z0.2.2.2.2.1 z0.2.2.1.l.length z0.2.2.2.2.2.1, .slice z0.2.2.2.2.2.2.1 z0.2.2.1.w.length z0.2.2.2.2.2.2.2.1, .int .i64 z0.2.2.1.xid] 63 (0, 0))], z0.2.2.2.2.2.2.2.2.1, z0.2.2.2.2.2.2.2.2.2]) (fun z0 => [(0, .slice p l.length c), (4, .pointer (some ⟨bx1, 0, none⟩)), (5, .pointer (some ⟨rx, 0, none⟩)), (6, .int .i64 (z0.1 : Int))]) (fun z0 => Ob.In 105 99 z0.2.1 bx1 z0.2.2.2.1 ∧ Ow 156 12 (.slice z0.2.2.2.2.1 z0.2.2.1.l.length z0.2.2.2.2.2.1) z0.2.2.1.l.length (z0.2.2.1.l.flatMap roCells) z0.2.2.2.2.2.2.2.2.1 ∧ Ow 35 11 (.slice z0.2.2.2.2.2.2.1 z0.2.2.1.w.length z0.2.2.2.2.2.2.2.1) z0.2.2.1.w.length (z0.2.2.1.w.flatMap Msg.cl) z0.2.2.2.2.2.2.2.2.2 ∧ Rb.Rel z0.2.1 z0.2.2.1 ∧ z0.2.1.load ≤ (z0.1 : Int) ∧ z0.1 ≤ l.length ∧ z0.1 ≤ 200) (fun z0 => l.length - z0.1) (⟨0, Ob.new, ⟨[], [], 0⟩, sb1, pl, cl, pw, cw, ql, qw⟩ : Nat × Ob × Rb × Sg × Option Addr × Nat × Option Addr × Nat × Sg × Sg) ⟨hb1, hl, hw, Rb.rel_new, Int.le_refl _, Nat.zero_le _, Nat.zero_le _⟩ ?_
 rintro ⟨i1, o, r, sb, pl1, cl1, pw1, cw1, ql1, qw1⟩ ⟨hb, hl1, hw1, hR, hlo, hil, hi2⟩
 try dsimp only at hb hl1 hw1 hR hlo hil hi2 ⊢
 refine Zs<|Zs<|Zr<|Zm Z<|Zm Z<|Zv (Y.lenSl Z Law18e_es55)<|Zv (Y.int Z Z Z)<|Zm Z<|?_
 rcases Zsplit (decide ((i1 : Int) < ((l.length : Nat) : Int))) with ⟨h2, g2⟩ | ⟨h2, g2⟩ <;> try simp only [kb] at g2
 ·refine Zp h2<|Zm Z<|Zp h2<|Zv (Y.int Z Z Z)<|Zv (Y.pick_t Z h2 Z)<|Ze<|Zg<|?_
  rcases Zsplit (decide ((i1 : Int) < 200)) with ⟨h3, g3⟩ | ⟨h3, g3⟩ <;> try simp only [kb] at g3
  ·refine Tr.cond_t Z h3<|Zt<|Zg<|Zs<|Zb<|Zs<|Zs<|Zr<|?_
   have hcz := hcs _ (getD_mem_s (l := l) (i := i1) W)
   refine Zm Z<|Zm Z<|Zv (Y.idxR i1 Z Z Law18e_es55 hv.of_nil W W)<|Zv (Y.fieldR Z Law18e_fo59_2 hv.of_nil W)<|Zv (Y.fieldR Z Law18e_fo35_7 hv.of_nil W)<|Zv (Y.ldR Z Law18e_ts9 hv.of_nil (flatm_at (i := i1) (o := 9) St18.enc.len W St18.dflt WD rfl))<|Zv (Y.lenStr Z Law18e_st9)<|Zv (Y.int Z Z Z)<|Ze<|Zg<|?_
   rcases Zsplit (decide ((((l.getD i1 St18.dflt).m.client).size : Int) > 200)) with ⟨h4, g4⟩ | ⟨h4, g4⟩ <;> try simp only [kb] at g4
   ·refine Tr.cond_t Z h4<|Zs<|Zr<|Za Z<|Ze<|Zg<|Zu<|Zn<|Zk<|Zn<|Zn<|Zk<|Zn<|Ex.keep []<|?_
    exact Ex.ret1 rfl rfl  rfl
   ·refine Tr.cond_f Z h4<|Zt<|Zg<|Zs<|Zr<|Zm Z<|Zm Z<|Zm Z<|Zm Z<|Zv (Y.idxR i1 Z Z Law18e_es55 hv.of_nil W W)<|Zv (Y.ldRA (vs := [.int .i64 ((l.getD i1 St18.dflt).do_), .int .i64 ((l.getD i1 St18.dflt).n), .int .i64 ((l.getD i1 St18.dflt).m.kind), .int .i64 ((l.getD i1 St18.dflt).m.life), .int .i64 ((l.getD i1 St18.dflt).m.seen), .int .i64 ((l.getD i1 St18.dflt).m.xid), .int .i64 ((l.getD i1 St18.dflt).m.state), .int .u32 ((l.getD i1 St18.dflt).m.addr), .int .i64 ((l.getD i1 St18.dflt).m.bind), .string ((l.getD i1 St18.dflt).m.client), .int .i64 ((l.getD i1 St18.dflt).m.pot), .int .i64 ((l.getD i1 St18.dflt).m.at_), .bool ((l.getD i1 St18.dflt).m.ok)]) rfl Law18e_ag59 hv.of_nil rfl WD (fun o ho => flatm_atA St18.enc.len W St18.dflt o ho))<|?_
    refine Run.call [0, 0, 0, 0] (l := [.tmp 35, .tmp 36, .tmp 40]) rfl rfl rfl (lt rfl) (step_c (q := (l.getD i1 St18.dflt)) hl1 hw1 hb hR W) (fun v9 V9 H9 hle9 hR9 => ?_)
    obtain ⟨hV, rfl, o2, r2, s2, _, hb2, hR2, ⟨pl2, cl2, pw2, cw2, ql2, qw2, rfl, hl2, hw2⟩, rfl, hld2⟩ := hR9; replace hV := hV.symm; subst hV
    refine Run.heapTo (H' := [s2, [(rx, .cells #[.slice pl2 r2.l.length cl2, .slice pw2 r2.w.length cw2, .int .i64 r2.xid] 63 (0, 0))], ql2, qw2]) Z ?_
    obtain ⟨hg1, hg2, hg3, hg4⟩ := Rb.facts hb2.1 hR2
    have hwl : o2.waits.length ≤ 4294967296 := by have := hb2.1.l0; have h9 : o2.load = o2.last + (o2.waits.length : Int) := rfl; omega
    refine Run.heapTo (H' := [s2, [(rx, .cells #[.slice pl2 r2.l.length cl2, .slice pw2 r2.w.length cw2, .int .i64 r2.xid] 63 (0, 0))], ql2, qw2]) Z<|Za Z<|Ze<|Zg<|Zs<|Tr.quiet Law18e_mo WK<|?_
    have hz1 := Rb.rel_len hb2.1 hR2
    have hz2 := Rb.rel_busy hb2.1 hR2 (l.getD i1 St18.dflt).m.addr
    have hz3 := hR2.x
    refine ZM Z<|ZV (Y.not Z)<|ZM Z<|ZP Z<|ZM Z<|ZP Z<|RunQ.call0 (l := [.tmp 45]) Z Z Z (lt Z) (Does.frame1 0 Z (len_o hb2 hwl))<|ZP Z<|ZM Z<|ZP Z<|RunQ.call0 (l := [.tmp 47]) rfl rfl rfl (lt rfl) ((rlen_c (r := r2) hl2 hw2 W W).frameP (pull_perm [1, 1, 1] [s2, [(rx, .cells #[.slice pl2 r2.l.length cl2, .slice pw2 r2.w.length cw2, .int .i64 r2.xid] 63 (0, 0))], ql2, qw2]))<|ZP Z<|ZV (Y.int Z Z Z)<|ZV (Y.pick_f Z Z Z)<|?_
    refine ZM Z<|RunQ.on rfl rfl rfl (by rw [hz1]; simp)<|ZM Z<|RunQ.on rfl rfl rfl (by rw [hz1]; simp)<|RunQ.call0 (l := [.tmp 52]) Z Z Z (lt Z) (Does.frame1 0 Z (last_o hb2))<|RunQ.on rfl rfl rfl (by rw [hz1]; simp)<|ZM Z<|RunQ.on rfl rfl rfl (by rw [hz1]; simp)<|ZV (Y.nilCheck Z)<|RunQ.on rfl rfl rfl (by rw [hz1]; simp)<|ZV (Y.fieldAddr Z Law18e_fo63_2)<|RunQ.on rfl rfl rfl (by rw [hz1]; simp)<|ZV (Y.load Z Law18e_ts3 (Kn.at 1 Z) Z)<|?_
    refine RunQ.on rfl rfl rfl (by rw [hz1]; simp)<|ZV (Y.int Z Z Z)<|ZV (Y.pick_f Z (by rw [hz1]; simp) rfl)<|ZM Z<|RunQ.on rfl rfl rfl (by rw [hz3]; simp)<|ZM Z<|RunQ.on rfl rfl rfl (by rw [hz3]; simp)<|ZM Z<|RunQ.on rfl rfl rfl (by rw [hz3]; simp)<|ZM Z<|RunQ.on rfl rfl rfl (by rw [hz3]; simp)<|ZV (Y.idxR i1 Z Z Law18e_es55 hv.of_nil W W)<|RunQ.on rfl rfl rfl (by rw [hz3]; simp)<|ZV (Y.fieldR Z Law18e_fo59_2 hv.of_nil W)<|?_
    refine RunQ.on rfl rfl rfl (by rw [hz3]; simp)<|ZV (Y.fieldR Z Law18e_fo35_5 hv.of_nil W)<|RunQ.on rfl rfl rfl (by rw [hz3]; simp)<|ZV (Y.ldR Z Law18e_ts30 hv.of_nil (flatm_at (i := i1) (o := 7) St18.enc.len W St18.dflt WD rfl))<|RunQ.on rfl rfl rfl (by rw [hz3]; simp)<|RunQ.call0 (l := [.tmp 61, .tmp 67]) Z Z Z (lt Z) (Does.frame1 0 Z (busy_o hb2 (a := (l.getD i1 St18.dflt).m.addr)))<|RunQ.on rfl rfl rfl (by rw [hz3]; simp)<|?_
    refine ZM Z<|RunQ.on rfl rfl rfl (by rw [hz3]; simp)<|ZM Z<|RunQ.on rfl rfl rfl (by rw [hz3]; simp)<|ZM Z<|RunQ.on rfl rfl rfl (by rw [hz3]; simp)<|ZV (Y.idxR i1 Z Z Law18e_es55 hv.of_nil W W)<|RunQ.on rfl rfl rfl (by rw [hz3]; simp)<|ZV (Y.fieldR Z Law18e_fo59_2 hv.of_nil W)<|RunQ.on rfl rfl rfl (by rw [hz3]; simp)<|ZV (Y.fieldR Z Law18e_fo35_5 hv.of_nil W)<|RunQ.on rfl rfl rfl (by rw [hz3]; simp)<|?_
    refine ZV (Y.ldR Z Law18e_ts30 hv.of_nil (flatm_at (i := i1) (o := 7) St18.enc.len W St18.dflt WD rfl))<|RunQ.on rfl rfl rfl (by rw [hz3]; simp)<|RunQ.call0 (l := [.tmp 69, .tmp 75]) rfl rfl rfl (lt rfl) ((rbusy_c (r := r2) (a := (l.getD i1 St18.dflt).m.addr) hl2 hw2 W W).frameP (pull_perm [1, 1, 1] [s2, [(rx, .cells #[.slice pl2 r2.l.length cl2, .slice pw2 r2.w.length cw2, .int .i64 r2.xid] 63 (0, 0))], ql2, qw2]))<|?_
    refine RunQ.on rfl rfl rfl (by rw [hz3]; simp)<|ZV (Y.neB Z Z Law18e_tg4)<|ZV (Y.pick_f Z (by rw [hz3]; simp) rfl)<|ZE<|Zg<|Tr.cond_f rfl (by rw [hz2]; simp)<|Zt<|Zc<|Zg<|Zr<|Zm Z<|Zv (Y.add Z Z W)<|Za Z<|Ze<|Ex.keep [0, 0, 0, 0]<|?_
    exact ZR (⟨i1 + 1, o2, r2, s2, pl2, cl2, pw2, cw2, ql2, qw2⟩ : Nat × Ob × Rb × Sg × Option Addr × Nat × Option Addr × Nat × Sg × Sg) ⟨hb2, hl2, hw2, hR2, by (try dsimp only); omega, by (try dsimp only); omega, by (try dsimp only); omega⟩ (by dsimp only; omega)
  ·refine Tr.cond_f Z h3<|Zx<|Zy<|Zy<|Zi<|Zg<|Zs<|Zr<|Za Z<|Ze<|Zg<|Zu<|Ex.keep []<|?_
   exact Ex.ret1 rfl rfl  rfl
 ·refine Zo h2 Z<|Zo h2 Z<|Zv (Y.pick_f Z h2 Z)<|Ze<|Zg<|Tr.cond_f Z Z<|Zx<|Zy<|Zy<|Zi<|Zg<|Zs<|Zr<|Za Z<|Ze<|Zg<|?_
  refine Zu<|Ex.keep []<|?_
  exact Ex.ret1 rfl rfl  rfl

theorem outboxscripts_h {V : Vw} {l : List St18} {v0 : Value} (hv : Rd V [] 13 v0 l.length (l.map St18.cells).flatten) (hl9 : l.length ≤ 9223372036854775807) (hcs : ∀ s, s ∈ l → s.m.client.size ≤ 9223372036854775807) : Does Try.prog 6 [v0] V [] (fun v _ _ => v = .bool true) := by
  obtain ⟨p, c, rfl, _⟩ := hv.form
  rw [← List.flatMap_def] at hv
  exact outboxscripts_c hv hl9 hcs
end Go.Proofs.Ytpdnkhdmajmbiaa
