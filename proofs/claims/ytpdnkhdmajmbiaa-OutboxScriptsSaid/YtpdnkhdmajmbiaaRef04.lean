/- What the functions of the reference lessorref04 do.
Conditions: as each theorem names them. -/
import Derived.Test.YtpdnkhdmajmbiaaProg
import Derived.Test.YtpdnkhdmajmbiaaMB
import Derived.Test.YtpdnkhdmajmbiaaKA
import Derived.Test.YtpdnkhdmajmbiaaZG
set_option linter.unusedSimpArgs false
set_option linter.unusedVariables false
set_option maxRecDepth 4000
namespace Go.Proofs.Ytpdnkhdmajmbiaa
open Go Go.K
attribute [local irreducible] Code.wp wpList Calls wpQuiet
theorem Ref04_fo35_0 : fieldOff Try.prog 35 0 = some 0 := by kernel_rfl
theorem Ref04_ts3 : scal Try.prog 3 = true := by kernel_rfl
theorem Ref04_fo35_1 : fieldOff Try.prog 35 1 = some 1 := by kernel_rfl
theorem Ref04_fo35_2 : fieldOff Try.prog 35 2 = some 2 := by kernel_rfl
theorem Ref04_zo35 : zeroOf Try.prog 35 = some (.agg #[.int .i64 0, .int .i64 0, .int .i64 0, .int .i64 0, .int .i64 0, .int .u32 0, .int .i64 0, .string ⟨#[]⟩, .int .i64 0, .int .i64 0, .bool false]) := by kernel_rfl
theorem Ref04_pl35 : placesS Try.prog 35 = some [(0, 1), (1, 1), (2, 1), (3, 1), (4, 1), (5, 1), (6, 1), (7, 1), (8, 1), (9, 1), (10, 1)] := by kernel_rfl
theorem Ref04_sz35 : sizeT Try.prog 35 = some 11 := by kernel_rfl
theorem Ref04_fo35_4 : fieldOff Try.prog 35 4 = some 4 := by kernel_rfl
theorem Ref04_sz3 : sizeT Try.prog 3 = some 1 := by kernel_rfl
theorem Ref04_fo35_3 : fieldOff Try.prog 35 3 = some 3 := by kernel_rfl
theorem Ref04_ag35 : aggsz Try.prog 35 = some 11 := by kernel_rfl
theorem Ref04_tgs35 : tags Try.prog 35 = some [(0, .i64), (0, .i64), (0, .i64), (0, .i64), (0, .i64), (0, .u32), (0, .i64), (2, .i64), (0, .i64), (0, .i64), (1, .i64)] := by kernel_rfl
theorem Ref04_fo35_10 : fieldOff Try.prog 35 10 = some 10 := by kernel_rfl
theorem Ref04_ts4 : scal Try.prog 4 = true := by kernel_rfl
theorem Ref04_sz4 : sizeT Try.prog 4 = some 1 := by kernel_rfl
theorem Ref04_fo35_6 : fieldOff Try.prog 35 6 = some 6 := by kernel_rfl
theorem Ref04_fo35_8 : fieldOff Try.prog 35 8 = some 8 := by kernel_rfl
theorem Ref04_fo35_9 : fieldOff Try.prog 35 9 = some 9 := by kernel_rfl
theorem Ref04_fo35_7 : fieldOff Try.prog 35 7 = some 7 := by kernel_rfl
theorem Ref04_ts9 : scal Try.prog 9 = true := by kernel_rfl
theorem Ref04_st9 : strT Try.prog 9 = true := by kernel_rfl

theorem rwithin_c0 {n lo hi : Int} {V : Vw} : Does Try.prog 108 [.int .i64 n, .int .i64 lo, .int .i64 hi] V [] (Pv (.bool (Msg.within n lo hi)) V []) := by
 refine Does.intro Try.func108 rfl rfl (le rfl) (fun B => ?_)
 refine Zs<|Zr<|Za Z<|Ze<|Zg<|Zs<|Zr<|Zm Z<|Zm Z<|Zv (Y.int Z Z Z)<|Zm Z<|?_
 rcases Zsplit (decide (n ≥ lo)) with ⟨h1, g1⟩ | ⟨h1, g1⟩ <;> try simp only [kb] at g1
 ·refine Zp h1<|Zm Z<|Zp h1<|Zm Z<|Zp h1<|Zv (Y.int Z Z Z)<|Zv (Y.pick_t Z h1 Z)<|Za Z<|Ze<|Zg<|Zu<|?_
  exact Ex.ret1 rfl rfl  ⟨by unfold Msg.within; simp_all <;> omega, rfl, rfl⟩
 ·refine Zo h1 Z<|Zo h1 Z<|Zo h1 Z<|Zv (Y.pick_f Z h1 Z)<|Za Z<|Ze<|Zg<|Zu<|?_
  exact Ex.ret1 rfl rfl  ⟨by unfold Msg.within; simp_all <;> omega, rfl, rfl⟩

theorem rwithin_c0_h {n lo hi : Int} {V : Vw} {H : Hp} : Does Try.prog 108 [.int .i64 n, .int .i64 lo, .int .i64 hi] V H (Pv (.bool (Msg.within n lo hi)) V H) := rwithin_c0.frame

theorem rright_c0 {m : Msg} {V : Vw} : Does Try.prog 86 [.agg #[.int .i64 m.kind, .int .i64 m.life, .int .i64 m.seen, .int .i64 m.xid, .int .i64 m.state, .int .u32 m.addr, .int .i64 m.bind, .string m.client, .int .i64 m.pot, .int .i64 m.at_, .bool m.ok]] V [] (Pv (.bool (Msg.right m)) V []) := by
 refine Does.intro Try.func86 rfl rfl (le rfl) (fun B => ?_)
 refine Zs<|Zr<|?_
 refine Run.box rfl (lt rfl) (fun b1 => ?_)
 refine Za Z<|Ze<|Zg<|Zs<|Zs<|Zr<|Zv (Y.fieldAddr Z Ref04_fo35_0)<|Zv (Y.load Z Ref04_ts3 (Kn.at 0 Z) Z)<|Run.call0 (l := [.tmp 5, .const (.int .i64 1), .const (.int .i64 5)]) Z Z Z (lt Z) rwithin_c0_h<|Zv (Y.not Z)<|Zm Z<|?_
 rcases Zsplit (Msg.within m.kind 1 5) with ⟨h2, g2⟩ | ⟨h2, g2⟩ <;> try simp only [kb] at g2
 ·refine Zp (congrArg Bool.not h2)<|Zv (Y.fieldAddr Z Ref04_fo35_1)<|Zp (congrArg Bool.not h2)<|Zv (Y.load Z Ref04_ts3 (Kn.at 0 Z) Z)<|Zp (congrArg Bool.not h2)<|Run.call0 (l := [.tmp 10, .const (.int .i64 1), .const (.int .i64 536870912)]) Z Z Z (lt Z) rwithin_c0_h<|Zp (congrArg Bool.not h2)<|Zv (Y.not Z)<|Zv (Y.pick_f Z (congrArg Bool.not h2) Z)<|Zm Z<|?_
  rcases Zsplit (Msg.within m.life 1 536870912) with ⟨h3, g3⟩ | ⟨h3, g3⟩ <;> try simp only [kb] at g3
  ·refine Zp (congrArg Bool.not h3)<|Zv (Y.fieldAddr Z Ref04_fo35_2)<|Zp (congrArg Bool.not h3)<|Zv (Y.load Z Ref04_ts3 (Kn.at 0 Z) Z)<|Zp (congrArg Bool.not h3)<|Run.call0 (l := [.tmp 16, .const (.int .i64 0), .const (.int .i64 536870912)]) Z Z Z (lt Z) rwithin_c0_h<|Zp (congrArg Bool.not h3)<|Zv (Y.not Z)<|Zv (Y.pick_f Z (congrArg Bool.not h3) Z)<|Ze<|Zg<|?_
   rcases Zsplit (Msg.within m.seen 0 536870912) with ⟨h4, g4⟩ | ⟨h4, g4⟩ <;> try simp only [kb] at g4
   ·refine Tr.cond_f Z (congrArg Bool.not h4)<|Zt<|Zg<|Zs<|Zr<|Zv (Y.fieldAddr Z Ref04_fo35_0)<|Zv (Y.load Z Ref04_ts3 (Kn.at 0 Z) Z)<|Zv (Y.fieldAddr Z Ref04_fo35_1)<|Zv (Y.load Z Ref04_ts3 (Kn.at 0 Z) Z)<|Zv (Y.fieldAddr Z Ref04_fo35_2)<|Zv (Y.load Z Ref04_ts3 (Kn.at 0 Z) Z)<|Zv (Y.buildS (l := [(0, .tmp 21), (1, .tmp 23), (2, .tmp 25)]) Ref04_zo35 Ref04_pl35 Z Z)<|?_
    refine Run.alloc Ref04_zo35 (lt rfl) (fun b5 => ?_)
    refine Run.store (s := [(b5, .cells #[.int .i64 m.kind, .int .i64 m.life, .int .i64 m.seen, .int .i64 0, .int .i64 0, .int .u32 0, .int .i64 0, .string ⟨#[]⟩, .int .i64 0, .int .i64 0, .bool false] 35 (0, 0))]) Z Z Ref04_sz35 (i := 0) Z Z (le Z) Z Z<|Ze<|Zg<|Zs<|Zs<|Zr<|Zv (Y.fieldAddr Z Ref04_fo35_0)<|Zv (Y.load Z Ref04_ts3 (Kn.at 1 Z) Z)<|Ze<|Zg<|Zb<|Zs<|Zr<|Zv (Y.int Z Z Z)<|Za Z<|Ze<|?_
    refine Zg ?_
    rcases Zsplit (m.kind == 1) with ⟨h6, g6⟩ | ⟨h6, g6⟩ <;> try simp only [kb] at g6
    ·refine Tr.cond_t Z h6<|Zs<|Zr<|Zv (Y.fieldAddr Z Ref04_fo35_4)<|Zv (Y.load Z Ref04_ts3 (Kn.at 1 Z) Z)<|Zv (Y.fieldAddr Z Ref04_fo35_4)<|Run.store (s := [(b5, .cells #[.int .i64 m.kind, .int .i64 m.life, .int .i64 m.seen, .int .i64 0, .int .i64 m.state, .int .u32 0, .int .i64 0, .string ⟨#[]⟩, .int .i64 0, .int .i64 0, .bool false] 35 (0, 0))]) Z Z Ref04_sz3 (i := 0) Z Z (le Z) Z Z<|Ze<|Zg<|Zs<|Zr<|Zv (Y.fieldAddr Z Ref04_fo35_3)<|?_
     refine Zv (Y.load Z Ref04_ts3 (Kn.at 1 Z) Z)<|Zv (Y.fieldAddr Z Ref04_fo35_3)<|Run.store (s := [(b5, .cells #[.int .i64 m.kind, .int .i64 m.life, .int .i64 m.seen, .int .i64 m.xid, .int .i64 m.state, .int .u32 0, .int .i64 0, .string ⟨#[]⟩, .int .i64 0, .int .i64 0, .bool false] 35 (0, 0))]) Z Z Ref04_sz3 (i := 0) Z Z (le Z) Z Z<|Ze<|Zg<|Zs<|Zr<|Zv (Y.loadAgg Z Ref04_ag35 (Kn.at 1 Z) Z)<|Zv (Y.loadAgg Z Ref04_ag35 (Kn.at 0 Z) Z)<|?_
     refine Zv (Y.eqS Z Z Ref04_tgs35 Z Z)<|Zm Z<|?_
     rcases Zsplit (Msg.same m (⟨m.kind, m.life, m.seen, m.xid, m.state, 0, 0, ⟨#[]⟩, 0, 0, false⟩ : Msg)) with ⟨h7, g7⟩ | ⟨h7, g7⟩ <;> try simp only [kb] at g7
     ·refine Zp h7<|Zv (Y.fieldAddr Z Ref04_fo35_4)<|Zp h7<|Zv (Y.load Z Ref04_ts3 (Kn.at 1 Z) Z)<|Zp h7<|Run.call0 (l := [.tmp 42, .const (.int .i64 0), .const (.int .i64 8)]) Z Z Z (lt Z) rwithin_c0_h<|Zv (Y.pick_t Z h7 Z)<|Zm Z<|?_
      rcases Zsplit (Msg.within m.state 0 8) with ⟨h8, g8⟩ | ⟨h8, g8⟩ <;> try simp only [kb] at g8
      ·refine Zp h8<|Zv (Y.fieldAddr Z Ref04_fo35_3)<|Zp h8<|Zv (Y.load Z Ref04_ts3 (Kn.at 1 Z) Z)<|Zp h8<|Run.call0 (l := [.tmp 47, .const (.int .i64 1), .const (.int .i64 1073741824)]) Z Z Z (lt Z) rwithin_c0_h<|Zv (Y.pick_t Z h8 Z)<|Za Z<|Ze<|Zg<|Zu<|Zk<|Zn<|Ex.keep []<|?_
       exact Ex.ret1 rfl rfl  ⟨by rw [← Msg.rright_eq]; simp only [Msg.rright, h2, h3, h4, h6, h7, h8, Bool.true_and, Bool.false_and, Bool.and_true, Bool.not_true, Bool.not_false, Bool.or_true, Bool.true_or, Bool.or_false, Bool.false_or, Bool.false_eq_true, if_true, if_false]; try rfl, rfl, rfl⟩
      ·refine Zo h8 Z<|Zo h8 Z<|Zo h8 Z<|Zv (Y.pick_f Z h8 Z)<|Za Z<|Ze<|Zg<|Zu<|Zk<|Zn<|Ex.keep []<|?_
       exact Ex.ret1 rfl rfl  ⟨by rw [← Msg.rright_eq]; simp only [Msg.rright, h2, h3, h4, h6, h7, h8, Bool.true_and, Bool.false_and, Bool.and_true, Bool.not_true, Bool.not_false, Bool.or_true, Bool.true_or, Bool.or_false, Bool.false_or, Bool.false_eq_true, if_true, if_false]; try rfl, rfl, rfl⟩
     ·refine Zo h7 Z<|Zo h7 Z<|Zo h7 Z<|Zv (Y.pick_f Z h7 Z)<|Zm Z<|Zo Z Z<|Zo Z Z<|Zo Z Z<|Zv (Y.pick_f Z Z Z)<|Za Z<|Ze<|Zg<|Zu<|Zk<|Zn<|Ex.keep []<|?_
      exact Ex.ret1 rfl rfl  ⟨by rw [← Msg.rright_eq]; simp only [Msg.rright, h2, h3, h4, h6, h7, Bool.true_and, Bool.false_and, Bool.and_true, Bool.not_true, Bool.not_false, Bool.or_true, Bool.true_or, Bool.or_false, Bool.false_or, Bool.false_eq_true, if_true, if_false]; try rfl, rfl, rfl⟩
    ·refine Tr.cond_f Z h6<|Zs<|Zr<|Zv (Y.int Z Z Z)<|Za Z<|Ze<|Zg<|?_
     rcases Zsplit (m.kind == 3) with ⟨h9, g9⟩ | ⟨h9, g9⟩ <;> try simp only [kb] at g9
     ·refine Tr.cond_t Z h9<|Zs<|Zr<|Zv (Y.fieldAddr Z Ref04_fo35_3)<|Zv (Y.load Z Ref04_ts3 (Kn.at 1 Z) Z)<|Zv (Y.fieldAddr Z Ref04_fo35_3)<|Run.store (s := [(b5, .cells #[.int .i64 m.kind, .int .i64 m.life, .int .i64 m.seen, .int .i64 m.xid, .int .i64 0, .int .u32 0, .int .i64 0, .string ⟨#[]⟩, .int .i64 0, .int .i64 0, .bool false] 35 (0, 0))]) Z Z Ref04_sz3 (i := 0) Z Z (le Z) Z Z<|Ze<|Zg<|Zs<|Zr<|Zv (Y.fieldAddr Z Ref04_fo35_10)<|?_
      refine Zv (Y.load Z Ref04_ts4 (Kn.at 1 Z) Z)<|Zv (Y.fieldAddr Z Ref04_fo35_10)<|Run.store (s := [(b5, .cells #[.int .i64 m.kind, .int .i64 m.life, .int .i64 m.seen, .int .i64 m.xid, .int .i64 0, .int .u32 0, .int .i64 0, .string ⟨#[]⟩, .int .i64 0, .int .i64 0, .bool m.ok] 35 (0, 0))]) Z Z Ref04_sz4 (i := 0) Z Z (le Z) Z Z<|Ze<|Zg<|Zs<|Zr<|Zv (Y.loadAgg Z Ref04_ag35 (Kn.at 1 Z) Z)<|Zv (Y.loadAgg Z Ref04_ag35 (Kn.at 0 Z) Z)<|?_
      refine Zv (Y.eqS Z Z Ref04_tgs35 Z Z)<|Zm Z<|?_
      rcases Zsplit (Msg.same m (⟨m.kind, m.life, m.seen, m.xid, 0, 0, 0, ⟨#[]⟩, 0, 0, m.ok⟩ : Msg)) with ⟨h10, g10⟩ | ⟨h10, g10⟩ <;> try simp only [kb] at g10
      ·refine Zp h10<|Zv (Y.fieldAddr Z Ref04_fo35_3)<|Zp h10<|Zv (Y.load Z Ref04_ts3 (Kn.at 1 Z) Z)<|Zp h10<|Run.call0 (l := [.tmp 63, .const (.int .i64 1), .const (.int .i64 1073741824)]) Z Z Z (lt Z) rwithin_c0_h<|Zv (Y.pick_t Z h10 Z)<|Za Z<|Ze<|Zg<|Zu<|Zk<|Zn<|Ex.keep []<|?_
       exact Ex.ret1 rfl rfl  ⟨by rw [← Msg.rright_eq]; simp only [Msg.rright, h2, h3, h4, h6, h9, h10, Bool.true_and, Bool.false_and, Bool.and_true, Bool.not_true, Bool.not_false, Bool.or_true, Bool.true_or, Bool.or_false, Bool.false_or, Bool.false_eq_true, if_true, if_false]; try rfl, rfl, rfl⟩
      ·refine Zo h10 Z<|Zo h10 Z<|Zo h10 Z<|Zv (Y.pick_f Z h10 Z)<|Za Z<|Ze<|Zg<|Zu<|Zk<|Zn<|Ex.keep []<|?_
       exact Ex.ret1 rfl rfl  ⟨by rw [← Msg.rright_eq]; simp only [Msg.rright, h2, h3, h4, h6, h9, h10, Bool.true_and, Bool.false_and, Bool.and_true, Bool.not_true, Bool.not_false, Bool.or_true, Bool.true_or, Bool.or_false, Bool.false_or, Bool.false_eq_true, if_true, if_false]; try rfl, rfl, rfl⟩
     ·refine Tr.cond_f Z h9<|Zs<|Zr<|Zv (Y.int Z Z Z)<|Za Z<|Ze<|Zg<|?_
      rcases Zsplit (m.kind == 2) with ⟨h11, g11⟩ | ⟨h11, g11⟩ <;> try simp only [kb] at g11
      ·refine Tr.cond_t Z h11<|Zs<|Zr<|Zv (Y.loadAgg Z Ref04_ag35 (Kn.at 1 Z) Z)<|Run.store (s := [(b5, .cells #[.int .i64 m.kind, .int .i64 m.life, .int .i64 m.seen, .int .i64 m.xid, .int .i64 m.state, .int .u32 m.addr, .int .i64 m.bind, .string m.client, .int .i64 m.pot, .int .i64 m.at_, .bool m.ok] 35 (0, 0))]) Z Z Ref04_sz35 (i := 0) Z Z (le Z) Z Z<|Ze<|Zg<|Zs<|Zr<|Zv (Y.fieldAddr Z Ref04_fo35_4)<|Run.store (s := [(b5, .cells #[.int .i64 m.kind, .int .i64 m.life, .int .i64 m.seen, .int .i64 m.xid, .int .i64 0, .int .u32 m.addr, .int .i64 m.bind, .string m.client, .int .i64 m.pot, .int .i64 m.at_, .bool m.ok] 35 (0, 0))]) Z Z Ref04_sz3 (i := 0) Z Z (le Z) Z Z<|?_
       refine Ze<|Zg<|Zs<|Zr<|Zv (Y.fieldAddr Z Ref04_fo35_10)<|Run.store (s := [(b5, .cells #[.int .i64 m.kind, .int .i64 m.life, .int .i64 m.seen, .int .i64 m.xid, .int .i64 0, .int .u32 m.addr, .int .i64 m.bind, .string m.client, .int .i64 m.pot, .int .i64 m.at_, .bool false] 35 (0, 0))]) Z Z Ref04_sz4 (i := 0) Z Z (le Z) Z Z<|Ze<|Zg<|Zs<|Zr<|Zv (Y.loadAgg Z Ref04_ag35 (Kn.at 1 Z) Z)<|Zv (Y.loadAgg Z Ref04_ag35 (Kn.at 0 Z) Z)<|Zv (Y.eqS Z Z Ref04_tgs35 Z Z)<|?_
       refine Zm Z ?_
       rcases Zsplit (Msg.same m (⟨m.kind, m.life, m.seen, m.xid, 0, m.addr, m.bind, m.client, m.pot, m.at_, false⟩ : Msg)) with ⟨h12, g12⟩ | ⟨h12, g12⟩ <;> try simp only [kb] at g12
       ·refine Zp h12<|Zv (Y.fieldAddr Z Ref04_fo35_3)<|Zp h12<|Zv (Y.load Z Ref04_ts3 (Kn.at 1 Z) Z)<|Zp h12<|Run.call0 (l := [.tmp 76, .const (.int .i64 1), .const (.int .i64 1073741824)]) Z Z Z (lt Z) rwithin_c0_h<|Zv (Y.pick_t Z h12 Z)<|Zm Z<|?_
        rcases Zsplit (Msg.within m.xid 1 1073741824) with ⟨h13, g13⟩ | ⟨h13, g13⟩ <;> try simp only [kb] at g13
        ·refine Zp h13<|Zv (Y.fieldAddr Z Ref04_fo35_6)<|Zp h13<|Zv (Y.load Z Ref04_ts3 (Kn.at 1 Z) Z)<|Zp h13<|Run.call0 (l := [.tmp 81, .const (.int .i64 0), .const (.int .i64 5)]) Z Z Z (lt Z) rwithin_c0_h<|Zv (Y.pick_t Z h13 Z)<|Zm Z<|?_
         rcases Zsplit (Msg.within m.bind 0 5) with ⟨h14, g14⟩ | ⟨h14, g14⟩ <;> try simp only [kb] at g14
         ·refine Zp h14<|Zv (Y.fieldAddr Z Ref04_fo35_8)<|Zp h14<|Zv (Y.load Z Ref04_ts3 (Kn.at 1 Z) Z)<|Zp h14<|Run.call0 (l := [.tmp 86, .const (.int .i64 0), .const (.int .i64 1099511627776)]) Z Z Z (lt Z) rwithin_c0_h<|Zv (Y.pick_t Z h14 Z)<|Zm Z<|?_
          rcases Zsplit (Msg.within m.pot 0 1099511627776) with ⟨h15, g15⟩ | ⟨h15, g15⟩ <;> try simp only [kb] at g15
          ·refine Zp h15<|Zv (Y.fieldAddr Z Ref04_fo35_9)<|Zp h15<|Zv (Y.load Z Ref04_ts3 (Kn.at 1 Z) Z)<|Zp h15<|Run.call0 (l := [.tmp 91, .const (.int .i64 0), .const (.int .i64 1099511627776)]) Z Z Z (lt Z) rwithin_c0_h<|Zv (Y.pick_t Z h15 Z)<|Zm Z<|?_
           rcases Zsplit (Msg.within m.at_ 0 1099511627776) with ⟨h16, g16⟩ | ⟨h16, g16⟩ <;> try simp only [kb] at g16
           ·refine Zp h16<|Zv (Y.fieldAddr Z Ref04_fo35_7)<|Zp h16<|Zv (Y.load Z Ref04_ts9 (Kn.at 1 Z) Z)<|Zp h16<|Zv (Y.lenStr Z Ref04_st9)<|Zp h16<|Zv (Y.int Z Z Z)<|Zv (Y.pick_t Z h16 Z)<|Za Z<|Ze<|Zg<|Zu<|Zk<|Zn<|Ex.keep []<|?_
            exact Ex.ret1 rfl rfl  ⟨by rw [← Msg.rright_eq]; simp only [Msg.rright, h2, h3, h4, h6, h9, h11, h12, h13, h14, h15, h16, Bool.true_and, Bool.false_and, Bool.and_true, Bool.not_true, Bool.not_false, Bool.or_true, Bool.true_or, Bool.or_false, Bool.false_or, Bool.false_eq_true, if_true, if_false]; try rfl, rfl, rfl⟩
           ·refine Zo h16 Z<|Zo h16 Z<|Zo h16 Z<|Zo h16 Z<|Zv (Y.pick_f Z h16 Z)<|Za Z<|Ze<|Zg<|Zu<|Zk<|Zn<|Ex.keep []<|?_
            exact Ex.ret1 rfl rfl  ⟨by rw [← Msg.rright_eq]; simp only [Msg.rright, h2, h3, h4, h6, h9, h11, h12, h13, h14, h15, h16, Bool.true_and, Bool.false_and, Bool.and_true, Bool.not_true, Bool.not_false, Bool.or_true, Bool.true_or, Bool.or_false, Bool.false_or, Bool.false_eq_true, if_true, if_false]; try rfl, rfl, rfl⟩
          ·refine Zo h15 Z<|Zo h15 Z<|Zo h15 Z<|Zv (Y.pick_f Z h15 Z)<|Zm Z<|Zo Z Z<|Zo Z Z<|Zo Z Z<|Zo Z Z<|Zv (Y.pick_f Z Z Z)<|Za Z<|Ze<|Zg<|Zu<|Zk<|Zn<|?_
           refine Ex.keep [] ?_
           exact Ex.ret1 rfl rfl  ⟨by rw [← Msg.rright_eq]; simp only [Msg.rright, h2, h3, h4, h6, h9, h11, h12, h13, h14, h15, Bool.true_and, Bool.false_and, Bool.and_true, Bool.not_true, Bool.not_false, Bool.or_true, Bool.true_or, Bool.or_false, Bool.false_or, Bool.false_eq_true, if_true, if_false]; try rfl, rfl, rfl⟩
         ·refine Zo h14 Z<|Zo h14 Z<|Zo h14 Z<|Zv (Y.pick_f Z h14 Z)<|Zm Z<|Zo Z Z<|Zo Z Z<|Zo Z Z<|Zv (Y.pick_f Z Z Z)<|Zm Z<|Zo Z Z<|Zo Z Z<|Zo Z Z<|Zo Z Z<|Zv (Y.pick_f Z Z Z)<|Za Z<|?_
          refine Ze<|Zg<|Zu<|Zk<|Zn<|Ex.keep []<|?_
          exact Ex.ret1 rfl rfl  ⟨by rw [← Msg.rright_eq]; simp only [Msg.rright, h2, h3, h4, h6, h9, h11, h12, h13, h14, Bool.true_and, Bool.false_and, Bool.and_true, Bool.not_true, Bool.not_false, Bool.or_true, Bool.true_or, Bool.or_false, Bool.false_or, Bool.false_eq_true, if_true, if_false]; try rfl, rfl, rfl⟩
        ·refine Zo h13 Z<|Zo h13 Z<|Zo h13 Z<|Zv (Y.pick_f Z h13 Z)<|Zm Z<|Zo Z Z<|Zo Z Z<|Zo Z Z<|Zv (Y.pick_f Z Z Z)<|Zm Z<|Zo Z Z<|Zo Z Z<|Zo Z Z<|Zv (Y.pick_f Z Z Z)<|Zm Z<|Zo Z Z<|?_
         refine Zo Z Z<|Zo Z Z<|Zo Z Z<|Zv (Y.pick_f Z Z Z)<|Za Z<|Ze<|Zg<|Zu<|Zk<|Zn<|Ex.keep []<|?_
         exact Ex.ret1 rfl rfl  ⟨by rw [← Msg.rright_eq]; simp only [Msg.rright, h2, h3, h4, h6, h9, h11, h12, h13, Bool.true_and, Bool.false_and, Bool.and_true, Bool.not_true, Bool.not_false, Bool.or_true, Bool.true_or, Bool.or_false, Bool.false_or, Bool.false_eq_true, if_true, if_false]; try rfl, rfl, rfl⟩
       ·refine Zo h12 Z<|Zo h12 Z<|Zo h12 Z<|Zv (Y.pick_f Z h12 Z)<|Zm Z<|Zo Z Z<|Zo Z Z<|Zo Z Z<|Zv (Y.pick_f Z Z Z)<|Zm Z<|Zo Z Z<|Zo Z Z<|Zo Z Z<|Zv (Y.pick_f Z Z Z)<|Zm Z<|Zo Z Z<|?_
        refine Zo Z Z<|Zo Z Z<|Zv (Y.pick_f Z Z Z)<|Zm Z<|Zo Z Z<|Zo Z Z<|Zo Z Z<|Zo Z Z<|Zv (Y.pick_f Z Z Z)<|Za Z<|Ze<|Zg<|Zu<|Zk<|Zn<|Ex.keep []<|?_
        exact Ex.ret1 rfl rfl  ⟨by rw [← Msg.rright_eq]; simp only [Msg.rright, h2, h3, h4, h6, h9, h11, h12, Bool.true_and, Bool.false_and, Bool.and_true, Bool.not_true, Bool.not_false, Bool.or_true, Bool.true_or, Bool.or_false, Bool.false_or, Bool.false_eq_true, if_true, if_false]; try rfl, rfl, rfl⟩
      ·refine Tr.cond_f Z h11<|Zt<|Zc<|Zg<|Zs<|Zr<|Zv (Y.loadAgg Z Ref04_ag35 (Kn.at 1 Z) Z)<|Zv (Y.loadAgg Z Ref04_ag35 (Kn.at 0 Z) Z)<|Zv (Y.eqS Z Z Ref04_tgs35 Z Z)<|Za Z<|Ze<|Zg<|Zu<|Ex.keep []<|?_
       exact Ex.ret1 rfl rfl  ⟨by rw [← Msg.rright_eq]; simp only [Msg.rright, h2, h3, h4, h6, h9, h11, Bool.true_and, Bool.false_and, Bool.and_true, Bool.not_true, Bool.not_false, Bool.or_true, Bool.true_or, Bool.or_false, Bool.false_or, Bool.false_eq_true, if_true, if_false]; try rfl, rfl, rfl⟩
   ·refine Tr.cond_t Z (congrArg Bool.not h4)<|Zs<|Zr<|Za Z<|Ze<|Zg<|Zu<|Zn<|Ex.keep []<|?_
    exact Ex.ret1 rfl rfl  ⟨by rw [← Msg.rright_eq]; simp only [Msg.rright, h2, h3, h4, Bool.true_and, Bool.false_and, Bool.and_true, Bool.not_true, Bool.not_false, Bool.or_true, Bool.true_or, Bool.or_false, Bool.false_or, Bool.false_eq_true, if_true, if_false]; try rfl, rfl, rfl⟩
  ·refine Zo (congrArg Bool.not h3) Z<|Zo (congrArg Bool.not h3) Z<|Zo (congrArg Bool.not h3) Z<|Zo (congrArg Bool.not h3) Z<|Zv (Y.pick_t Z (congrArg Bool.not h3) Z)<|Ze<|Zg<|Tr.cond_t Z Z<|Zs<|Zr<|Za Z<|Ze<|Zg<|Zu<|Zn<|Ex.keep []<|?_
   exact Ex.ret1 rfl rfl  ⟨by rw [← Msg.rright_eq]; simp only [Msg.rright, h2, h3, Bool.true_and, Bool.false_and, Bool.and_true, Bool.not_true, Bool.not_false, Bool.or_true, Bool.true_or, Bool.or_false, Bool.false_or, Bool.false_eq_true, if_true, if_false]; try rfl, rfl, rfl⟩
 ·refine Zo (congrArg Bool.not h2) Z<|Zo (congrArg Bool.not h2) Z<|Zo (congrArg Bool.not h2) Z<|Zo (congrArg Bool.not h2) Z<|Zv (Y.pick_t Z (congrArg Bool.not h2) Z)<|Zm Z<|Zo Z Z<|Zo Z Z<|Zo Z Z<|Zo Z Z<|Zv (Y.pick_t Z Z Z)<|Ze<|Zg<|Tr.cond_t Z Z<|Zs<|Zr<|?_
  refine Za Z<|Ze<|Zg<|Zu<|Zn<|Ex.keep []<|?_
  exact Ex.ret1 rfl rfl  ⟨by rw [← Msg.rright_eq]; simp only [Msg.rright, h2, Bool.true_and, Bool.false_and, Bool.and_true, Bool.not_true, Bool.not_false, Bool.or_true, Bool.true_or, Bool.or_false, Bool.false_or, Bool.false_eq_true, if_true, if_false]; try rfl, rfl, rfl⟩

theorem rright_c {m : Msg} {V : Vw} {H : Hp} : Does Try.prog 86 [.agg m.cells] V H (Pv (.bool (Msg.right m)) V H) := rright_c0.frame
end Go.Proofs.Ytpdnkhdmajmbiaa
