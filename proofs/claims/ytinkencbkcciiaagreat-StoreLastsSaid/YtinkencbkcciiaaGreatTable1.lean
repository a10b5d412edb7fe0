/- Leases that may be; comparisons, walked.
Conditions: as each theorem names them. -/
import Derived.Test.YtinkencbkcciiaaGreatProg
import Derived.Test.YtinkencbkcciiaaGreatTA
import Derived.Test.YtinkencbkcciiaaGreatLA
import Derived.Test.YtinkencbkcciiaaGreatAddr
import Derived.Test.YtinkencbkcciiaaGreatZG
set_option linter.unusedSimpArgs false
set_option linter.unusedVariables false
set_option maxRecDepth 4000
namespace Go.Proofs.YtinkencbkcciiaaGreat
open Go Go.K
attribute [local irreducible] Code.wp wpList Calls wpQuiet
theorem Table1_zo49 : zeroOf Tryz.prog 49 = some (.agg #[.int .u32 0,.int .i64 0,.string ⟨#[]⟩,.int .i64 0,.int .i64 0,.int .i64 0,.int .i64 0,.int .i64 0]) := by kernel_rfl
theorem Table1_pl49 : placesS Tryz.prog 49 = some [(0,1),(1,1),(2,1),(3,1),(4,1),(5,1),(6,1),(7,1)] := by kernel_rfl
theorem Table1_sz49 : sizeT Tryz.prog 49 = some 8 := by kernel_rfl
theorem Table1_ag49 : aggsz Tryz.prog 49 = some 8 := by kernel_rfl
theorem Table1_fo49_1 : fieldOff Tryz.prog 49 1 = some 1 := by kernel_rfl
theorem Table1_ts3 : scal Tryz.prog 3 = true := by kernel_rfl
theorem Table1_fo49_3 : fieldOff Tryz.prog 49 3 = some 3 := by kernel_rfl
theorem Table1_fo49_4 : fieldOff Tryz.prog 49 4 = some 4 := by kernel_rfl
theorem Table1_fo49_5 : fieldOff Tryz.prog 49 5 = some 5 := by kernel_rfl
theorem Table1_fo49_6 : fieldOff Tryz.prog 49 6 = some 6 := by kernel_rfl
theorem Table1_fo49_7 : fieldOff Tryz.prog 49 7 = some 7 := by kernel_rfl
theorem Table1_fo49_2 : fieldOff Tryz.prog 49 2 = some 2 := by kernel_rfl
theorem Table1_ts9 : scal Tryz.prog 9 = true := by kernel_rfl
theorem Table1_st9 : strT Tryz.prog 9 = true := by kernel_rfl
theorem Table1_zo243 : zeroOf Tryz.prog 243 = some (.agg #[.pointer none,.pointer none,.pointer none,.pointer none,.pointer none]) := by kernel_rfl
theorem Table1_mo : Tryz.prog.follows .mixedOrders = true := by kernel_rfl
theorem Table1_ea243 : elemA Tryz.prog 243 = some 1 := by kernel_rfl
theorem Table1_sz243 : sizeT Tryz.prog 243 = some 5 := by kernel_rfl
theorem Table1_ag243 : aggsz Tryz.prog 243 = some 5 := by kernel_rfl
theorem Table1_as243 : arrS Tryz.prog 243 = some 5 := by kernel_rfl
theorem Table1_fo49_0 : fieldOff Tryz.prog 49 0 = some 0 := by kernel_rfl
theorem Table1_ts47 : scal Tryz.prog 47 = true := by kernel_rfl
theorem Table1_tgs49 : tags Tryz.prog 49 = some [(0,.u32),(0,.i64),(2,.i64),(0,.i64),(0,.i64),(0,.i64),(0,.i64),(0,.i64)] := by kernel_rfl
theorem Table1_es219 : elemS Tryz.prog 219 = some (3,1) := by kernel_rfl
theorem Table1_es59 : elemS Tryz.prog 59 = some (49,8) := by kernel_rfl
theorem bare_c {a b v : Int} {V : Vw} : Does Tryz.prog 89 [.int .u32 a,.int .i64 b,.int .i64 v] V [] (Pv (.agg #[.int .u32 a,.int .i64 b,.string ⟨#[]⟩,.int .i64 0,.int .i64 0,.int .i64 0,.int .i64 0,.int .i64 v]) V []) := by
 refine Does.intro Tryz.func89 rfl rfl (le rfl) (fun B => ?_)
 refine Zs<|Zr<|?_
 refine Run.alloc Table1_zo49 (lt rfl) (fun b1 => ?_)
 refine Ze<|Zg<|Zs<|Zr<|Zm Z<|Zm Z<|Zm Z<|Zv (Y.buildS (l := [(0,.tmp 7),(1,.tmp 8),(7,.tmp 9)]) Table1_zo49 Table1_pl49 Z Z)<|Run.store (s := [(b1,.cells #[.int .u32 a,.int .i64 b,.string ⟨#[]⟩,.int .i64 0,.int .i64 0,.int .i64 0,.int .i64 0,.int .i64 v] 49 (0,0))]) Z Z Table1_sz49 (i := 0) Z Z (le Z) Z Z<|Ze<|Zg<|Zu<|?_
 exact Ex.retCell [] rfl rfl Table1_ag49 (Kn.at 0 rfl) rfl ⟨rfl,rfl,rfl⟩
theorem bare_c_h {a b v : Int} {V : Vw} {H : Hp} : Does Tryz.prog 89 [.int .u32 a,.int .i64 b,.int .i64 v] V H (Pv (.agg #[.int .u32 a,.int .i64 b,.string ⟨#[]⟩,.int .i64 0,.int .i64 0,.int .i64 0,.int .i64 0,.int .i64 v]) V H) := bare_c.frame
theorem rbare_c {a b v : Int} {V : Vw} : Does Tryz.prog 122 [.int .u32 a,.int .i64 b,.int .i64 v] V [] (Pv (.agg #[.int .u32 a,.int .i64 b,.string ⟨#[]⟩,.int .i64 0,.int .i64 0,.int .i64 0,.int .i64 0,.int .i64 v]) V []) := by
 refine Does.intro Tryz.func122 rfl rfl (le rfl) (fun B => ?_)
 refine Zs<|Zr<|?_
 refine Run.alloc Table1_zo49 (lt rfl) (fun b1 => ?_)
 refine Ze<|Zg<|Zs<|Zr<|Zm Z<|Zm Z<|Zm Z<|Zv (Y.buildS (l := [(0,.tmp 7),(1,.tmp 8),(7,.tmp 9)]) Table1_zo49 Table1_pl49 Z Z)<|Run.store (s := [(b1,.cells #[.int .u32 a,.int .i64 b,.string ⟨#[]⟩,.int .i64 0,.int .i64 0,.int .i64 0,.int .i64 0,.int .i64 v] 49 (0,0))]) Z Z Table1_sz49 (i := 0) Z Z (le Z) Z Z<|Ze<|Zg<|Zu<|?_
 exact Ex.retCell [] rfl rfl Table1_ag49 (Kn.at 0 rfl) rfl ⟨rfl,rfl,rfl⟩
theorem rbare_c_h {a b v : Int} {V : Vw} {H : Hp} : Does Tryz.prog 122 [.int .u32 a,.int .i64 b,.int .i64 v] V H (Pv (.agg #[.int .u32 a,.int .i64 b,.string ⟨#[]⟩,.int .i64 0,.int .i64 0,.int .i64 0,.int .i64 0,.int .i64 v]) V H) := rbare_c.frame
theorem held_c {b : Int} {V : Vw} : Does Tryz.prog 215 [.int .i64 b] V [] (Pv (.bool (Le.held b)) V []) := by
 refine Does.intro Tryz.func215 rfl rfl (le rfl) (fun B => ?_)
 refine Zs<|Zr<|Za Z<|Ze<|Zg<|Zs<|Zr<|Zm Z<|Zv (Y.int Z Z Z)<|Zm Z<|?_
 rcases Zsplit (decide (b ≥ 2)) with ⟨h1,g1⟩ | ⟨h1,g1⟩ <;> try simp only [kb] at g1
 ·refine Zp h1<|Zm Z<|Zp h1<|Zv (Y.int Z Z Z)<|Zv (Y.pick_t Z h1 Z)<|Za Z<|Ze<|Zg<|Zu<|Ex.keep []<|?_
  exact Ex.ret1 rfl rfl  ⟨congrArg Value.bool (by unfold Le.held; rw [decide_eq_true (p := b ≥ 2) W]; rfl),rfl,rfl⟩
 ·refine Zo h1 Z<|Zo h1 Z<|Zv (Y.pick_f Z h1 Z)<|Za Z<|Ze<|Zg<|Zu<|Ex.keep []<|?_
  exact Ex.ret1 rfl rfl  ⟨congrArg Value.bool (by unfold Le.held; rw [decide_eq_false (p := b ≥ 2) W]; rfl),rfl,rfl⟩
theorem held_c_h {b : Int} {V : Vw} {H : Hp} : Does Tryz.prog 215 [.int .i64 b] V H (Pv (.bool (Le.held b)) V H) := held_c.frame
theorem rtime_c {n : Int} {V : Vw} : Does Tryz.prog 223 [.int .i64 n] V [] (Pv (.bool (Le.tm n)) V []) := by
 refine Does.intro Tryz.func223 rfl rfl (le rfl) (fun B => ?_)
 refine Zs<|Zr<|Za Z<|Ze<|Zg<|Zs<|Zr<|Zm Z<|Zv (Y.int Z Z Z)<|Zm Z<|?_
 rcases Zsplit (decide (n ≥ 0)) with ⟨h1,g1⟩ | ⟨h1,g1⟩ <;> try simp only [kb] at g1
 ·refine Zp h1<|Zm Z<|Zp h1<|Zv (Y.int Z Z Z)<|Zv (Y.pick_t Z h1 Z)<|Za Z<|Ze<|Zg<|Zu<|Ex.keep []<|?_
  exact Ex.ret1 rfl rfl  ⟨congrArg Value.bool (by unfold Le.tm; rw [decide_eq_true (p := n ≥ 0) W]; rfl),rfl,rfl⟩
 ·refine Zo h1 Z<|Zo h1 Z<|Zv (Y.pick_f Z h1 Z)<|Za Z<|Ze<|Zg<|Zu<|Ex.keep []<|?_
  exact Ex.ret1 rfl rfl  ⟨congrArg Value.bool (by unfold Le.tm; rw [decide_eq_false (p := n ≥ 0) W]; rfl),rfl,rfl⟩
theorem rtime_c_h {n : Int} {V : Vw} {H : Hp} : Does Tryz.prog 223 [.int .i64 n] V H (Pv (.bool (Le.tm n)) V H) := rtime_c.frame
theorem rright11_c {q : Le} (hs : q.client.size ≤ 9223372036854775807) {V : Vw} : Does Tryz.prog 152 [.agg #[.int .u32 q.addr,.int .i64 q.bind,.string q.client,.int .i64 q.till,.int .i64 q.acked,.int .i64 q.told,.int .i64 q.at_,.int .i64 q.ver]] V [] (Pv (.bool (Le.right q)) V []) := by
 refine Does.intro Tryz.func152 rfl rfl (le rfl) (fun B => ?_)
 refine Zs<|Zr<|?_
 refine Run.box rfl (lt rfl) (fun b1 => ?_)
 refine Za Z<|Ze<|Zg<|Zs<|Zs<|Zr<|Zv (Y.fieldAddr Z Table1_fo49_1)<|Zv (Y.load Z Table1_ts3 (Kn.at 0 Z) Z)<|Zv (Y.int Z Z Z)<|Zm Z<|?_
 rcases Zsplit (decide (q.bind < 0)) with ⟨h2,g2⟩ | ⟨h2,g2⟩ <;> try simp only [kb] at g2
 ·refine Zo h2 Z<|Zo h2 Z<|Zo h2 Z<|Zv (Y.pick_t Z h2 Z)<|Zm Z<|Zo Z Z<|Zo Z Z<|Zo Z Z<|Zo Z Z<|Zv (Y.pick_t Z Z Z)<|Zm Z<|Zo Z Z<|Zo Z Z<|Zo Z Z<|Zo Z Z<|Zv (Y.pick_t Z Z Z)<|?_
  refine Zm Z<|Zo Z Z<|Zo Z Z<|Zo Z Z<|Zo Z Z<|Zv (Y.pick_t Z Z Z)<|Zm Z<|Zo Z Z<|Zo Z Z<|Zo Z Z<|Zo Z Z<|Zv (Y.pick_t Z Z Z)<|Zm Z<|Zo Z Z<|Zo Z Z<|Zo Z Z<|?_
  refine Zo Z Z<|Zv (Y.pick_t Z Z Z)<|Ze<|Zg<|Tr.cond_t Z Z<|Zs<|Zr<|Za Z<|Ze<|Zg<|Zu<|Zn<|Ex.keep []<|?_
  exact Ex.ret1 rfl rfl  ⟨congrArg Value.bool (Le.right_f W),rfl,rfl⟩
 ·refine Zp h2<|Zv (Y.fieldAddr Z Table1_fo49_1)<|Zp h2<|Zv (Y.load Z Table1_ts3 (Kn.at 0 Z) Z)<|Zp h2<|Zv (Y.int Z Z Z)<|Zv (Y.pick_f Z h2 Z)<|Zm Z<|?_
  rcases Zsplit (decide (q.bind > 5)) with ⟨h3,g3⟩ | ⟨h3,g3⟩ <;> try simp only [kb] at g3
  ·refine Zo h3 Z<|Zo h3 Z<|Zo h3 Z<|Zo h3 Z<|Zv (Y.pick_t Z h3 Z)<|Zm Z<|Zo Z Z<|Zo Z Z<|Zo Z Z<|Zo Z Z<|Zv (Y.pick_t Z Z Z)<|Zm Z<|Zo Z Z<|Zo Z Z<|Zo Z Z<|Zo Z Z<|?_
   refine Zv (Y.pick_t Z Z Z)<|Zm Z<|Zo Z Z<|Zo Z Z<|Zo Z Z<|Zo Z Z<|Zv (Y.pick_t Z Z Z)<|Zm Z<|Zo Z Z<|Zo Z Z<|Zo Z Z<|Zo Z Z<|Zv (Y.pick_t Z Z Z)<|Ze<|Zg<|Tr.cond_t Z Z<|?_
   refine Zs<|Zr<|Za Z<|Ze<|Zg<|Zu<|Zn<|Ex.keep []<|?_
   exact Ex.ret1 rfl rfl  ⟨congrArg Value.bool (Le.right_f W),rfl,rfl⟩
  ·refine Zp h3<|Zv (Y.fieldAddr Z Table1_fo49_3)<|Zp h3<|Zv (Y.load Z Table1_ts3 (Kn.at 0 Z) Z)<|Zp h3<|Run.call0 (l := [.tmp 13]) Z Z Z (lt Z) rtime_c_h<|Zp h3<|Zv (Y.not Z)<|Zv (Y.pick_f Z h3 Z)<|Zm Z<|?_
   rcases Zsplit (Le.tm q.till) with ⟨h4,g4⟩ | ⟨h4,g4⟩ <;> try simp only [kb] at g4
   ·have z5 := Le.tm_t h4
    refine Zp (congrArg Bool.not h4)<|Zv (Y.fieldAddr Z Table1_fo49_4)<|Zp (congrArg Bool.not h4)<|Zv (Y.load Z Table1_ts3 (Kn.at 0 Z) Z)<|Zp (congrArg Bool.not h4)<|Run.call0 (l := [.tmp 19]) Z Z Z (lt Z) rtime_c_h<|Zp (congrArg Bool.not h4)<|Zv (Y.not Z)<|Zv (Y.pick_f Z (congrArg Bool.not h4) Z)<|Zm Z<|?_
    rcases Zsplit (Le.tm q.acked) with ⟨h6,g6⟩ | ⟨h6,g6⟩ <;> try simp only [kb] at g6
    ·have z7 := Le.tm_t h6
     refine Zp (congrArg Bool.not h6)<|Zv (Y.fieldAddr Z Table1_fo49_5)<|Zp (congrArg Bool.not h6)<|Zv (Y.load Z Table1_ts3 (Kn.at 0 Z) Z)<|Zp (congrArg Bool.not h6)<|Run.call0 (l := [.tmp 25]) Z Z Z (lt Z) rtime_c_h<|Zp (congrArg Bool.not h6)<|Zv (Y.not Z)<|Zv (Y.pick_f Z (congrArg Bool.not h6) Z)<|Zm Z<|?_
     rcases Zsplit (Le.tm q.told) with ⟨h8,g8⟩ | ⟨h8,g8⟩ <;> try simp only [kb] at g8
     ·have z9 := Le.tm_t h8
      refine Zp (congrArg Bool.not h8)<|Zv (Y.fieldAddr Z Table1_fo49_6)<|Zp (congrArg Bool.not h8)<|Zv (Y.load Z Table1_ts3 (Kn.at 0 Z) Z)<|Zp (congrArg Bool.not h8)<|Run.call0 (l := [.tmp 31]) Z Z Z (lt Z) rtime_c_h<|Zp (congrArg Bool.not h8)<|Zv (Y.not Z)<|Zv (Y.pick_f Z (congrArg Bool.not h8) Z)<|Zm Z<|?_
      rcases Zsplit (Le.tm q.at_) with ⟨h10,g10⟩ | ⟨h10,g10⟩ <;> try simp only [kb] at g10
      ·have z11 := Le.tm_t h10
       refine Zp (congrArg Bool.not h10)<|Zv (Y.fieldAddr Z Table1_fo49_7)<|Zp (congrArg Bool.not h10)<|Zv (Y.load Z Table1_ts3 (Kn.at 0 Z) Z)<|Zp (congrArg Bool.not h10)<|Run.call0 (l := [.tmp 37]) Z Z Z (lt Z) rtime_c_h<|Zp (congrArg Bool.not h10)<|Zv (Y.not Z)<|Zv (Y.pick_f Z (congrArg Bool.not h10) Z)<|Ze<|Zg<|?_
       rcases Zsplit (Le.tm q.ver) with ⟨h12,g12⟩ | ⟨h12,g12⟩ <;> try simp only [kb] at g12
       ·have z13 := Le.tm_t h12
        refine Tr.cond_f Z (congrArg Bool.not h12)<|Zt<|Zg<|Zs<|Zs<|Zr<|Zv (Y.fieldAddr Z Table1_fo49_1)<|Zv (Y.load Z Table1_ts3 (Kn.at 0 Z) Z)<|Zv (Y.int Z Z Z)<|Zm Z<|?_
        rcases Zsplit (q.bind == 2) with ⟨h14,g14⟩ | ⟨h14,g14⟩ <;> try simp only [kb] at g14
        ·refine Zo h14 Z<|Zo h14 Z<|Zo h14 Z<|Zv (Y.pick_t Z h14 Z)<|Zm Z<|Zo Z Z<|Zo Z Z<|Zo Z Z<|Zv (Y.pick_t Z Z Z)<|Ze<|Zg<|Tr.cond_t Z Z<|Zs<|Zr<|Zv (Y.fieldAddr Z Table1_fo49_2)<|Zv (Y.load Z Table1_ts9 (Kn.at 0 Z) Z)<|?_
         refine Zv (Y.lenStr Z Table1_st9)<|Zv (Y.int Z Z Z)<|Zm Z<|?_
         rcases Zsplit (decide ((q.client.size : Int) ≥ 1)) with ⟨h15,g15⟩ | ⟨h15,g15⟩ <;> try simp only [kb] at g15
         ·refine Zp h15<|Zv (Y.fieldAddr Z Table1_fo49_2)<|Zp h15<|Zv (Y.load Z Table1_ts9 (Kn.at 0 Z) Z)<|Zp h15<|Zv (Y.lenStr Z Table1_st9)<|Zp h15<|Zv (Y.int Z Z Z)<|Zv (Y.pick_t Z h15 Z)<|Za Z<|Ze<|Zg<|Zu<|Zn<|Ex.keep []<|?_
          exact Ex.ret1 rfl rfl  ⟨congrArg Value.bool (Le.right_d W),rfl,rfl⟩
         ·refine Zo h15 Z<|Zo h15 Z<|Zo h15 Z<|Zo h15 Z<|Zv (Y.pick_f Z h15 Z)<|Za Z<|Ze<|Zg<|Zu<|Zn<|Ex.keep []<|?_
          exact Ex.ret1 rfl rfl  ⟨congrArg Value.bool (Le.right_f W),rfl,rfl⟩
        ·refine Zp h14<|Zv (Y.fieldAddr Z Table1_fo49_1)<|Zp h14<|Zv (Y.load Z Table1_ts3 (Kn.at 0 Z) Z)<|Zp h14<|Zv (Y.int Z Z Z)<|Zv (Y.pick_f Z h14 Z)<|Zm Z<|?_
         rcases Zsplit (q.bind == 3) with ⟨h16,g16⟩ | ⟨h16,g16⟩ <;> try simp only [kb] at g16
         ·refine Zo h16 Z<|Zo h16 Z<|Zo h16 Z<|Zv (Y.pick_t Z h16 Z)<|Ze<|Zg<|Tr.cond_t Z Z<|Zs<|Zr<|Zv (Y.fieldAddr Z Table1_fo49_2)<|Zv (Y.load Z Table1_ts9 (Kn.at 0 Z) Z)<|Zv (Y.lenStr Z Table1_st9)<|Zv (Y.int Z Z Z)<|Zm Z<|?_
          rcases Zsplit (decide ((q.client.size : Int) ≥ 1)) with ⟨h17,g17⟩ | ⟨h17,g17⟩ <;> try simp only [kb] at g17
          ·refine Zp h17<|Zv (Y.fieldAddr Z Table1_fo49_2)<|Zp h17<|Zv (Y.load Z Table1_ts9 (Kn.at 0 Z) Z)<|Zp h17<|Zv (Y.lenStr Z Table1_st9)<|Zp h17<|Zv (Y.int Z Z Z)<|Zv (Y.pick_t Z h17 Z)<|Za Z<|Ze<|Zg<|Zu<|Zn<|Ex.keep []<|?_
           exact Ex.ret1 rfl rfl  ⟨congrArg Value.bool (Le.right_d W),rfl,rfl⟩
          ·refine Zo h17 Z<|Zo h17 Z<|Zo h17 Z<|Zo h17 Z<|Zv (Y.pick_f Z h17 Z)<|Za Z<|Ze<|Zg<|Zu<|Zn<|Ex.keep []<|?_
           exact Ex.ret1 rfl rfl  ⟨congrArg Value.bool (Le.right_f W),rfl,rfl⟩
         ·refine Zp h16<|Zv (Y.fieldAddr Z Table1_fo49_1)<|Zp h16<|Zv (Y.load Z Table1_ts3 (Kn.at 0 Z) Z)<|Zp h16<|Zv (Y.int Z Z Z)<|Zv (Y.pick_f Z h16 Z)<|Ze<|Zg<|?_
          rcases Zsplit (q.bind == 4) with ⟨h18,g18⟩ | ⟨h18,g18⟩ <;> try simp only [kb] at g18
          ·refine Tr.cond_t Z h18<|Zs<|Zr<|Zv (Y.fieldAddr Z Table1_fo49_2)<|Zv (Y.load Z Table1_ts9 (Kn.at 0 Z) Z)<|Zv (Y.lenStr Z Table1_st9)<|Zv (Y.int Z Z Z)<|Zm Z<|?_
           rcases Zsplit (decide ((q.client.size : Int) ≥ 1)) with ⟨h19,g19⟩ | ⟨h19,g19⟩ <;> try simp only [kb] at g19
           ·refine Zp h19<|Zv (Y.fieldAddr Z Table1_fo49_2)<|Zp h19<|Zv (Y.load Z Table1_ts9 (Kn.at 0 Z) Z)<|Zp h19<|Zv (Y.lenStr Z Table1_st9)<|Zp h19<|Zv (Y.int Z Z Z)<|Zv (Y.pick_t Z h19 Z)<|Za Z<|Ze<|Zg<|Zu<|Zn<|Ex.keep []<|?_
            exact Ex.ret1 rfl rfl  ⟨congrArg Value.bool (Le.right_d W),rfl,rfl⟩
           ·refine Zo h19 Z<|Zo h19 Z<|Zo h19 Z<|Zo h19 Z<|Zv (Y.pick_f Z h19 Z)<|Za Z<|Ze<|Zg<|Zu<|Zn<|Ex.keep []<|?_
            exact Ex.ret1 rfl rfl  ⟨congrArg Value.bool (Le.right_f W),rfl,rfl⟩
          ·refine Tr.cond_f Z h18<|Zt<|Zg<|Zs<|Zr<|Zv (Y.fieldAddr Z Table1_fo49_2)<|Zv (Y.load Z Table1_ts9 (Kn.at 0 Z) Z)<|Zv (Y.eqStr Z Z)<|Zm Z<|?_
           rcases Zsplit (q.client.toList == (⟨#[]⟩ : ByteArray).toList) with ⟨h20,g20⟩ | ⟨h20,g20⟩ <;> try simp only [kb] at g20
           ·have z21 := Le.str0_t h20
            refine Zp h20<|Zv (Y.fieldAddr Z Table1_fo49_3)<|Zp h20<|Zv (Y.load Z Table1_ts3 (Kn.at 0 Z) Z)<|Zp h20<|Zv (Y.int Z Z Z)<|Zv (Y.pick_t Z h20 Z)<|Zm Z<|?_
            rcases Zsplit (q.till == 0) with ⟨h22,g22⟩ | ⟨h22,g22⟩ <;> try simp only [kb] at g22
            ·refine Zp h22<|Zv (Y.fieldAddr Z Table1_fo49_4)<|Zp h22<|Zv (Y.load Z Table1_ts3 (Kn.at 0 Z) Z)<|Zp h22<|Zv (Y.int Z Z Z)<|Zv (Y.pick_t Z h22 Z)<|Zm Z<|?_
             rcases Zsplit (q.acked == 0) with ⟨h23,g23⟩ | ⟨h23,g23⟩ <;> try simp only [kb] at g23
             ·refine Zp h23<|Zv (Y.fieldAddr Z Table1_fo49_5)<|Zp h23<|Zv (Y.load Z Table1_ts3 (Kn.at 0 Z) Z)<|Zp h23<|Zv (Y.int Z Z Z)<|Zv (Y.pick_t Z h23 Z)<|Zm Z<|?_
              rcases Zsplit (q.told == 0) with ⟨h24,g24⟩ | ⟨h24,g24⟩ <;> try simp only [kb] at g24
              ·refine Zp h24<|Zv (Y.fieldAddr Z Table1_fo49_6)<|Zp h24<|Zv (Y.load Z Table1_ts3 (Kn.at 0 Z) Z)<|Zp h24<|Zv (Y.int Z Z Z)<|Zv (Y.pick_t Z h24 Z)<|Za Z<|Ze<|Zg<|Zu<|Ex.keep []<|?_
               exact Ex.ret1 rfl rfl  ⟨congrArg Value.bool ((show (q.at_ == 0) = decide (q.at_ = 0) from rfl).trans (Le.right_d W)),rfl,rfl⟩
              ·refine Zo h24 Z<|Zo h24 Z<|Zo h24 Z<|Zv (Y.pick_f Z h24 Z)<|Za Z<|Ze<|Zg<|Zu<|Ex.keep []<|?_
               exact Ex.ret1 rfl rfl  ⟨congrArg Value.bool (Le.right_f W),rfl,rfl⟩
             ·refine Zo h23 Z<|Zo h23 Z<|Zo h23 Z<|Zv (Y.pick_f Z h23 Z)<|Zm Z<|Zo Z Z<|Zo Z Z<|Zo Z Z<|Zv (Y.pick_f Z Z Z)<|Za Z<|Ze<|Zg<|Zu<|Ex.keep []<|?_
              exact Ex.ret1 rfl rfl  ⟨congrArg Value.bool (Le.right_f W),rfl,rfl⟩
            ·refine Zo h22 Z<|Zo h22 Z<|Zo h22 Z<|Zv (Y.pick_f Z h22 Z)<|Zm Z<|Zo Z Z<|Zo Z Z<|Zo Z Z<|Zv (Y.pick_f Z Z Z)<|Zm Z<|Zo Z Z<|Zo Z Z<|Zo Z Z<|Zv (Y.pick_f Z Z Z)<|Za Z<|Ze<|?_
             refine Zg<|Zu<|Ex.keep []<|?_
             exact Ex.ret1 rfl rfl  ⟨congrArg Value.bool (Le.right_f W),rfl,rfl⟩
           ·have z25 := Le.str0_f h20
            refine Zo h20 Z<|Zo h20 Z<|Zo h20 Z<|Zv (Y.pick_f Z h20 Z)<|Zm Z<|Zo Z Z<|Zo Z Z<|Zo Z Z<|Zv (Y.pick_f Z Z Z)<|Zm Z<|Zo Z Z<|Zo Z Z<|Zo Z Z<|Zv (Y.pick_f Z Z Z)<|Zm Z<|Zo Z Z<|?_
            refine Zo Z Z<|Zo Z Z<|Zv (Y.pick_f Z Z Z)<|Za Z<|Ze<|Zg<|Zu<|Ex.keep []<|?_
            exact Ex.ret1 rfl rfl  ⟨congrArg Value.bool (Le.right_f W),rfl,rfl⟩
       ·have z26 := Le.tm_f h12
        refine Tr.cond_t Z (congrArg Bool.not h12)<|Zs<|Zr<|Za Z<|Ze<|Zg<|Zu<|Zn<|Ex.keep []<|?_
        exact Ex.ret1 rfl rfl  ⟨congrArg Value.bool (Le.right_f W),rfl,rfl⟩
      ·have z27 := Le.tm_f h10
       refine Zo (congrArg Bool.not h10) Z<|Zo (congrArg Bool.not h10) Z<|Zo (congrArg Bool.not h10) Z<|Zo (congrArg Bool.not h10) Z<|Zv (Y.pick_t Z (congrArg Bool.not h10) Z)<|Ze<|Zg<|Tr.cond_t Z Z<|Zs<|Zr<|Za Z<|Ze<|Zg<|Zu<|Zn<|Ex.keep []<|?_
       exact Ex.ret1 rfl rfl  ⟨congrArg Value.bool (Le.right_f W),rfl,rfl⟩
     ·have z28 := Le.tm_f h8
      refine Zo (congrArg Bool.not h8) Z<|Zo (congrArg Bool.not h8) Z<|Zo (congrArg Bool.not h8) Z<|Zo (congrArg Bool.not h8) Z<|Zv (Y.pick_t Z (congrArg Bool.not h8) Z)<|Zm Z<|Zo Z Z<|Zo Z Z<|Zo Z Z<|Zo Z Z<|Zv (Y.pick_t Z Z Z)<|Ze<|Zg<|Tr.cond_t Z Z<|Zs<|Zr<|?_
      refine Za Z<|Ze<|Zg<|Zu<|Zn<|Ex.keep []<|?_
      exact Ex.ret1 rfl rfl  ⟨congrArg Value.bool (Le.right_f W),rfl,rfl⟩
    ·have z29 := Le.tm_f h6
     refine Zo (congrArg Bool.not h6) Z<|Zo (congrArg Bool.not h6) Z<|Zo (congrArg Bool.not h6) Z<|Zo (congrArg Bool.not h6) Z<|Zv (Y.pick_t Z (congrArg Bool.not h6) Z)<|Zm Z<|Zo Z Z<|Zo Z Z<|Zo Z Z<|Zo Z Z<|Zv (Y.pick_t Z Z Z)<|Zm Z<|Zo Z Z<|Zo Z Z<|Zo Z Z<|Zo Z Z<|?_
     refine Zv (Y.pick_t Z Z Z)<|Ze<|Zg<|Tr.cond_t Z Z<|Zs<|Zr<|Za Z<|Ze<|Zg<|Zu<|Zn<|Ex.keep []<|?_
     exact Ex.ret1 rfl rfl  ⟨congrArg Value.bool (Le.right_f W),rfl,rfl⟩
   ·have z30 := Le.tm_f h4
    refine Zo (congrArg Bool.not h4) Z<|Zo (congrArg Bool.not h4) Z<|Zo (congrArg Bool.not h4) Z<|Zo (congrArg Bool.not h4) Z<|Zv (Y.pick_t Z (congrArg Bool.not h4) Z)<|Zm Z<|Zo Z Z<|Zo Z Z<|Zo Z Z<|Zo Z Z<|Zv (Y.pick_t Z Z Z)<|Zm Z<|Zo Z Z<|Zo Z Z<|Zo Z Z<|Zo Z Z<|?_
    refine Zv (Y.pick_t Z Z Z)<|Zm Z<|Zo Z Z<|Zo Z Z<|Zo Z Z<|Zo Z Z<|Zv (Y.pick_t Z Z Z)<|Ze<|Zg<|Tr.cond_t Z Z<|Zs<|Zr<|Za Z<|Ze<|Zg<|Zu<|?_
    refine Zn<|Ex.keep []<|?_
    exact Ex.ret1 rfl rfl  ⟨congrArg Value.bool (Le.right_f W),rfl,rfl⟩
theorem rright11_h {q : Le} (hs : q.client.size ≤ 9223372036854775807) {V : Vw} {H : Hp} : Does Tryz.prog 152 [.agg q.cells.toArray] V H (Pv (.bool (Le.right q)) V H) := (rright11_c hs).frame
theorem times_c {b : Nat} {V : Vw} {H : Hp} : Does Tryz.prog 214 [.pointer (some ⟨b,0,none⟩)] V H (Pv (.agg #[.pointer (some ⟨b,3,none⟩),.pointer (some ⟨b,4,none⟩),.pointer (some ⟨b,5,none⟩),.pointer (some ⟨b,6,none⟩),.pointer (some ⟨b,7,none⟩)]) V H) := by
 refine Does.intro Tryz.func214 rfl rfl (le rfl) (fun B => ?_)
 refine Zs<|Zr<|?_
 refine Run.alloc Table1_zo243 (lt rfl) (fun b1 => ?_)
 refine Ze<|Zg<|Zs<|Tr.anyL [] 16 Table1_mo<|RunL.pure (i := 0) rfl WK WK WK WK (fun _ _ _ h => h) (lt rfl) KnAll.nil (fun _ => (Y.move rfl))<|RunL.pure (i := 1) rfl WK WK WK WK (fun _ _ _ h => h) (lt rfl) KnAll.nil (fun _ => (Y.nilCheck rfl))<|RunL.pure (i := 2) rfl WK WK WK WK (fun _ _ _ h => h) (lt rfl) KnAll.nil (fun _ => (Y.fieldAddr rfl Table1_fo49_3))<|?_
 refine RunL.pure (i := 3) rfl WK WK WK WK (fun _ _ _ h => h) (lt rfl) KnAll.nil (fun _ => (Y.move rfl))<|RunL.pure (i := 4) rfl WK WK WK WK (fun _ _ _ h => h) (lt rfl) KnAll.nil (fun _ => (Y.nilCheck rfl))<|RunL.pure (i := 5) rfl WK WK WK WK (fun _ _ _ h => h) (lt rfl) KnAll.nil (fun _ => (Y.fieldAddr rfl Table1_fo49_4))<|?_
 refine RunL.pure (i := 6) rfl WK WK WK WK (fun _ _ _ h => h) (lt rfl) KnAll.nil (fun _ => (Y.move rfl))<|RunL.pure (i := 7) rfl WK WK WK WK (fun _ _ _ h => h) (lt rfl) KnAll.nil (fun _ => (Y.nilCheck rfl))<|RunL.pure (i := 8) rfl WK WK WK WK (fun _ _ _ h => h) (lt rfl) KnAll.nil (fun _ => (Y.fieldAddr rfl Table1_fo49_5))<|?_
 refine RunL.pure (i := 9) rfl WK WK WK WK (fun _ _ _ h => h) (lt rfl) KnAll.nil (fun _ => (Y.move rfl))<|RunL.pure (i := 10) rfl WK WK WK WK (fun _ _ _ h => h) (lt rfl) KnAll.nil (fun _ => (Y.nilCheck rfl))<|RunL.pure (i := 11) rfl WK WK WK WK (fun _ _ _ h => h) (lt rfl) KnAll.nil (fun _ => (Y.fieldAddr rfl Table1_fo49_6))<|?_
 refine RunL.pure (i := 12) rfl WK WK WK WK (fun _ _ _ h => h) (lt rfl) KnAll.nil (fun _ => (Y.move rfl))<|RunL.pure (i := 13) rfl WK WK WK WK (fun _ _ _ h => h) (lt rfl) KnAll.nil (fun _ => (Y.nilCheck rfl))<|RunL.pure (i := 14) rfl WK WK WK WK (fun _ _ _ h => h) (lt rfl) KnAll.nil (fun _ => (Y.fieldAddr rfl Table1_fo49_7))<|?_
 refine RunL.pure (i := 15) rfl WK WK WK WK (fun _ _ _ h => h) (lt rfl) KnAll.nil (fun _ => (Y.buildA (l := [(0,.tmp 5),(1,.tmp 8),(2,.tmp 11),(3,.tmp 14),(4,.tmp 17)]) Table1_zo243 Table1_ea243 rfl rfl)) ?_
 refine RunL.one (i := 16) WK rfl  ?_
 refine Run.store (s := [(b1,.cells #[.pointer (some ⟨b,3,none⟩),.pointer (some ⟨b,4,none⟩),.pointer (some ⟨b,5,none⟩),.pointer (some ⟨b,6,none⟩),.pointer (some ⟨b,7,none⟩)] 243 (0,0))]) Z Z Table1_sz243 (i := 0) Z Z (le Z) Z Z<|Ze<|Ex.anyLz Z<|RunL.done WK<|Zg<|Zu<|?_
 exact Ex.retCellT 1 rfl rfl Table1_ag243 (Kn.at 0 rfl) rfl rfl ⟨rfl,rfl,rfl⟩
theorem right_c {q : Le} (hs : q.client.size ≤ 9223372036854775807) {V : Vw} : Does Tryz.prog 135 [.agg #[.int .u32 q.addr,.int .i64 q.bind,.string q.client,.int .i64 q.till,.int .i64 q.acked,.int .i64 q.told,.int .i64 q.at_,.int .i64 q.ver]] V [] (Pv (.bool (Le.right q)) V []) := by
 refine Does.intro Tryz.func135 rfl rfl (le rfl) (fun B => ?_)
 refine Zs<|Zr<|?_
 refine Run.box rfl (lt rfl) (fun b1 => ?_)
 refine Za Z<|Ze<|Zg<|Zs<|Zs<|Zr<|Run.call0 (l := [.tmp 1]) Z Z Z (lt Z) times_c<|Zm Z<|Ze<|Zg<|Zb<|?_
 refine ZL (X := Nat) (fun z0 => V) (fun z0 => [[(b1,.cells #[.int .u32 q.addr,.int .i64 q.bind,.string q.client,.int .i64 q.till,.int .i64 q.acked,.int .i64 q.told,.int .i64 q.at_,.int .i64 q.ver] 49 (0,0))]]) (fun z0 => [(1,.pointer (some ⟨b1,0,none⟩)),(5,.agg #[.pointer (some ⟨b1,3,none⟩),.pointer (some ⟨b1,4,none⟩),.pointer (some ⟨b1,5,none⟩),.pointer (some ⟨b1,6,none⟩),.pointer (some ⟨b1,7,none⟩)]),(6,.int .i64 (z0 : Int))]) (fun z0 => z0 ≤ 5 ∧ ∀ j,j < z0 → Le.tm (Le.tms q j) = true) (fun z0 => 5 - z0) (0 : Nat) ⟨Nat.zero_le _,fun j hj => absurd hj (Nat.not_lt_zero j)⟩ ?_
 rintro i1 ⟨hi,hall⟩
 refine Zs<|Zr<|Zv (Y.int Z Z Z)<|Ze<|Zg<|Zs<|?_
 rcases Zsplit (decide ((i1 : Int) < 5)) with ⟨h2,g2⟩ | ⟨h2,g2⟩ <;> try simp only [kb] at g2
 ·refine Tr.cond_t Z h2<|Zt<|Zg<|Zs<|Zb<|Zs<|Zr<|?_
  rcases (show i1 = 0 ∨ i1 = 1 ∨ i1 = 2 ∨ i1 = 3 ∨ i1 = 4 from by omega) with rfl | rfl | rfl | rfl | rfl
  ·refine Zv (Y.idxAgg Z Z Table1_as243 WD WD rfl)<|Za Z<|Ze<|Zg<|Zs<|Zr<|Zm Z<|Zv (Y.nilCheck Z)<|Zv (Y.load Z Table1_ts3 (Kn.at 0 Z) Z)<|Zv (Y.int Z Z Z)<|Zm Z<|?_
   rcases Zsplit (decide (q.till < 0)) with ⟨h3,g3⟩ | ⟨h3,g3⟩ <;> try simp only [kb] at g3
   ·refine Zo h3 Z<|Zo h3 Z<|Zo h3 Z<|Zo h3 Z<|Zv (Y.pick_t Z h3 Z)<|Ze<|Zg<|Tr.cond_t Z Z<|Zs<|Zr<|Za Z<|Ze<|Zg<|Zu<|Zk<|Zn<|?_
    refine Zn<|Zk<|Zn<|Ex.keep []<|?_
    exact Ex.ret1 rfl rfl  ⟨congrArg Value.bool (Le.tms_not (x := q) (j := 0) WD (by show q.till < 0 ∨ q.till > 1099511627776; omega)),rfl,rfl⟩
   ·refine Zp h3<|Zm Z<|Zp h3<|Zv (Y.nilCheck Z)<|Zp h3<|Zv (Y.load Z Table1_ts3 (Kn.at 0 Z) Z)<|Zp h3<|Zv (Y.int Z Z Z)<|Zv (Y.pick_f Z h3 Z)<|Ze<|Zg<|?_
    rcases Zsplit (decide (q.till > 1099511627776)) with ⟨h4,g4⟩ | ⟨h4,g4⟩ <;> try simp only [kb] at g4
    ·refine Tr.cond_t Z h4<|Zs<|Zr<|Za Z<|Ze<|Zg<|Zu<|Zk<|Zn<|Zn<|Zk<|Zn<|Ex.keep []<|?_
     exact Ex.ret1 rfl rfl  ⟨congrArg Value.bool (Le.tms_not (x := q) (j := 0) WD (by show q.till < 0 ∨ q.till > 1099511627776; omega)),rfl,rfl⟩
    ·refine Tr.cond_f Z h4<|Zt<|Zc<|Zg<|Zr<|Zv (Y.add Z Z W)<|Zm Z<|Ze<|?_
     have ht : Le.tm (Le.tms q 0) = true := Le.tm_iff.2 (by show 0 ≤ q.till ∧ q.till ≤ 1099511627776; omega)
     exact ZR (0 + 1 : Nat) ⟨by omega,upto_succ hall ht⟩ W
  ·refine Zv (Y.idxAgg Z Z Table1_as243 WD WD rfl)<|Za Z<|Ze<|Zg<|Zs<|Zr<|Zm Z<|Zv (Y.nilCheck Z)<|Zv (Y.load Z Table1_ts3 (Kn.at 0 Z) Z)<|Zv (Y.int Z Z Z)<|Zm Z<|?_
   rcases Zsplit (decide (q.acked < 0)) with ⟨h5,g5⟩ | ⟨h5,g5⟩ <;> try simp only [kb] at g5
   ·refine Zo h5 Z<|Zo h5 Z<|Zo h5 Z<|Zo h5 Z<|Zv (Y.pick_t Z h5 Z)<|Ze<|Zg<|Tr.cond_t Z Z<|Zs<|Zr<|Za Z<|Ze<|Zg<|Zu<|Zk<|Zn<|?_
    refine Zn<|Zk<|Zn<|Ex.keep []<|?_
    exact Ex.ret1 rfl rfl  ⟨congrArg Value.bool (Le.tms_not (x := q) (j := 1) WD (by show q.acked < 0 ∨ q.acked > 1099511627776; omega)),rfl,rfl⟩
   ·refine Zp h5<|Zm Z<|Zp h5<|Zv (Y.nilCheck Z)<|Zp h5<|Zv (Y.load Z Table1_ts3 (Kn.at 0 Z) Z)<|Zp h5<|Zv (Y.int Z Z Z)<|Zv (Y.pick_f Z h5 Z)<|Ze<|Zg<|?_
    rcases Zsplit (decide (q.acked > 1099511627776)) with ⟨h6,g6⟩ | ⟨h6,g6⟩ <;> try simp only [kb] at g6
    ·refine Tr.cond_t Z h6<|Zs<|Zr<|Za Z<|Ze<|Zg<|Zu<|Zk<|Zn<|Zn<|Zk<|Zn<|Ex.keep []<|?_
     exact Ex.ret1 rfl rfl  ⟨congrArg Value.bool (Le.tms_not (x := q) (j := 1) WD (by show q.acked < 0 ∨ q.acked > 1099511627776; omega)),rfl,rfl⟩
    ·refine Tr.cond_f Z h6<|Zt<|Zc<|Zg<|Zr<|Zv (Y.add Z Z W)<|Zm Z<|Ze<|?_
     have ht : Le.tm (Le.tms q 1) = true := Le.tm_iff.2 (by show 0 ≤ q.acked ∧ q.acked ≤ 1099511627776; omega)
     exact ZR (1 + 1 : Nat) ⟨by omega,upto_succ hall ht⟩ W
  ·refine Zv (Y.idxAgg Z Z Table1_as243 WD WD rfl)<|Za Z<|Ze<|Zg<|Zs<|Zr<|Zm Z<|Zv (Y.nilCheck Z)<|Zv (Y.load Z Table1_ts3 (Kn.at 0 Z) Z)<|Zv (Y.int Z Z Z)<|Zm Z<|?_
   rcases Zsplit (decide (q.told < 0)) with ⟨h7,g7⟩ | ⟨h7,g7⟩ <;> try simp only [kb] at g7
   ·refine Zo h7 Z<|Zo h7 Z<|Zo h7 Z<|Zo h7 Z<|Zv (Y.pick_t Z h7 Z)<|Ze<|Zg<|Tr.cond_t Z Z<|Zs<|Zr<|Za Z<|Ze<|Zg<|Zu<|Zk<|Zn<|?_
    refine Zn<|Zk<|Zn<|Ex.keep []<|?_
    exact Ex.ret1 rfl rfl  ⟨congrArg Value.bool (Le.tms_not (x := q) (j := 2) WD (by show q.told < 0 ∨ q.told > 1099511627776; omega)),rfl,rfl⟩
   ·refine Zp h7<|Zm Z<|Zp h7<|Zv (Y.nilCheck Z)<|Zp h7<|Zv (Y.load Z Table1_ts3 (Kn.at 0 Z) Z)<|Zp h7<|Zv (Y.int Z Z Z)<|Zv (Y.pick_f Z h7 Z)<|Ze<|Zg<|?_
    rcases Zsplit (decide (q.told > 1099511627776)) with ⟨h8,g8⟩ | ⟨h8,g8⟩ <;> try simp only [kb] at g8
    ·refine Tr.cond_t Z h8<|Zs<|Zr<|Za Z<|Ze<|Zg<|Zu<|Zk<|Zn<|Zn<|Zk<|Zn<|Ex.keep []<|?_
     exact Ex.ret1 rfl rfl  ⟨congrArg Value.bool (Le.tms_not (x := q) (j := 2) WD (by show q.told < 0 ∨ q.told > 1099511627776; omega)),rfl,rfl⟩
    ·refine Tr.cond_f Z h8<|Zt<|Zc<|Zg<|Zr<|Zv (Y.add Z Z W)<|Zm Z<|Ze<|?_
     have ht : Le.tm (Le.tms q 2) = true := Le.tm_iff.2 (by show 0 ≤ q.told ∧ q.told ≤ 1099511627776; omega)
     exact ZR (2 + 1 : Nat) ⟨by omega,upto_succ hall ht⟩ W
  ·refine Zv (Y.idxAgg Z Z Table1_as243 WD WD rfl)<|Za Z<|Ze<|Zg<|Zs<|Zr<|Zm Z<|Zv (Y.nilCheck Z)<|Zv (Y.load Z Table1_ts3 (Kn.at 0 Z) Z)<|Zv (Y.int Z Z Z)<|Zm Z<|?_
   rcases Zsplit (decide (q.at_ < 0)) with ⟨h9,g9⟩ | ⟨h9,g9⟩ <;> try simp only [kb] at g9
   ·refine Zo h9 Z<|Zo h9 Z<|Zo h9 Z<|Zo h9 Z<|Zv (Y.pick_t Z h9 Z)<|Ze<|Zg<|Tr.cond_t Z Z<|Zs<|Zr<|Za Z<|Ze<|Zg<|Zu<|Zk<|Zn<|?_
    refine Zn<|Zk<|Zn<|Ex.keep []<|?_
    exact Ex.ret1 rfl rfl  ⟨congrArg Value.bool (Le.tms_not (x := q) (j := 3) WD (by show q.at_ < 0 ∨ q.at_ > 1099511627776; omega)),rfl,rfl⟩
   ·refine Zp h9<|Zm Z<|Zp h9<|Zv (Y.nilCheck Z)<|Zp h9<|Zv (Y.load Z Table1_ts3 (Kn.at 0 Z) Z)<|Zp h9<|Zv (Y.int Z Z Z)<|Zv (Y.pick_f Z h9 Z)<|Ze<|Zg<|?_
    rcases Zsplit (decide (q.at_ > 1099511627776)) with ⟨h10,g10⟩ | ⟨h10,g10⟩ <;> try simp only [kb] at g10
    ·refine Tr.cond_t Z h10<|Zs<|Zr<|Za Z<|Ze<|Zg<|Zu<|Zk<|Zn<|Zn<|Zk<|Zn<|Ex.keep []<|?_
     exact Ex.ret1 rfl rfl  ⟨congrArg Value.bool (Le.tms_not (x := q) (j := 3) WD (by show q.at_ < 0 ∨ q.at_ > 1099511627776; omega)),rfl,rfl⟩
    ·refine Tr.cond_f Z h10<|Zt<|Zc<|Zg<|Zr<|Zv (Y.add Z Z W)<|Zm Z<|Ze<|?_
     have ht : Le.tm (Le.tms q 3) = true := Le.tm_iff.2 (by show 0 ≤ q.at_ ∧ q.at_ ≤ 1099511627776; omega)
     exact ZR (3 + 1 : Nat) ⟨by omega,upto_succ hall ht⟩ W
  ·refine Zv (Y.idxAgg Z Z Table1_as243 WD WD rfl)<|Za Z<|Ze<|Zg<|Zs<|Zr<|Zm Z<|Zv (Y.nilCheck Z)<|Zv (Y.load Z Table1_ts3 (Kn.at 0 Z) Z)<|Zv (Y.int Z Z Z)<|Zm Z<|?_
   rcases Zsplit (decide (q.ver < 0)) with ⟨h11,g11⟩ | ⟨h11,g11⟩ <;> try simp only [kb] at g11
   ·refine Zo h11 Z<|Zo h11 Z<|Zo h11 Z<|Zo h11 Z<|Zv (Y.pick_t Z h11 Z)<|Ze<|Zg<|Tr.cond_t Z Z<|Zs<|Zr<|Za Z<|Ze<|Zg<|Zu<|Zk<|Zn<|?_
    refine Zn<|Zk<|Zn<|Ex.keep []<|?_
    exact Ex.ret1 rfl rfl  ⟨congrArg Value.bool (Le.tms_not (x := q) (j := 4) WD (by show q.ver < 0 ∨ q.ver > 1099511627776; omega)),rfl,rfl⟩
   ·refine Zp h11<|Zm Z<|Zp h11<|Zv (Y.nilCheck Z)<|Zp h11<|Zv (Y.load Z Table1_ts3 (Kn.at 0 Z) Z)<|Zp h11<|Zv (Y.int Z Z Z)<|Zv (Y.pick_f Z h11 Z)<|Ze<|Zg<|?_
    rcases Zsplit (decide (q.ver > 1099511627776)) with ⟨h12,g12⟩ | ⟨h12,g12⟩ <;> try simp only [kb] at g12
    ·refine Tr.cond_t Z h12<|Zs<|Zr<|Za Z<|Ze<|Zg<|Zu<|Zk<|Zn<|Zn<|Zk<|Zn<|Ex.keep []<|?_
     exact Ex.ret1 rfl rfl  ⟨congrArg Value.bool (Le.tms_not (x := q) (j := 4) WD (by show q.ver < 0 ∨ q.ver > 1099511627776; omega)),rfl,rfl⟩
    ·refine Tr.cond_f Z h12<|Zt<|Zc<|Zg<|Zr<|Zv (Y.add Z Z W)<|Zm Z<|Ze<|?_
     have ht : Le.tm (Le.tms q 4) = true := Le.tm_iff.2 (by show 0 ≤ q.ver ∧ q.ver ≤ 1099511627776; omega)
     exact ZR (4 + 1 : Nat) ⟨by omega,upto_succ hall ht⟩ W
 ·refine Tr.cond_f Z h2<|Zx<|Zy<|Zy<|Zi<|Zg<|Zs<|Zb<|Zs<|Zr<|Zv (Y.fieldAddr Z Table1_fo49_1)<|Zv (Y.load Z Table1_ts3 (Kn.at 0 Z) Z)<|Zv (Y.int Z Z Z)<|Zm Z<|?_
  rcases Zsplit (decide (q.bind < 0)) with ⟨h13,g13⟩ | ⟨h13,g13⟩ <;> try simp only [kb] at g13
  ·refine Zo h13 Z<|Zo h13 Z<|Zo h13 Z<|Zv (Y.pick_t Z h13 Z)<|Za Z<|Ze<|Zg<|Tr.cond_t Z Z<|Zs<|Zr<|Za Z<|Ze<|Zg<|Zu<|Zk<|Zn<|?_
   refine Ex.keep [] ?_
   have hta := Le.tms_all (x := q) fun j hj => hall j W
   exact Ex.ret1 rfl rfl  ⟨congrArg Value.bool (Le.right_f W),rfl,rfl⟩
  ·refine Zp h13<|Zv (Y.fieldAddr Z Table1_fo49_1)<|Zp h13<|Zv (Y.load Z Table1_ts3 (Kn.at 0 Z) Z)<|Zp h13<|Zv (Y.int Z Z Z)<|Zv (Y.pick_f Z h13 Z)<|Za Z<|Ze<|Zg<|?_
   rcases Zsplit (decide (q.bind > 5)) with ⟨h14,g14⟩ | ⟨h14,g14⟩ <;> try simp only [kb] at g14
   ·refine Tr.cond_t Z h14<|Zs<|Zr<|Za Z<|Ze<|Zg<|Zu<|Zk<|Zn<|Ex.keep []<|?_
    have hta := Le.tms_all (x := q) fun j hj => hall j W
    exact Ex.ret1 rfl rfl  ⟨congrArg Value.bool (Le.right_f W),rfl,rfl⟩
   ·refine Tr.cond_f Z h14<|Zs<|Zr<|Zv (Y.fieldAddr Z Table1_fo49_1)<|Zv (Y.load Z Table1_ts3 (Kn.at 0 Z) Z)<|Run.call0 (l := [.tmp 31]) Z Z Z (lt Z) held_c_h<|Za Z<|Ze<|Zg<|?_
    rcases Zsplit (Le.held q.bind) with ⟨h15,g15⟩ | ⟨h15,g15⟩ <;> try simp only [kb] at g15
    ·have z16 := Le.held_t h15
     refine Tr.cond_t Z h15<|Zs<|Zr<|Zv (Y.fieldAddr Z Table1_fo49_2)<|Zv (Y.load Z Table1_ts9 (Kn.at 0 Z) Z)<|Zv (Y.neStr Z Z)<|Zm Z<|?_
     rcases Zsplit (q.client.toList == (⟨#[]⟩ : ByteArray).toList) with ⟨h17,g17⟩ | ⟨h17,g17⟩ <;> try simp only [kb] at g17
     ·have z18 := Le.str0_t h17
      refine Zo (congrArg Bool.not h17) Z<|Zo (congrArg Bool.not h17) Z<|Zo (congrArg Bool.not h17) Z<|Zo (congrArg Bool.not h17) Z<|Zv (Y.pick_f Z (congrArg Bool.not h17) Z)<|Za Z<|Ze<|Zg<|Zu<|Zk<|Zn<|Ex.keep []<|?_
      have hta := Le.tms_all (x := q) fun j hj => hall j W
      exact Ex.ret1 rfl rfl  ⟨congrArg Value.bool (Le.right_f W),rfl,rfl⟩
     ·have z19 := Le.str0_f h17
      refine Zp (congrArg Bool.not h17)<|Zv (Y.fieldAddr Z Table1_fo49_2)<|Zp (congrArg Bool.not h17)<|Zv (Y.load Z Table1_ts9 (Kn.at 0 Z) Z)<|Zp (congrArg Bool.not h17)<|Zv (Y.lenStr Z Table1_st9)<|Zp (congrArg Bool.not h17)<|Zv (Y.int Z Z Z)<|Zv (Y.pick_t Z (congrArg Bool.not h17) Z)<|Za Z<|Ze<|Zg<|Zu<|Zk<|Zn<|Ex.keep []<|?_
      have hta := Le.tms_all (x := q) fun j hj => hall j W
      exact Ex.ret1 rfl rfl  ⟨congrArg Value.bool (Le.right_d W),rfl,rfl⟩
    ·have z20 := Le.held_f h15
     refine Tr.cond_f Z h15<|Zt<|Zc<|Zg<|Zs<|Tr.quiet Table1_mo WK<|ZV (Y.loadAgg Z Table1_ag49 (Kn.at 0 Z) Z)<|ZV (Y.fieldAddr Z Table1_fo49_0)<|ZV (Y.load Z Table1_ts47 (Kn.at 0 Z) Z)<|ZV (Y.fieldAddr Z Table1_fo49_1)<|ZV (Y.load Z Table1_ts3 (Kn.at 0 Z) Z)<|ZV (Y.fieldAddr Z Table1_fo49_7)<|ZV (Y.load Z Table1_ts3 (Kn.at 0 Z) Z)<|RunQ.call0 (l := [.tmp 44,.tmp 46,.tmp 48]) Z Z Z (lt Z) bare_c_h<|ZV (Y.eqS Z Z Table1_tgs49 Z Z)<|?_
     refine ZA Z<|ZE<|Zg<|Zu<|Ex.keep []<|?_
     have hta := Le.tms_all (x := q) fun j hj => hall j W
     exact Ex.ret1 rfl rfl  ⟨congrArg Value.bool (Le.right_s (Le.tms_all fun j hj => hall j W) W W),rfl,rfl⟩
theorem right_h {q : Le} (hs : q.client.size ≤ 9223372036854775807) {V : Vw} {H : Hp} : Does Tryz.prog 135 [.agg q.cells.toArray] V H (Pv (.bool (Le.right q)) V H) := (right_c hs).frame
theorem isnan_n0 {m : Int} {V : Vw} : Does Tryz.prog 228 [.int .i64 m] V [] (Pv (.bool false) V []) := by
 refine Does.intro Tryz.func228 rfl rfl (le rfl) (fun B => ?_)
 refine Zs<|Zr<|Za Z<|Ze<|Zg<|Zs<|Zr<|Zm Z<|Zm Z<|Zv (Y.int Z Z Z)<|Za Z<|Ze<|Zg<|Zu<|?_
 exact Ex.ret1 rfl rfl  ⟨by simp,rfl,rfl⟩
theorem isnan_n0_h {m : Int} {V : Vw} {H : Hp} : Does Tryz.prog 228 [.int .i64 m] V H (Pv (.bool false) V H) := isnan_n0.frame
theorem cmp_n {m n : Int} {V : Vw} : Does Tryz.prog 161 [.int .i64 m,.int .i64 n] V [] (Pv (.int .i64 (Rg.cmp3 m n)) V []) := by
 refine Does.intro Tryz.func161 rfl rfl (le rfl) (fun B => ?_)
 refine Zs<|Zr<|Za Z<|Ze<|Zg<|Zs<|Zr<|Zm Z<|Run.call0 (l := [.tmp 7]) Z Z Z (lt Z) isnan_n0_h<|Za Z<|Ze<|Zg<|Zs<|Zr<|Zm Z<|Run.call0 (l := [.tmp 9]) Z Z Z (lt Z) isnan_n0_h<|?_
 refine Za Z<|Ze<|Zg<|Zs<|Zs<|Zr<|Zm Z<|Ze<|Zg<|Tr.cond_f Z Z<|Zt<|Zg<|Zs<|Zs<|Zr<|Zm Z<|?_
 refine Ze<|Zg<|Tr.cond_f Z Z<|Zt<|Zg<|Zs<|Zs<|Zr<|Zm Z<|Zm Z<|Zv (Y.int Z Z Z)<|Ze<|Zg<|?_
 rcases Zsplit (decide (m < n)) with ⟨h1,g1⟩ | ⟨h1,g1⟩ <;> try simp only [kb] at g1
 ·refine Tr.cond_t Z h1<|Zs<|Zr<|Za Z<|Ze<|Zg<|Zu<|Zn<|Ex.keep []<|?_
  exact Ex.ret1 rfl rfl  ⟨congrArg (Value.int _) (by unfold Rg.cmp3; (repeat' split) <;> omega),rfl,rfl⟩
 ·refine Tr.cond_f Z h1<|Zt<|Zg<|Zs<|Zs<|Zr<|Zm Z<|Zm Z<|Zv (Y.int Z Z Z)<|Ze<|Zg<|?_
  rcases Zsplit (decide (m > n)) with ⟨h2,g2⟩ | ⟨h2,g2⟩ <;> try simp only [kb] at g2
  ·refine Tr.cond_t Z h2<|Zs<|Zr<|Za Z<|Ze<|Zg<|Zu<|Zn<|Ex.keep []<|?_
   exact Ex.ret1 rfl rfl  ⟨congrArg (Value.int _) (by unfold Rg.cmp3; (repeat' split) <;> omega),rfl,rfl⟩
  ·refine Tr.cond_f Z h2<|Zt<|Zg<|Zs<|Zr<|Za Z<|Ze<|Zg<|Zu<|Ex.keep []<|?_
   exact Ex.ret1 rfl rfl  ⟨congrArg (Value.int _) (by unfold Rg.cmp3; (repeat' split) <;> omega),rfl,rfl⟩
theorem cmp_n_h {m n : Int} {V : Vw} {H : Hp} : Does Tryz.prog 161 [.int .i64 m,.int .i64 n] V H (Pv (.int .i64 (Rg.cmp3 m n)) V H) := cmp_n.frame
theorem or_c {V : Vw} {H : Hp} {x y : Int} {p : Option Addr} {c : Nat} (hv : Rd V H 1 (.slice p 2 c) 2 ([x,y].flatMap nI))  : Does Tryz.prog 160 [.slice p 2 c] V H (Pv (.int .i64 (if x ≠ 0 then x else y)) V H) := by
 have hl2 : [x,y].length = 2 := rfl
 refine Does.intro Tryz.func160 rfl rfl (le rfl) (fun B => ?_)
 refine Zs<|Zr<|Za Z<|Ze<|Zg<|Zs<|Zr<|Za Z<|Ze<|Zg<|Zs<|Zs<|Zr<|Zm Z<|Zv (Y.lenSl Z Table1_es219)<|Zm Z<|?_
 refine Ze<|Zg<|Zb<|?_
 refine ZL (X := Nat) (fun z0 => V) (fun z0 => H) (fun z0 => [(3,.int .i64 0),(6,.slice p 2 c),(7,.int .i64 ((2 : Nat) : Int)),(8,.int .i64 (z0 : Int))]) (fun z0 => z0 ≤ 2 ∧ (1 ≤ z0 → x = 0) ∧ (2 ≤ z0 → y = 0)) (fun z0 => 2 - z0) (0 : Nat) ⟨by decide,fun h => absurd h WD,fun h => absurd h WD⟩ ?_
 rintro i1 ⟨hi,hx,hy⟩
 refine Zs<|Zr<|Zv (Y.int Z Z Z)<|Ze<|Zg<|Zs<|?_
 rcases Zsplit (decide ((i1 : Int) < ((2 : Nat) : Int))) with ⟨h1,g1⟩ | ⟨h1,g1⟩ <;> try simp only [kb] at g1
 ·refine Tr.cond_t Z h1<|Zt<|Zg<|Zs<|Zb<|Zs<|Zr<|Zv (Y.idxR i1 Z Z Table1_es219 hv W W)<|Zv (Y.ldR Z Table1_ts3 hv (flatm_at0 nI_enc.len W 0 WD rfl))<|Za Z<|Ze<|Zg<|Zs<|Zr<|Zm Z<|Zm Z<|?_
  refine Zv (Y.int Z Z Z)<|Ze<|Zg<|?_
  rcases Zsplit (([x,y].getD i1 0) != 0) with ⟨h2,g2⟩ | ⟨h2,g2⟩ <;> try simp only [kb] at g2
  ·refine Tr.cond_t Z h2<|Zs<|Zr<|Zm Z<|Za Z<|Ze<|Zg<|Zu<|Zk<|Zn<|Zn<|Zk<|Zn<|?_
   have hz : (i1 = 0 → [x,y].getD i1 0 = x) ∧ (i1 = 1 → [x,y].getD i1 0 = y) := ⟨fun h => by rw [h]; rfl,fun h => by rw [h]; rfl⟩
   exact Ex.ret1 rfl rfl  ⟨congrArg (Value.int _) (by rcases Nat.eq_zero_or_pos i1 with h9 | h9; have := hz.1 h9; rw [if_pos W]; exact this; have := hz.2 W; rw [if_neg (by have := hx h9; omega)]; exact this),rfl,rfl⟩
  ·refine Tr.cond_f Z h2<|Zt<|Zc<|Zg<|Zr<|Zv (Y.add Z Z W)<|Zm Z<|Ze<|?_
   have hz : (i1 = 0 → [x,y].getD i1 0 = x) ∧ (i1 = 1 → [x,y].getD i1 0 = y) := ⟨fun h => by rw [h]; rfl,fun h => by rw [h]; rfl⟩
   exact ZR (i1 + 1 : Nat) ⟨by omega,fun _ => by rcases Nat.eq_zero_or_pos i1 with h9 | h9; have := hz.1 h9; omega; exact hx h9,fun _ => by have := hz.2 W; omega⟩ W
 ·refine Tr.cond_f Z h1<|Zx<|Zy<|Zy<|Zi<|Zg<|Zs<|Zr<|Zm Z<|Za Z<|Ze<|Zg<|Zu<|?_
  exact Ex.ret1 rfl rfl  ⟨congrArg (Value.int _) (by rw [if_neg (by have := hx W; omega)]; exact (hy W).symm),rfl,rfl⟩
theorem same11_c {V : Vw} {H : Hp} {a b : List Le} {p1 p2 : Option Addr} {k1 k2 : Nat} (ha : Rd V H 8 (.slice p1 a.length k1) a.length (a.flatMap Le.cells)) (hb : Rd V H 8 (.slice p2 b.length k2) b.length (b.flatMap Le.cells)) (he : a = b) (hn : a.length ≤ 1000000000)  : Does Tryz.prog 32 [.slice p1 a.length k1,.slice p2 b.length k2] V H (Pv (.bool true) V H) := by
 have hle := congrArg List.length he
 refine Does.intro Tryz.func32 rfl rfl (le rfl) (fun B => ?_)
 refine Zs<|Zr<|Za Z<|Ze<|Zg<|Zs<|Zs<|Zr<|Zm Z<|Zv (Y.lenSl Z Table1_es59)<|Zm Z<|Zv (Y.lenSl Z Table1_es59)<|Zv (Y.int Z Z Z)<|Ze<|Zg<|Tr.cond_f rfl (by rw [hle]; simp)<|?_
 refine Zt<|Zg<|Zs<|Zs<|Zr<|Za Z<|Ze<|Zg<|Zb<|?_
 refine ZL (X := Nat) (fun z0 => V) (fun z0 => H) (fun z0 => [(0,.slice p1 a.length k1),(1,.slice p2 b.length k2),(5,.int .i64 (z0 : Int))]) (fun z0 => z0 ≤ a.length) (fun z0 => a.length - z0) (0 : Nat) (Nat.zero_le _) ?_
 rintro i1 hi
 refine Zs<|Zs<|Zr<|Zm Z<|Zm Z<|Zv (Y.lenSl Z Table1_es59)<|Zv (Y.int Z Z Z)<|Ze<|Zg<|?_
 rcases Zsplit (decide ((i1 : Int) < ((a.length : Nat) : Int))) with ⟨h1,g1⟩ | ⟨h1,g1⟩ <;> try simp only [kb] at g1
 ·refine Tr.cond_t Z h1<|Zt<|Zg<|Zs<|Zb<|Zs<|Tr.quiet Table1_mo WK<|ZM Z<|ZM Z<|ZV (Y.idxR i1 Z Z Table1_es59 ha W W)<|ZV (Y.ldRA (vs := [.int .u32 ((a.getD i1 Le.dflt).addr),.int .i64 ((a.getD i1 Le.dflt).bind),.string ((a.getD i1 Le.dflt).client),.int .i64 ((a.getD i1 Le.dflt).till),.int .i64 ((a.getD i1 Le.dflt).acked),.int .i64 ((a.getD i1 Le.dflt).told),.int .i64 ((a.getD i1 Le.dflt).at_),.int .i64 ((a.getD i1 Le.dflt).ver)]) rfl Table1_ag49 ha rfl WD (fun o ho => flatm_atA Le.len W Le.dflt o ho))<|?_
  refine ZM Z<|ZM Z<|ZV (Y.idxR i1 Z Z Table1_es59 hb W W)<|ZV (Y.ldRA (vs := [.int .u32 ((b.getD i1 Le.dflt).addr),.int .i64 ((b.getD i1 Le.dflt).bind),.string ((b.getD i1 Le.dflt).client),.int .i64 ((b.getD i1 Le.dflt).till),.int .i64 ((b.getD i1 Le.dflt).acked),.int .i64 ((b.getD i1 Le.dflt).told),.int .i64 ((b.getD i1 Le.dflt).at_),.int .i64 ((b.getD i1 Le.dflt).ver)]) rfl Table1_ag49 hb rfl WD (fun o ho => flatm_atA Le.len W Le.dflt o ho))<|?_
  refine ZV (Y.neS Z Z Table1_tgs49 Z Z)<|ZE<|Zg<|Tr.cond_f rfl (congrArg Bool.not (Le.same_of (by rw [he])))<|Zt<|Zc<|Zg<|Zr<|Zm Z<|Zv (Y.add Z Z W)<|Za Z<|Ze<|?_
  exact ZR (i1 + 1 : Nat) W W
 ·refine Tr.cond_f Z h1<|Zx<|Zy<|Zy<|Zi<|Zg<|Zs<|Zr<|Za Z<|Ze<|Zg<|Zu<|?_
  exact Ex.ret1 rfl rfl  ⟨rfl,rfl,rfl⟩
end Go.Proofs.YtinkencbkcciiaaGreat
