/- Leases that may be; comparisons, walked.
Conditions: as each theorem names them. -/
import Derived.Test.YtfgblingojgafaaGreatProg
import Derived.Test.YtfgblingojgafaaGreatKD
import Derived.Test.YtfgblingojgafaaGreatRA
import Derived.Test.YtfgblingojgafaaGreatAddr
import Derived.Test.YtfgblingojgafaaGreatSortnum
import Derived.Test.YtfgblingojgafaaGreatSA
import Derived.SizedLaws
import Derived.ChangeKeysEq
import Derived.LoopN
import Derived.Laws.CopyRow
import Derived.Laws.IdiomCopy
import Derived.Test.YtfgblingojgafaaGreatEB
set_option linter.unusedSimpArgs false
set_option linter.unusedVariables false
set_option maxRecDepth 4000
set_option linter.unusedSectionVars false
namespace Go.Proofs.YtfgblingojgafaaGreat
open Go Go.K
attribute [local irreducible] Code.wp wpList Calls wpQuiet
theorem Table1_zo43 : zeroOf Tryz.prog 43 = some (.agg #[.int .u32 0,.int .i64 0,.string ⟨#[]⟩,.int .i64 0,.int .i64 0,.int .i64 0,.int .i64 0,.int .i64 0]) := by kernel_rfl
theorem Table1_pl43 : placesS Tryz.prog 43 = some [(0,1),(1,1),(2,1),(3,1),(4,1),(5,1),(6,1),(7,1)] := by kernel_rfl
theorem Table1_sz43 : sizeT Tryz.prog 43 = some 8 := by kernel_rfl
theorem Table1_ag43 : aggsz Tryz.prog 43 = some 8 := by kernel_rfl
theorem Table1_fo43_1 : fieldOff Tryz.prog 43 1 = some 1 := by kernel_rfl
theorem Table1_ts3 : scal Tryz.prog 3 = true := by kernel_rfl
theorem Table1_fo43_3 : fieldOff Tryz.prog 43 3 = some 3 := by kernel_rfl
theorem Table1_fo43_4 : fieldOff Tryz.prog 43 4 = some 4 := by kernel_rfl
theorem Table1_fo43_5 : fieldOff Tryz.prog 43 5 = some 5 := by kernel_rfl
theorem Table1_fo43_6 : fieldOff Tryz.prog 43 6 = some 6 := by kernel_rfl
theorem Table1_fo43_7 : fieldOff Tryz.prog 43 7 = some 7 := by kernel_rfl
theorem Table1_fo43_2 : fieldOff Tryz.prog 43 2 = some 2 := by kernel_rfl
theorem Table1_ts9 : scal Tryz.prog 9 = true := by kernel_rfl
theorem Table1_st9 : strT Tryz.prog 9 = true := by kernel_rfl
theorem Table1_zo174 : zeroOf Tryz.prog 174 = some (.agg #[.pointer none,.pointer none,.pointer none,.pointer none,.pointer none]) := by kernel_rfl
theorem Table1_mo : Tryz.prog.follows .mixedOrders = true := by kernel_rfl
theorem Table1_ea174 : elemA Tryz.prog 174 = some 1 := by kernel_rfl
theorem Table1_sz174 : sizeT Tryz.prog 174 = some 5 := by kernel_rfl
theorem Table1_ag174 : aggsz Tryz.prog 174 = some 5 := by kernel_rfl
theorem Table1_as174 : arrS Tryz.prog 174 = some 5 := by kernel_rfl
theorem Table1_fo43_0 : fieldOff Tryz.prog 43 0 = some 0 := by kernel_rfl
theorem Table1_ts24 : scal Tryz.prog 24 = true := by kernel_rfl
theorem Table1_tgs43 : tags Tryz.prog 43 = some [(0,.u32),(0,.i64),(2,.i64),(0,.i64),(0,.i64),(0,.i64),(0,.i64),(0,.i64)] := by kernel_rfl
theorem Table1_es148 : elemS Tryz.prog 148 = some (3,1) := by kernel_rfl
theorem bare_c {a b v : Int} {V : Vw} : Does Tryz.prog 44 [.int .u32 a,.int .i64 b,.int .i64 v] V [] (Pv (.agg #[.int .u32 a,.int .i64 b,.string ⟨#[]⟩,.int .i64 0,.int .i64 0,.int .i64 0,.int .i64 0,.int .i64 v]) V []) := by
 refine Does.intro Tryz.func44 rfl rfl (le rfl) (fun B => ?_)
 refine Zs<|Zr<|?_
 refine Run.alloc Table1_zo43 (lt rfl) (fun b1 => ?_)
 refine Ze<|Zg<|Zs<|Zr<|Zm Z<|Zm Z<|Zm Z<|Zv (Y.buildS (l := [(0,.tmp 7),(1,.tmp 8),(7,.tmp 9)]) Table1_zo43 Table1_pl43 Z Z)<|Run.store (s := [(b1,.cells #[.int .u32 a,.int .i64 b,.string ⟨#[]⟩,.int .i64 0,.int .i64 0,.int .i64 0,.int .i64 0,.int .i64 v] 43 (0,0))]) Z Z Table1_sz43 (i := 0) Z Z (le Z) Z Z<|Ze<|Zg<|Zu<|?_
 exact Ex.retCell [] rfl rfl Table1_ag43 (Kn.at 0 rfl) rfl ⟨rfl,rfl,rfl⟩
theorem bare_c_h {a b v : Int} {V : Vw} {H : Hp} : Does Tryz.prog 44 [.int .u32 a,.int .i64 b,.int .i64 v] V H (Pv (.agg #[.int .u32 a,.int .i64 b,.string ⟨#[]⟩,.int .i64 0,.int .i64 0,.int .i64 0,.int .i64 0,.int .i64 v]) V H) := bare_c.frame
theorem rbare_c {a b v : Int} {V : Vw} : Does Tryz.prog 65 [.int .u32 a,.int .i64 b,.int .i64 v] V [] (Pv (.agg #[.int .u32 a,.int .i64 b,.string ⟨#[]⟩,.int .i64 0,.int .i64 0,.int .i64 0,.int .i64 0,.int .i64 v]) V []) := by
 refine Does.intro Tryz.func65 rfl rfl (le rfl) (fun B => ?_)
 refine Zs<|Zr<|?_
 refine Run.alloc Table1_zo43 (lt rfl) (fun b1 => ?_)
 refine Ze<|Zg<|Zs<|Zr<|Zm Z<|Zm Z<|Zm Z<|Zv (Y.buildS (l := [(0,.tmp 7),(1,.tmp 8),(7,.tmp 9)]) Table1_zo43 Table1_pl43 Z Z)<|Run.store (s := [(b1,.cells #[.int .u32 a,.int .i64 b,.string ⟨#[]⟩,.int .i64 0,.int .i64 0,.int .i64 0,.int .i64 0,.int .i64 v] 43 (0,0))]) Z Z Table1_sz43 (i := 0) Z Z (le Z) Z Z<|Ze<|Zg<|Zu<|?_
 exact Ex.retCell [] rfl rfl Table1_ag43 (Kn.at 0 rfl) rfl ⟨rfl,rfl,rfl⟩
theorem rbare_c_h {a b v : Int} {V : Vw} {H : Hp} : Does Tryz.prog 65 [.int .u32 a,.int .i64 b,.int .i64 v] V H (Pv (.agg #[.int .u32 a,.int .i64 b,.string ⟨#[]⟩,.int .i64 0,.int .i64 0,.int .i64 0,.int .i64 0,.int .i64 v]) V H) := rbare_c.frame
theorem held_c {b : Int} {V : Vw} : Does Tryz.prog 138 [.int .i64 b] V [] (Pv (.bool (Le.held b)) V []) := by
 refine Does.intro Tryz.func138 rfl rfl (le rfl) (fun B => ?_)
 refine Zs<|Zr<|Za Z<|Ze<|Zg<|Zs<|Zr<|Zm Z<|Zv (Y.int Z Z Z)<|Zm Z<|?_
 rcases Zsplit (decide (b ≥ 2)) with ⟨h1,g1⟩ | ⟨h1,g1⟩ <;> try simp only [kb] at g1
 ·refine Zp h1<|Zm Z<|Zp h1<|Zv (Y.int Z Z Z)<|Zv (Y.pick_t Z h1 Z)<|Za Z<|Ze<|Zg<|Zu<|Ex.keep []<|?_
  exact Ex.ret1 rfl rfl  ⟨congrArg Value.bool (by unfold Le.held; rw [decide_eq_true (p := b ≥ 2) W]; rfl),rfl,rfl⟩
 ·refine Zo h1 Z<|Zo h1 Z<|Zv (Y.pick_f Z h1 Z)<|Za Z<|Ze<|Zg<|Zu<|Ex.keep []<|?_
  exact Ex.ret1 rfl rfl  ⟨congrArg Value.bool (by unfold Le.held; rw [decide_eq_false (p := b ≥ 2) W]; rfl),rfl,rfl⟩
theorem held_c_h {b : Int} {V : Vw} {H : Hp} : Does Tryz.prog 138 [.int .i64 b] V H (Pv (.bool (Le.held b)) V H) := held_c.frame
theorem rtime_c {n : Int} {V : Vw} : Does Tryz.prog 140 [.int .i64 n] V [] (Pv (.bool (Le.tm n)) V []) := by
 refine Does.intro Tryz.func140 rfl rfl (le rfl) (fun B => ?_)
 refine Zs<|Zr<|Za Z<|Ze<|Zg<|Zs<|Zr<|Zm Z<|Zv (Y.int Z Z Z)<|Zm Z<|?_
 rcases Zsplit (decide (n ≥ 0)) with ⟨h1,g1⟩ | ⟨h1,g1⟩ <;> try simp only [kb] at g1
 ·refine Zp h1<|Zm Z<|Zp h1<|Zv (Y.int Z Z Z)<|Zv (Y.pick_t Z h1 Z)<|Za Z<|Ze<|Zg<|Zu<|Ex.keep []<|?_
  exact Ex.ret1 rfl rfl  ⟨congrArg Value.bool (by unfold Le.tm; rw [decide_eq_true (p := n ≥ 0) W]; rfl),rfl,rfl⟩
 ·refine Zo h1 Z<|Zo h1 Z<|Zv (Y.pick_f Z h1 Z)<|Za Z<|Ze<|Zg<|Zu<|Ex.keep []<|?_
  exact Ex.ret1 rfl rfl  ⟨congrArg Value.bool (by unfold Le.tm; rw [decide_eq_false (p := n ≥ 0) W]; rfl),rfl,rfl⟩
theorem rtime_c_h {n : Int} {V : Vw} {H : Hp} : Does Tryz.prog 140 [.int .i64 n] V H (Pv (.bool (Le.tm n)) V H) := rtime_c.frame
theorem rright11_c {q : Le} (hs : q.client.size ≤ 9223372036854775807) {V : Vw} : Does Tryz.prog 88 [.agg #[.int .u32 q.addr,.int .i64 q.bind,.string q.client,.int .i64 q.till,.int .i64 q.acked,.int .i64 q.told,.int .i64 q.at_,.int .i64 q.ver]] V [] (Pv (.bool (Le.right q)) V []) := by
 refine Does.intro Tryz.func88 rfl rfl (le rfl) (fun B => ?_)
 refine Zs<|Zr<|?_
 refine Run.box rfl (lt rfl) (fun b1 => ?_)
 refine Za Z<|Ze<|Zg<|Zs<|Zs<|Zr<|Zv (Y.fieldAddr Z Table1_fo43_1)<|Zv (Y.load Z Table1_ts3 (Kn.at 0 Z) Z)<|Zv (Y.int Z Z Z)<|Zm Z<|?_
 rcases Zsplit (decide (q.bind < 0)) with ⟨h2,g2⟩ | ⟨h2,g2⟩ <;> try simp only [kb] at g2
 ·refine Zo h2 Z<|Zo h2 Z<|Zo h2 Z<|Zv (Y.pick_t Z h2 Z)<|Zm Z<|Zo Z Z<|Zo Z Z<|Zo Z Z<|Zo Z Z<|Zv (Y.pick_t Z Z Z)<|Zm Z<|Zo Z Z<|Zo Z Z<|Zo Z Z<|Zo Z Z<|Zv (Y.pick_t Z Z Z)<|?_
  refine Zm Z<|Zo Z Z<|Zo Z Z<|Zo Z Z<|Zo Z Z<|Zv (Y.pick_t Z Z Z)<|Zm Z<|Zo Z Z<|Zo Z Z<|Zo Z Z<|Zo Z Z<|Zv (Y.pick_t Z Z Z)<|Zm Z<|Zo Z Z<|Zo Z Z<|Zo Z Z<|?_
  refine Zo Z Z<|Zv (Y.pick_t Z Z Z)<|Ze<|Zg<|Tr.cond_t Z Z<|Zs<|Zr<|Za Z<|Ze<|Zg<|Zu<|Zn<|Ex.keep []<|?_
  exact Ex.ret1 rfl rfl  ⟨congrArg Value.bool (Le.right_f W),rfl,rfl⟩
 ·refine Zp h2<|Zv (Y.fieldAddr Z Table1_fo43_1)<|Zp h2<|Zv (Y.load Z Table1_ts3 (Kn.at 0 Z) Z)<|Zp h2<|Zv (Y.int Z Z Z)<|Zv (Y.pick_f Z h2 Z)<|Zm Z<|?_
  rcases Zsplit (decide (q.bind > 5)) with ⟨h3,g3⟩ | ⟨h3,g3⟩ <;> try simp only [kb] at g3
  ·refine Zo h3 Z<|Zo h3 Z<|Zo h3 Z<|Zo h3 Z<|Zv (Y.pick_t Z h3 Z)<|Zm Z<|Zo Z Z<|Zo Z Z<|Zo Z Z<|Zo Z Z<|Zv (Y.pick_t Z Z Z)<|Zm Z<|Zo Z Z<|Zo Z Z<|Zo Z Z<|Zo Z Z<|?_
   refine Zv (Y.pick_t Z Z Z)<|Zm Z<|Zo Z Z<|Zo Z Z<|Zo Z Z<|Zo Z Z<|Zv (Y.pick_t Z Z Z)<|Zm Z<|Zo Z Z<|Zo Z Z<|Zo Z Z<|Zo Z Z<|Zv (Y.pick_t Z Z Z)<|Ze<|Zg<|Tr.cond_t Z Z<|?_
   refine Zs<|Zr<|Za Z<|Ze<|Zg<|Zu<|Zn<|Ex.keep []<|?_
   exact Ex.ret1 rfl rfl  ⟨congrArg Value.bool (Le.right_f W),rfl,rfl⟩
  ·refine Zp h3<|Zv (Y.fieldAddr Z Table1_fo43_3)<|Zp h3<|Zv (Y.load Z Table1_ts3 (Kn.at 0 Z) Z)<|Zp h3<|Run.call0 (l := [.tmp 13]) Z Z Z (lt Z) rtime_c_h<|Zp h3<|Zv (Y.not Z)<|Zv (Y.pick_f Z h3 Z)<|Zm Z<|?_
   rcases Zsplit (Le.tm q.till) with ⟨h4,g4⟩ | ⟨h4,g4⟩ <;> try simp only [kb] at g4
   ·have z5 := Le.tm_t h4
    refine Zp (congrArg Bool.not h4)<|Zv (Y.fieldAddr Z Table1_fo43_4)<|Zp (congrArg Bool.not h4)<|Zv (Y.load Z Table1_ts3 (Kn.at 0 Z) Z)<|Zp (congrArg Bool.not h4)<|Run.call0 (l := [.tmp 19]) Z Z Z (lt Z) rtime_c_h<|Zp (congrArg Bool.not h4)<|Zv (Y.not Z)<|Zv (Y.pick_f Z (congrArg Bool.not h4) Z)<|Zm Z<|?_
    rcases Zsplit (Le.tm q.acked) with ⟨h6,g6⟩ | ⟨h6,g6⟩ <;> try simp only [kb] at g6
    ·have z7 := Le.tm_t h6
     refine Zp (congrArg Bool.not h6)<|Zv (Y.fieldAddr Z Table1_fo43_5)<|Zp (congrArg Bool.not h6)<|Zv (Y.load Z Table1_ts3 (Kn.at 0 Z) Z)<|Zp (congrArg Bool.not h6)<|Run.call0 (l := [.tmp 25]) Z Z Z (lt Z) rtime_c_h<|Zp (congrArg Bool.not h6)<|Zv (Y.not Z)<|Zv (Y.pick_f Z (congrArg Bool.not h6) Z)<|Zm Z<|?_
     rcases Zsplit (Le.tm q.told) with ⟨h8,g8⟩ | ⟨h8,g8⟩ <;> try simp only [kb] at g8
     ·have z9 := Le.tm_t h8
      refine Zp (congrArg Bool.not h8)<|Zv (Y.fieldAddr Z Table1_fo43_6)<|Zp (congrArg Bool.not h8)<|Zv (Y.load Z Table1_ts3 (Kn.at 0 Z) Z)<|Zp (congrArg Bool.not h8)<|Run.call0 (l := [.tmp 31]) Z Z Z (lt Z) rtime_c_h<|Zp (congrArg Bool.not h8)<|Zv (Y.not Z)<|Zv (Y.pick_f Z (congrArg Bool.not h8) Z)<|Zm Z<|?_
      rcases Zsplit (Le.tm q.at_) with ⟨h10,g10⟩ | ⟨h10,g10⟩ <;> try simp only [kb] at g10
      ·have z11 := Le.tm_t h10
       refine Zp (congrArg Bool.not h10)<|Zv (Y.fieldAddr Z Table1_fo43_7)<|Zp (congrArg Bool.not h10)<|Zv (Y.load Z Table1_ts3 (Kn.at 0 Z) Z)<|Zp (congrArg Bool.not h10)<|Run.call0 (l := [.tmp 37]) Z Z Z (lt Z) rtime_c_h<|Zp (congrArg Bool.not h10)<|Zv (Y.not Z)<|Zv (Y.pick_f Z (congrArg Bool.not h10) Z)<|Ze<|Zg<|?_
       rcases Zsplit (Le.tm q.ver) with ⟨h12,g12⟩ | ⟨h12,g12⟩ <;> try simp only [kb] at g12
       ·have z13 := Le.tm_t h12
        refine Tr.cond_f Z (congrArg Bool.not h12)<|Zt<|Zg<|Zs<|Zs<|Zr<|Zv (Y.fieldAddr Z Table1_fo43_1)<|Zv (Y.load Z Table1_ts3 (Kn.at 0 Z) Z)<|Zv (Y.int Z Z Z)<|Zm Z<|?_
        rcases Zsplit (q.bind == 2) with ⟨h14,g14⟩ | ⟨h14,g14⟩ <;> try simp only [kb] at g14
        ·refine Zo h14 Z<|Zo h14 Z<|Zo h14 Z<|Zv (Y.pick_t Z h14 Z)<|Zm Z<|Zo Z Z<|Zo Z Z<|Zo Z Z<|Zv (Y.pick_t Z Z Z)<|Ze<|Zg<|Tr.cond_t Z Z<|Zs<|Zr<|Zv (Y.fieldAddr Z Table1_fo43_2)<|Zv (Y.load Z Table1_ts9 (Kn.at 0 Z) Z)<|?_
         refine Zv (Y.lenStr Z Table1_st9)<|Zv (Y.int Z Z Z)<|Zm Z<|?_
         rcases Zsplit (decide ((q.client.size : Int) ≥ 1)) with ⟨h15,g15⟩ | ⟨h15,g15⟩ <;> try simp only [kb] at g15
         ·refine Zp h15<|Zv (Y.fieldAddr Z Table1_fo43_2)<|Zp h15<|Zv (Y.load Z Table1_ts9 (Kn.at 0 Z) Z)<|Zp h15<|Zv (Y.lenStr Z Table1_st9)<|Zp h15<|Zv (Y.int Z Z Z)<|Zv (Y.pick_t Z h15 Z)<|Za Z<|Ze<|Zg<|Zu<|Zn<|Ex.keep []<|?_
          exact Ex.ret1 rfl rfl  ⟨congrArg Value.bool (Le.right_d W),rfl,rfl⟩
         ·refine Zo h15 Z<|Zo h15 Z<|Zo h15 Z<|Zo h15 Z<|Zv (Y.pick_f Z h15 Z)<|Za Z<|Ze<|Zg<|Zu<|Zn<|Ex.keep []<|?_
          exact Ex.ret1 rfl rfl  ⟨congrArg Value.bool (Le.right_f W),rfl,rfl⟩
        ·refine Zp h14<|Zv (Y.fieldAddr Z Table1_fo43_1)<|Zp h14<|Zv (Y.load Z Table1_ts3 (Kn.at 0 Z) Z)<|Zp h14<|Zv (Y.int Z Z Z)<|Zv (Y.pick_f Z h14 Z)<|Zm Z<|?_
         rcases Zsplit (q.bind == 3) with ⟨h16,g16⟩ | ⟨h16,g16⟩ <;> try simp only [kb] at g16
         ·refine Zo h16 Z<|Zo h16 Z<|Zo h16 Z<|Zv (Y.pick_t Z h16 Z)<|Ze<|Zg<|Tr.cond_t Z Z<|Zs<|Zr<|Zv (Y.fieldAddr Z Table1_fo43_2)<|Zv (Y.load Z Table1_ts9 (Kn.at 0 Z) Z)<|Zv (Y.lenStr Z Table1_st9)<|Zv (Y.int Z Z Z)<|Zm Z<|?_
          rcases Zsplit (decide ((q.client.size : Int) ≥ 1)) with ⟨h17,g17⟩ | ⟨h17,g17⟩ <;> try simp only [kb] at g17
          ·refine Zp h17<|Zv (Y.fieldAddr Z Table1_fo43_2)<|Zp h17<|Zv (Y.load Z Table1_ts9 (Kn.at 0 Z) Z)<|Zp h17<|Zv (Y.lenStr Z Table1_st9)<|Zp h17<|Zv (Y.int Z Z Z)<|Zv (Y.pick_t Z h17 Z)<|Za Z<|Ze<|Zg<|Zu<|Zn<|Ex.keep []<|?_
           exact Ex.ret1 rfl rfl  ⟨congrArg Value.bool (Le.right_d W),rfl,rfl⟩
          ·refine Zo h17 Z<|Zo h17 Z<|Zo h17 Z<|Zo h17 Z<|Zv (Y.pick_f Z h17 Z)<|Za Z<|Ze<|Zg<|Zu<|Zn<|Ex.keep []<|?_
           exact Ex.ret1 rfl rfl  ⟨congrArg Value.bool (Le.right_f W),rfl,rfl⟩
         ·refine Zp h16<|Zv (Y.fieldAddr Z Table1_fo43_1)<|Zp h16<|Zv (Y.load Z Table1_ts3 (Kn.at 0 Z) Z)<|Zp h16<|Zv (Y.int Z Z Z)<|Zv (Y.pick_f Z h16 Z)<|Ze<|Zg<|?_
          rcases Zsplit (q.bind == 4) with ⟨h18,g18⟩ | ⟨h18,g18⟩ <;> try simp only [kb] at g18
          ·refine Tr.cond_t Z h18<|Zs<|Zr<|Zv (Y.fieldAddr Z Table1_fo43_2)<|Zv (Y.load Z Table1_ts9 (Kn.at 0 Z) Z)<|Zv (Y.lenStr Z Table1_st9)<|Zv (Y.int Z Z Z)<|Zm Z<|?_
           rcases Zsplit (decide ((q.client.size : Int) ≥ 1)) with ⟨h19,g19⟩ | ⟨h19,g19⟩ <;> try simp only [kb] at g19
           ·refine Zp h19<|Zv (Y.fieldAddr Z Table1_fo43_2)<|Zp h19<|Zv (Y.load Z Table1_ts9 (Kn.at 0 Z) Z)<|Zp h19<|Zv (Y.lenStr Z Table1_st9)<|Zp h19<|Zv (Y.int Z Z Z)<|Zv (Y.pick_t Z h19 Z)<|Za Z<|Ze<|Zg<|Zu<|Zn<|Ex.keep []<|?_
            exact Ex.ret1 rfl rfl  ⟨congrArg Value.bool (Le.right_d W),rfl,rfl⟩
           ·refine Zo h19 Z<|Zo h19 Z<|Zo h19 Z<|Zo h19 Z<|Zv (Y.pick_f Z h19 Z)<|Za Z<|Ze<|Zg<|Zu<|Zn<|Ex.keep []<|?_
            exact Ex.ret1 rfl rfl  ⟨congrArg Value.bool (Le.right_f W),rfl,rfl⟩
          ·refine Tr.cond_f Z h18<|Zt<|Zg<|Zs<|Zr<|Zv (Y.fieldAddr Z Table1_fo43_2)<|Zv (Y.load Z Table1_ts9 (Kn.at 0 Z) Z)<|Zv (Y.eqStr Z Z)<|Zm Z<|?_
           rcases Zsplit (q.client.toList == (⟨#[]⟩ : ByteArray).toList) with ⟨h20,g20⟩ | ⟨h20,g20⟩ <;> try simp only [kb] at g20
           ·have z21 := Le.str0_t h20
            refine Zp h20<|Zv (Y.fieldAddr Z Table1_fo43_3)<|Zp h20<|Zv (Y.load Z Table1_ts3 (Kn.at 0 Z) Z)<|Zp h20<|Zv (Y.int Z Z Z)<|Zv (Y.pick_t Z h20 Z)<|Zm Z<|?_
            rcases Zsplit (q.till == 0) with ⟨h22,g22⟩ | ⟨h22,g22⟩ <;> try simp only [kb] at g22
            ·refine Zp h22<|Zv (Y.fieldAddr Z Table1_fo43_4)<|Zp h22<|Zv (Y.load Z Table1_ts3 (Kn.at 0 Z) Z)<|Zp h22<|Zv (Y.int Z Z Z)<|Zv (Y.pick_t Z h22 Z)<|Zm Z<|?_
             rcases Zsplit (q.acked == 0) with ⟨h23,g23⟩ | ⟨h23,g23⟩ <;> try simp only [kb] at g23
             ·refine Zp h23<|Zv (Y.fieldAddr Z Table1_fo43_5)<|Zp h23<|Zv (Y.load Z Table1_ts3 (Kn.at 0 Z) Z)<|Zp h23<|Zv (Y.int Z Z Z)<|Zv (Y.pick_t Z h23 Z)<|Zm Z<|?_
              rcases Zsplit (q.told == 0) with ⟨h24,g24⟩ | ⟨h24,g24⟩ <;> try simp only [kb] at g24
              ·refine Zp h24<|Zv (Y.fieldAddr Z Table1_fo43_6)<|Zp h24<|Zv (Y.load Z Table1_ts3 (Kn.at 0 Z) Z)<|Zp h24<|Zv (Y.int Z Z Z)<|Zv (Y.pick_t Z h24 Z)<|Za Z<|Ze<|Zg<|Zu<|Ex.keep []<|?_
               exact Ex.ret1 rfl rfl  ⟨congrArg Value.bool ((show (q.at_ == 0) = decide (q.at_ = 0) from rfl).trans (Le.right_d W)),rfl,rfl⟩
              ·refine Zo h24 Z<|Zo h24 Z<|Zo h24 Z<|Zv (Y.pick_f Z h24 Z)<|Za Z<|Ze<|Zg<|Zu<|Ex.keep []<|?_
               exact Ex.ret1 rfl rfl  ⟨congrArg Value.bool (Le.right_f W),rfl,rfl⟩
             ·refine Zo h23 Z<|Zo h23 Z<|Zo h23 Z<|Zv (Y.pick_f Z h23 Z)<|Zm Z<|Zo Z Z<|Zo Z Z<|Zo Z Z<|Zv (Y.pick_f Z Z Z)<|Za Z<|Ze<|Zg<|Zu<|Ex.keep []<|?_
              exact Ex.ret1 rfl rfl  ⟨congrArg Value.bool (Le.right_f W),rfl,rfl⟩
            ·refine Zo h22 Z<|Zo h22 Z<|Zo h22 Z<|Zv (Y.pick_f Z h22 Z)<|Zm Z<|Zo Z Z<|Zo Z Z<|Zo Z Z<|Zv (Y.pick_f Z Z Z)<|Zm Z<|Zo Z Z<|Zo Z Z<|Zo Z Z<|Zv (Y.pick_f Z Z Z)<|Za Z<|Ze<|?_
             refine Zg<|Zu<|Ex.keep []<|?_
             exact Ex.ret1 rfl rfl  ⟨congrArg Value.bool (Le.right_f W),rfl,rfl⟩
           ·have z25 := Le.str0_f h20
            refine Zo h20 Z<|Zo h20 Z<|Zo h20 Z<|Zv (Y.pick_f Z h20 Z)<|Zm Z<|Zo Z Z<|Zo Z Z<|Zo Z Z<|Zv (Y.pick_f Z Z Z)<|Zm Z<|Zo Z Z<|Zo Z Z<|Zo Z Z<|Zv (Y.pick_f Z Z Z)<|Zm Z<|Zo Z Z<|?_
            refine Zo Z Z<|Zo Z Z<|Zv (Y.pick_f Z Z Z)<|Za Z<|Ze<|Zg<|Zu<|Ex.keep []<|?_
            exact Ex.ret1 rfl rfl  ⟨congrArg Value.bool (Le.right_f W),rfl,rfl⟩
       ·have z26 := Le.tm_f h12
        refine Tr.cond_t Z (congrArg Bool.not h12)<|Zs<|Zr<|Za Z<|Ze<|Zg<|Zu<|Zn<|Ex.keep []<|?_
        exact Ex.ret1 rfl rfl  ⟨congrArg Value.bool (Le.right_f W),rfl,rfl⟩
      ·have z27 := Le.tm_f h10
       refine Zo (congrArg Bool.not h10) Z<|Zo (congrArg Bool.not h10) Z<|Zo (congrArg Bool.not h10) Z<|Zo (congrArg Bool.not h10) Z<|Zv (Y.pick_t Z (congrArg Bool.not h10) Z)<|Ze<|Zg<|Tr.cond_t Z Z<|Zs<|Zr<|Za Z<|Ze<|Zg<|Zu<|Zn<|Ex.keep []<|?_
       exact Ex.ret1 rfl rfl  ⟨congrArg Value.bool (Le.right_f W),rfl,rfl⟩
     ·have z28 := Le.tm_f h8
      refine Zo (congrArg Bool.not h8) Z<|Zo (congrArg Bool.not h8) Z<|Zo (congrArg Bool.not h8) Z<|Zo (congrArg Bool.not h8) Z<|Zv (Y.pick_t Z (congrArg Bool.not h8) Z)<|Zm Z<|Zo Z Z<|Zo Z Z<|Zo Z Z<|Zo Z Z<|Zv (Y.pick_t Z Z Z)<|Ze<|Zg<|Tr.cond_t Z Z<|Zs<|Zr<|?_
      refine Za Z<|Ze<|Zg<|Zu<|Zn<|Ex.keep []<|?_
      exact Ex.ret1 rfl rfl  ⟨congrArg Value.bool (Le.right_f W),rfl,rfl⟩
    ·have z29 := Le.tm_f h6
     refine Zo (congrArg Bool.not h6) Z<|Zo (congrArg Bool.not h6) Z<|Zo (congrArg Bool.not h6) Z<|Zo (congrArg Bool.not h6) Z<|Zv (Y.pick_t Z (congrArg Bool.not h6) Z)<|Zm Z<|Zo Z Z<|Zo Z Z<|Zo Z Z<|Zo Z Z<|Zv (Y.pick_t Z Z Z)<|Zm Z<|Zo Z Z<|Zo Z Z<|Zo Z Z<|Zo Z Z<|?_
     refine Zv (Y.pick_t Z Z Z)<|Ze<|Zg<|Tr.cond_t Z Z<|Zs<|Zr<|Za Z<|Ze<|Zg<|Zu<|Zn<|Ex.keep []<|?_
     exact Ex.ret1 rfl rfl  ⟨congrArg Value.bool (Le.right_f W),rfl,rfl⟩
   ·have z30 := Le.tm_f h4
    refine Zo (congrArg Bool.not h4) Z<|Zo (congrArg Bool.not h4) Z<|Zo (congrArg Bool.not h4) Z<|Zo (congrArg Bool.not h4) Z<|Zv (Y.pick_t Z (congrArg Bool.not h4) Z)<|Zm Z<|Zo Z Z<|Zo Z Z<|Zo Z Z<|Zo Z Z<|Zv (Y.pick_t Z Z Z)<|Zm Z<|Zo Z Z<|Zo Z Z<|Zo Z Z<|Zo Z Z<|?_
    refine Zv (Y.pick_t Z Z Z)<|Zm Z<|Zo Z Z<|Zo Z Z<|Zo Z Z<|Zo Z Z<|Zv (Y.pick_t Z Z Z)<|Ze<|Zg<|Tr.cond_t Z Z<|Zs<|Zr<|Za Z<|Ze<|Zg<|Zu<|?_
    refine Zn<|Ex.keep []<|?_
    exact Ex.ret1 rfl rfl  ⟨congrArg Value.bool (Le.right_f W),rfl,rfl⟩
theorem rright11_h {q : Le} (hs : q.client.size ≤ 9223372036854775807) {V : Vw} {H : Hp} : Does Tryz.prog 88 [.agg q.cells.toArray] V H (Pv (.bool (Le.right q)) V H) := (rright11_c hs).frame
theorem times_c {b : Nat} {V : Vw} {H : Hp} : Does Tryz.prog 137 [(pZ b)] V H (Pv (.agg #[.pointer (some ⟨b,3,none⟩),.pointer (some ⟨b,4,none⟩),.pointer (some ⟨b,5,none⟩),.pointer (some ⟨b,6,none⟩),.pointer (some ⟨b,7,none⟩)]) V H) := by
 refine Does.intro Tryz.func137 rfl rfl (le rfl) (fun B => ?_)
 refine Zs<|Zr<|?_
 refine Run.alloc Table1_zo174 (lt rfl) (fun b1 => ?_)
 refine Ze<|Zg<|Zs<|Tr.anyL [] 16 Table1_mo<|RunL.pure (i := 0) rfl WK WK WK WK (fun _ _ _ h => h) (lt rfl) KnAll.nil (fun _ => (Y.move rfl))<|RunL.pure (i := 1) rfl WK WK WK WK (fun _ _ _ h => h) (lt rfl) KnAll.nil (fun _ => (Y.nilCheck rfl))<|RunL.pure (i := 2) rfl WK WK WK WK (fun _ _ _ h => h) (lt rfl) KnAll.nil (fun _ => (Y.fieldAddr rfl Table1_fo43_3))<|?_
 refine RunL.pure (i := 3) rfl WK WK WK WK (fun _ _ _ h => h) (lt rfl) KnAll.nil (fun _ => (Y.move rfl))<|RunL.pure (i := 4) rfl WK WK WK WK (fun _ _ _ h => h) (lt rfl) KnAll.nil (fun _ => (Y.nilCheck rfl))<|RunL.pure (i := 5) rfl WK WK WK WK (fun _ _ _ h => h) (lt rfl) KnAll.nil (fun _ => (Y.fieldAddr rfl Table1_fo43_4))<|?_
 refine RunL.pure (i := 6) rfl WK WK WK WK (fun _ _ _ h => h) (lt rfl) KnAll.nil (fun _ => (Y.move rfl))<|RunL.pure (i := 7) rfl WK WK WK WK (fun _ _ _ h => h) (lt rfl) KnAll.nil (fun _ => (Y.nilCheck rfl))<|RunL.pure (i := 8) rfl WK WK WK WK (fun _ _ _ h => h) (lt rfl) KnAll.nil (fun _ => (Y.fieldAddr rfl Table1_fo43_5))<|?_
 refine RunL.pure (i := 9) rfl WK WK WK WK (fun _ _ _ h => h) (lt rfl) KnAll.nil (fun _ => (Y.move rfl))<|RunL.pure (i := 10) rfl WK WK WK WK (fun _ _ _ h => h) (lt rfl) KnAll.nil (fun _ => (Y.nilCheck rfl))<|RunL.pure (i := 11) rfl WK WK WK WK (fun _ _ _ h => h) (lt rfl) KnAll.nil (fun _ => (Y.fieldAddr rfl Table1_fo43_6))<|?_
 refine RunL.pure (i := 12) rfl WK WK WK WK (fun _ _ _ h => h) (lt rfl) KnAll.nil (fun _ => (Y.move rfl))<|RunL.pure (i := 13) rfl WK WK WK WK (fun _ _ _ h => h) (lt rfl) KnAll.nil (fun _ => (Y.nilCheck rfl))<|RunL.pure (i := 14) rfl WK WK WK WK (fun _ _ _ h => h) (lt rfl) KnAll.nil (fun _ => (Y.fieldAddr rfl Table1_fo43_7))<|?_
 refine RunL.pure (i := 15) rfl WK WK WK WK (fun _ _ _ h => h) (lt rfl) KnAll.nil (fun _ => (Y.buildA (l := [(0,.tmp 5),(1,.tmp 8),(2,.tmp 11),(3,.tmp 14),(4,.tmp 17)]) Table1_zo174 Table1_ea174 rfl rfl)) ?_
 refine RunL.one (i := 16) WK rfl  ?_
 refine Run.store (s := [(b1,.cells #[.pointer (some ⟨b,3,none⟩),.pointer (some ⟨b,4,none⟩),.pointer (some ⟨b,5,none⟩),.pointer (some ⟨b,6,none⟩),.pointer (some ⟨b,7,none⟩)] 174 (0,0))]) Z Z Table1_sz174 (i := 0) Z Z (le Z) Z Z<|Ze<|Ex.anyLz Z<|RunL.done WK<|Zg<|Zu<|?_
 exact Ex.retCellT 1 rfl rfl Table1_ag174 (Kn.at 0 rfl) rfl rfl ⟨rfl,rfl,rfl⟩
theorem right_c {q : Le} (hs : q.client.size ≤ 9223372036854775807) {V : Vw} : Does Tryz.prog 78 [.agg #[.int .u32 q.addr,.int .i64 q.bind,.string q.client,.int .i64 q.till,.int .i64 q.acked,.int .i64 q.told,.int .i64 q.at_,.int .i64 q.ver]] V [] (Pv (.bool (Le.right q)) V []) := by
 refine Does.intro Tryz.func78 rfl rfl (le rfl) (fun B => ?_)
 refine Zs<|Zr<|?_
 refine Run.box rfl (lt rfl) (fun b1 => ?_)
 refine Za Z<|Ze<|Zg<|Zs<|Zs<|Zr<|Run.call0 (l := [.tmp 1]) Z Z Z (lt Z) times_c<|Zm Z<|Ze<|Zg<|Zb<|?_
 refine ZL (X := Nat) (fun z0 => V) (fun z0 => [[(b1,.cells #[.int .u32 q.addr,.int .i64 q.bind,.string q.client,.int .i64 q.till,.int .i64 q.acked,.int .i64 q.told,.int .i64 q.at_,.int .i64 q.ver] 43 (0,0))]]) (fun z0 => [(1,(pZ b1)),(5,.agg #[.pointer (some ⟨b1,3,none⟩),.pointer (some ⟨b1,4,none⟩),.pointer (some ⟨b1,5,none⟩),.pointer (some ⟨b1,6,none⟩),.pointer (some ⟨b1,7,none⟩)]),(6,.int .i64 (z0 : Int))]) (fun z0 => z0 ≤ 5 ∧ ∀ j,j < z0 → Le.tm (Le.tms q j) = true) (fun z0 => 5 - z0) (0 : Nat) ⟨Nat.zero_le _,fun j hj => absurd hj (Nat.not_lt_zero j)⟩ ?_
 rintro i1 ⟨hi,hall⟩
 refine Zs<|Zr<|Zv (Y.int Z Z Z)<|Ze<|Zg<|Zs<|?_
 rcases Zsplit (decide ((i1 : Int) < 5)) with ⟨h2,g2⟩ | ⟨h2,g2⟩ <;> try simp only [kb] at g2
 ·refine Tr.cond_t Z h2<|Zt<|Zg<|Zs<|Zb<|Zs<|Zr<|?_
  rcases (show i1 = 0 ∨ i1 = 1 ∨ i1 = 2 ∨ i1 = 3 ∨ i1 = 4 from by omega) with rfl | rfl | rfl | rfl | rfl
  ·refine Zv (Y.idxAgg Z Z Table1_as174 WD WD rfl)<|Za Z<|Ze<|Zg<|Zs<|Zr<|Zm Z<|Zv (Y.nilCheck Z)<|Zv (Y.load Z Table1_ts3 (Kn.at 0 Z) Z)<|Zv (Y.int Z Z Z)<|Zm Z<|?_
   rcases Zsplit (decide (q.till < 0)) with ⟨h3,g3⟩ | ⟨h3,g3⟩ <;> try simp only [kb] at g3
   ·refine Zo h3 Z<|Zo h3 Z<|Zo h3 Z<|Zo h3 Z<|Zv (Y.pick_t Z h3 Z)<|Ze<|Zg<|Tr.cond_t Z Z<|Zs<|Zr<|Za Z<|Ze<|Zg<|Zu<|Zk<|Zn<|?_
    refine Zn<|Zk<|Zn<|Ex.keep []<|?_
    exact Ex.ret1 rfl rfl  ⟨congrArg Value.bool (Le.tms_not (x := q) (j := 0) WD (by show q.till < 0 ∨ q.till > 1099511627776; omega)),rfl,rfl⟩
   ·refine Zp h3<|Zm Z<|Zp h3<|Zv (Y.nilCheck Z)<|Zp h3<|Zv (Y.load Z Table1_ts3 (Kn.at 0 Z) Z)<|Zp h3<|Zv (Y.int Z Z Z)<|Zv (Y.pick_f Z h3 Z)<|Ze<|Zg<|?_
    rcases Zsplit (decide (q.till > 1099511627776)) with ⟨h4,g4⟩ | ⟨h4,g4⟩ <;> try simp only [kb] at g4
    ·refine Tr.cond_t Z h4<|Zs<|Zr<|Za Z<|Ze<|Zg<|Zu<|Zk<|Zn<|Zn<|Zk<|Zn<|Ex.keep []<|?_
     exact Ex.ret1 rfl rfl  ⟨congrArg Value.bool (Le.tms_not (x := q) (j := 0) WD (by show q.till < 0 ∨ q.till > 1099511627776; omega)),rfl,rfl⟩
    ·refine Tr.cond_f Z h4<|Zt<|Zc<|Zg<|Zr<|Zv (Y.add Z Z W)<|Zm Z<|Ze<|?_
     have ht : Le.tm (Le.tms q 0) = true := Le.tm_iff.2 (by show 0 ≤ q.till ∧ q.till ≤ 1099511627776; omega)
     exact ZR (0 + 1 : Nat) ⟨by omega,upto_succ hall ht⟩ W
  ·refine Zv (Y.idxAgg Z Z Table1_as174 WD WD rfl)<|Za Z<|Ze<|Zg<|Zs<|Zr<|Zm Z<|Zv (Y.nilCheck Z)<|Zv (Y.load Z Table1_ts3 (Kn.at 0 Z) Z)<|Zv (Y.int Z Z Z)<|Zm Z<|?_
   rcases Zsplit (decide (q.acked < 0)) with ⟨h5,g5⟩ | ⟨h5,g5⟩ <;> try simp only [kb] at g5
   ·refine Zo h5 Z<|Zo h5 Z<|Zo h5 Z<|Zo h5 Z<|Zv (Y.pick_t Z h5 Z)<|Ze<|Zg<|Tr.cond_t Z Z<|Zs<|Zr<|Za Z<|Ze<|Zg<|Zu<|Zk<|Zn<|?_
    refine Zn<|Zk<|Zn<|Ex.keep []<|?_
    exact Ex.ret1 rfl rfl  ⟨congrArg Value.bool (Le.tms_not (x := q) (j := 1) WD (by show q.acked < 0 ∨ q.acked > 1099511627776; omega)),rfl,rfl⟩
   ·refine Zp h5<|Zm Z<|Zp h5<|Zv (Y.nilCheck Z)<|Zp h5<|Zv (Y.load Z Table1_ts3 (Kn.at 0 Z) Z)<|Zp h5<|Zv (Y.int Z Z Z)<|Zv (Y.pick_f Z h5 Z)<|Ze<|Zg<|?_
    rcases Zsplit (decide (q.acked > 1099511627776)) with ⟨h6,g6⟩ | ⟨h6,g6⟩ <;> try simp only [kb] at g6
    ·refine Tr.cond_t Z h6<|Zs<|Zr<|Za Z<|Ze<|Zg<|Zu<|Zk<|Zn<|Zn<|Zk<|Zn<|Ex.keep []<|?_
     exact Ex.ret1 rfl rfl  ⟨congrArg Value.bool (Le.tms_not (x := q) (j := 1) WD (by show q.acked < 0 ∨ q.acked > 1099511627776; omega)),rfl,rfl⟩
    ·refine Tr.cond_f Z h6<|Zt<|Zc<|Zg<|Zr<|Zv (Y.add Z Z W)<|Zm Z<|Ze<|?_
     have ht : Le.tm (Le.tms q 1) = true := Le.tm_iff.2 (by show 0 ≤ q.acked ∧ q.acked ≤ 1099511627776; omega)
     exact ZR (1 + 1 : Nat) ⟨by omega,upto_succ hall ht⟩ W
  ·refine Zv (Y.idxAgg Z Z Table1_as174 WD WD rfl)<|Za Z<|Ze<|Zg<|Zs<|Zr<|Zm Z<|Zv (Y.nilCheck Z)<|Zv (Y.load Z Table1_ts3 (Kn.at 0 Z) Z)<|Zv (Y.int Z Z Z)<|Zm Z<|?_
   rcases Zsplit (decide (q.told < 0)) with ⟨h7,g7⟩ | ⟨h7,g7⟩ <;> try simp only [kb] at g7
   ·refine Zo h7 Z<|Zo h7 Z<|Zo h7 Z<|Zo h7 Z<|Zv (Y.pick_t Z h7 Z)<|Ze<|Zg<|Tr.cond_t Z Z<|Zs<|Zr<|Za Z<|Ze<|Zg<|Zu<|Zk<|Zn<|?_
    refine Zn<|Zk<|Zn<|Ex.keep []<|?_
    exact Ex.ret1 rfl rfl  ⟨congrArg Value.bool (Le.tms_not (x := q) (j := 2) WD (by show q.told < 0 ∨ q.told > 1099511627776; omega)),rfl,rfl⟩
   ·refine Zp h7<|Zm Z<|Zp h7<|Zv (Y.nilCheck Z)<|Zp h7<|Zv (Y.load Z Table1_ts3 (Kn.at 0 Z) Z)<|Zp h7<|Zv (Y.int Z Z Z)<|Zv (Y.pick_f Z h7 Z)<|Ze<|Zg<|?_
    rcases Zsplit (decide (q.told > 1099511627776)) with ⟨h8,g8⟩ | ⟨h8,g8⟩ <;> try simp only [kb] at g8
    ·refine Tr.cond_t Z h8<|Zs<|Zr<|Za Z<|Ze<|Zg<|Zu<|Zk<|Zn<|Zn<|Zk<|Zn<|Ex.keep []<|?_
     exact Ex.ret1 rfl rfl  ⟨congrArg Value.bool (Le.tms_not (x := q) (j := 2) WD (by show q.told < 0 ∨ q.told > 1099511627776; omega)),rfl,rfl⟩
    ·refine Tr.cond_f Z h8<|Zt<|Zc<|Zg<|Zr<|Zv (Y.add Z Z W)<|Zm Z<|Ze<|?_
     have ht : Le.tm (Le.tms q 2) = true := Le.tm_iff.2 (by show 0 ≤ q.told ∧ q.told ≤ 1099511627776; omega)
     exact ZR (2 + 1 : Nat) ⟨by omega,upto_succ hall ht⟩ W
  ·refine Zv (Y.idxAgg Z Z Table1_as174 WD WD rfl)<|Za Z<|Ze<|Zg<|Zs<|Zr<|Zm Z<|Zv (Y.nilCheck Z)<|Zv (Y.load Z Table1_ts3 (Kn.at 0 Z) Z)<|Zv (Y.int Z Z Z)<|Zm Z<|?_
   rcases Zsplit (decide (q.at_ < 0)) with ⟨h9,g9⟩ | ⟨h9,g9⟩ <;> try simp only [kb] at g9
   ·refine Zo h9 Z<|Zo h9 Z<|Zo h9 Z<|Zo h9 Z<|Zv (Y.pick_t Z h9 Z)<|Ze<|Zg<|Tr.cond_t Z Z<|Zs<|Zr<|Za Z<|Ze<|Zg<|Zu<|Zk<|Zn<|?_
    refine Zn<|Zk<|Zn<|Ex.keep []<|?_
    exact Ex.ret1 rfl rfl  ⟨congrArg Value.bool (Le.tms_not (x := q) (j := 3) WD (by show q.at_ < 0 ∨ q.at_ > 1099511627776; omega)),rfl,rfl⟩
   ·refine Zp h9<|Zm Z<|Zp h9<|Zv (Y.nilCheck Z)<|Zp h9<|Zv (Y.load Z Table1_ts3 (Kn.at 0 Z) Z)<|Zp h9<|Zv (Y.int Z Z Z)<|Zv (Y.pick_f Z h9 Z)<|Ze<|Zg<|?_
    rcases Zsplit (decide (q.at_ > 1099511627776)) with ⟨h10,g10⟩ | ⟨h10,g10⟩ <;> try simp only [kb] at g10
    ·refine Tr.cond_t Z h10<|Zs<|Zr<|Za Z<|Ze<|Zg<|Zu<|Zk<|Zn<|Zn<|Zk<|Zn<|Ex.keep []<|?_
     exact Ex.ret1 rfl rfl  ⟨congrArg Value.bool (Le.tms_not (x := q) (j := 3) WD (by show q.at_ < 0 ∨ q.at_ > 1099511627776; omega)),rfl,rfl⟩
    ·refine Tr.cond_f Z h10<|Zt<|Zc<|Zg<|Zr<|Zv (Y.add Z Z W)<|Zm Z<|Ze<|?_
     have ht : Le.tm (Le.tms q 3) = true := Le.tm_iff.2 (by show 0 ≤ q.at_ ∧ q.at_ ≤ 1099511627776; omega)
     exact ZR (3 + 1 : Nat) ⟨by omega,upto_succ hall ht⟩ W
  ·refine Zv (Y.idxAgg Z Z Table1_as174 WD WD rfl)<|Za Z<|Ze<|Zg<|Zs<|Zr<|Zm Z<|Zv (Y.nilCheck Z)<|Zv (Y.load Z Table1_ts3 (Kn.at 0 Z) Z)<|Zv (Y.int Z Z Z)<|Zm Z<|?_
   rcases Zsplit (decide (q.ver < 0)) with ⟨h11,g11⟩ | ⟨h11,g11⟩ <;> try simp only [kb] at g11
   ·refine Zo h11 Z<|Zo h11 Z<|Zo h11 Z<|Zo h11 Z<|Zv (Y.pick_t Z h11 Z)<|Ze<|Zg<|Tr.cond_t Z Z<|Zs<|Zr<|Za Z<|Ze<|Zg<|Zu<|Zk<|Zn<|?_
    refine Zn<|Zk<|Zn<|Ex.keep []<|?_
    exact Ex.ret1 rfl rfl  ⟨congrArg Value.bool (Le.tms_not (x := q) (j := 4) WD (by show q.ver < 0 ∨ q.ver > 1099511627776; omega)),rfl,rfl⟩
   ·refine Zp h11<|Zm Z<|Zp h11<|Zv (Y.nilCheck Z)<|Zp h11<|Zv (Y.load Z Table1_ts3 (Kn.at 0 Z) Z)<|Zp h11<|Zv (Y.int Z Z Z)<|Zv (Y.pick_f Z h11 Z)<|Ze<|Zg<|?_
    rcases Zsplit (decide (q.ver > 1099511627776)) with ⟨h12,g12⟩ | ⟨h12,g12⟩ <;> try simp only [kb] at g12
    ·refine Tr.cond_t Z h12<|Zs<|Zr<|Za Z<|Ze<|Zg<|Zu<|Zk<|Zn<|Zn<|Zk<|Zn<|Ex.keep []<|?_
     exact Ex.ret1 rfl rfl  ⟨congrArg Value.bool (Le.tms_not (x := q) (j := 4) WD (by show q.ver < 0 ∨ q.ver > 1099511627776; omega)),rfl,rfl⟩
    ·refine Tr.cond_f Z h12<|Zt<|Zc<|Zg<|Zr<|Zv (Y.add Z Z W)<|Zm Z<|Ze<|?_
     have ht : Le.tm (Le.tms q 4) = true := Le.tm_iff.2 (by show 0 ≤ q.ver ∧ q.ver ≤ 1099511627776; omega)
     exact ZR (4 + 1 : Nat) ⟨by omega,upto_succ hall ht⟩ W
 ·refine Tr.cond_f Z h2<|Zx<|Zy<|Zy<|Zi<|Zg<|Zs<|Zb<|Zs<|Zr<|Zv (Y.fieldAddr Z Table1_fo43_1)<|Zv (Y.load Z Table1_ts3 (Kn.at 0 Z) Z)<|Zv (Y.int Z Z Z)<|Zm Z<|?_
  rcases Zsplit (decide (q.bind < 0)) with ⟨h13,g13⟩ | ⟨h13,g13⟩ <;> try simp only [kb] at g13
  ·refine Zo h13 Z<|Zo h13 Z<|Zo h13 Z<|Zv (Y.pick_t Z h13 Z)<|Za Z<|Ze<|Zg<|Tr.cond_t Z Z<|Zs<|Zr<|Za Z<|Ze<|Zg<|Zu<|Zk<|Zn<|?_
   refine Ex.keep [] ?_
   have hta := Le.tms_all (x := q) fun j hj => hall j W
   exact Ex.ret1 rfl rfl  ⟨congrArg Value.bool (Le.right_f W),rfl,rfl⟩
  ·refine Zp h13<|Zv (Y.fieldAddr Z Table1_fo43_1)<|Zp h13<|Zv (Y.load Z Table1_ts3 (Kn.at 0 Z) Z)<|Zp h13<|Zv (Y.int Z Z Z)<|Zv (Y.pick_f Z h13 Z)<|Za Z<|Ze<|Zg<|?_
   rcases Zsplit (decide (q.bind > 5)) with ⟨h14,g14⟩ | ⟨h14,g14⟩ <;> try simp only [kb] at g14
   ·refine Tr.cond_t Z h14<|Zs<|Zr<|Za Z<|Ze<|Zg<|Zu<|Zk<|Zn<|Ex.keep []<|?_
    have hta := Le.tms_all (x := q) fun j hj => hall j W
    exact Ex.ret1 rfl rfl  ⟨congrArg Value.bool (Le.right_f W),rfl,rfl⟩
   ·refine Tr.cond_f Z h14<|Zs<|Zr<|Zv (Y.fieldAddr Z Table1_fo43_1)<|Zv (Y.load Z Table1_ts3 (Kn.at 0 Z) Z)<|Run.call0 (l := [.tmp 31]) Z Z Z (lt Z) held_c_h<|Za Z<|Ze<|Zg<|?_
    rcases Zsplit (Le.held q.bind) with ⟨h15,g15⟩ | ⟨h15,g15⟩ <;> try simp only [kb] at g15
    ·have z16 := Le.held_t h15
     refine Tr.cond_t Z h15<|Zs<|Zr<|Zv (Y.fieldAddr Z Table1_fo43_2)<|Zv (Y.load Z Table1_ts9 (Kn.at 0 Z) Z)<|Zv (Y.neStr Z Z)<|Zm Z<|?_
     rcases Zsplit (q.client.toList == (⟨#[]⟩ : ByteArray).toList) with ⟨h17,g17⟩ | ⟨h17,g17⟩ <;> try simp only [kb] at g17
     ·have z18 := Le.str0_t h17
      refine Zo (congrArg Bool.not h17) Z<|Zo (congrArg Bool.not h17) Z<|Zo (congrArg Bool.not h17) Z<|Zo (congrArg Bool.not h17) Z<|Zv (Y.pick_f Z (congrArg Bool.not h17) Z)<|Za Z<|Ze<|Zg<|Zu<|Zk<|Zn<|Ex.keep []<|?_
      have hta := Le.tms_all (x := q) fun j hj => hall j W
      exact Ex.ret1 rfl rfl  ⟨congrArg Value.bool (Le.right_f W),rfl,rfl⟩
     ·have z19 := Le.str0_f h17
      refine Zp (congrArg Bool.not h17)<|Zv (Y.fieldAddr Z Table1_fo43_2)<|Zp (congrArg Bool.not h17)<|Zv (Y.load Z Table1_ts9 (Kn.at 0 Z) Z)<|Zp (congrArg Bool.not h17)<|Zv (Y.lenStr Z Table1_st9)<|Zp (congrArg Bool.not h17)<|Zv (Y.int Z Z Z)<|Zv (Y.pick_t Z (congrArg Bool.not h17) Z)<|Za Z<|Ze<|Zg<|Zu<|Zk<|Zn<|Ex.keep []<|?_
      have hta := Le.tms_all (x := q) fun j hj => hall j W
      exact Ex.ret1 rfl rfl  ⟨congrArg Value.bool (Le.right_d W),rfl,rfl⟩
    ·have z20 := Le.held_f h15
     refine Tr.cond_f Z h15<|Zt<|Zc<|Zg<|Zs<|Tr.quiet Table1_mo WK<|ZV (Y.loadAgg Z Table1_ag43 (Kn.at 0 Z) Z)<|ZV (Y.fieldAddr Z Table1_fo43_0)<|ZV (Y.load Z Table1_ts24 (Kn.at 0 Z) Z)<|ZV (Y.fieldAddr Z Table1_fo43_1)<|ZV (Y.load Z Table1_ts3 (Kn.at 0 Z) Z)<|ZV (Y.fieldAddr Z Table1_fo43_7)<|ZV (Y.load Z Table1_ts3 (Kn.at 0 Z) Z)<|RunQ.call0 (l := [.tmp 44,.tmp 46,.tmp 48]) Z Z Z (lt Z) bare_c_h<|ZV (Y.eqS Z Z Table1_tgs43 Z Z)<|?_
     refine ZA Z<|ZE<|Zg<|Zu<|Ex.keep []<|?_
     have hta := Le.tms_all (x := q) fun j hj => hall j W
     exact Ex.ret1 rfl rfl  ⟨congrArg Value.bool (Le.right_s (Le.tms_all fun j hj => hall j W) W W),rfl,rfl⟩
theorem right_h {q : Le} (hs : q.client.size ≤ 9223372036854775807) {V : Vw} {H : Hp} : Does Tryz.prog 78 [.agg q.cells.toArray] V H (Pv (.bool (Le.right q)) V H) := (right_c hs).frame
theorem isnan_n0 {m : Int} {V : Vw} : Does Tryz.prog 201 [.int .i64 m] V [] (Pv (.bool false) V []) := by
 refine Does.intro Tryz.func201 rfl rfl (le rfl) (fun B => ?_)
 refine Zs<|Zr<|Za Z<|Ze<|Zg<|Zs<|Zr<|Zm Z<|Zm Z<|Zv (Y.int Z Z Z)<|Za Z<|Ze<|Zg<|Zu<|?_
 exact Ex.ret1 rfl rfl  ⟨by simp,rfl,rfl⟩
theorem isnan_n0_h {m : Int} {V : Vw} {H : Hp} : Does Tryz.prog 201 [.int .i64 m] V H (Pv (.bool false) V H) := isnan_n0.frame
theorem cmp_n {m n : Int} {V : Vw} : Does Tryz.prog 186 [.int .i64 m,.int .i64 n] V [] (Pv (.int .i64 (Rg.cmp3 m n)) V []) := by
 refine Does.intro Tryz.func186 rfl rfl (le rfl) (fun B => ?_)
 refine Zs<|Zr<|Za Z<|Ze<|Zg<|Zs<|Zr<|Zm Z<|Run.call0 (l := [.tmp 7]) Z Z Z (lt Z) isnan_n0_h<|Za Z<|Ze<|Zg<|Zs<|Zr<|Zm Z<|Run.call0 (l := [.tmp 9]) Z Z Z (lt Z) isnan_n0_h<|?_
 refine Za Z<|Ze<|Zg<|Zs<|Zs<|Zr<|Zm Z<|Ze<|Zg<|Tr.cond_f Z Z<|Zt<|Zg<|Zs<|Zs<|Zr<|Zm Z<|?_
 refine Ze<|Zg<|Tr.cond_f Z Z<|Zt<|Zg<|Zs<|Zs<|Zr<|Zm Z<|Zm Z<|Zv (Y.int Z Z Z)<|Ze<|Zg<|?_
 rcases Zsplit (decide (m < n)) with ⟨h1,g1⟩ | ⟨h1,g1⟩ <;> try simp only [kb] at g1
 ·refine Tr.cond_t Z h1<|Zs<|Zr<|Za Z<|Ze<|Zg<|Zu<|Zn<|Ex.keep []<|?_
  exact Ex.ret1 rfl rfl  ⟨congrArg (Value.int _) (by unfold Rg.cmp3; (repeat' split) <;> omega),rfl,rfl⟩
 ·refine Tr.cond_f Z h1<|Zt<|Zg<|Zs<|Zs<|Zr<|Zm Z<|Zm Z<|Zv (Y.int Z Z Z)<|Ze<|Zg<|?_
  rcases Zsplit (decide (m > n)) with ⟨h2,g2⟩ | ⟨h2,g2⟩ <;> try simp only [kb] at g2
  ·refine Tr.cond_t Z h2<|Zs<|Zr<|Za Z<|Ze<|Zg<|Zu<|Zn<|Ex.keep []<|?_
   exact Ex.ret1 rfl rfl  ⟨congrArg (Value.int _) (by unfold Rg.cmp3; (repeat' split) <;> omega),rfl,rfl⟩
  ·refine Tr.cond_f Z h2<|Zt<|Zg<|Zs<|Zr<|Za Z<|Ze<|Zg<|Zu<|Ex.keep []<|?_
   exact Ex.ret1 rfl rfl  ⟨congrArg (Value.int _) (by unfold Rg.cmp3; (repeat' split) <;> omega),rfl,rfl⟩
theorem cmp_n_h {m n : Int} {V : Vw} {H : Hp} : Does Tryz.prog 186 [.int .i64 m,.int .i64 n] V H (Pv (.int .i64 (Rg.cmp3 m n)) V H) := cmp_n.frame
theorem or_c {V : Vw} {H : Hp} {x y : Int} {p : Option Addr} {c : Nat} (hv : Rd V H 1 (.slice p 2 c) 2 ([x,y].flatMap nI))  : Does Tryz.prog 185 [.slice p 2 c] V H (Pv (.int .i64 (if x ≠ 0 then x else y)) V H) := by
 have hl2 : [x,y].length = 2 := rfl
 refine Does.intro Tryz.func185 rfl rfl (le rfl) (fun B => ?_)
 refine Zs<|Zr<|Za Z<|Ze<|Zg<|Zs<|Zr<|Za Z<|Ze<|Zg<|Zs<|Zs<|Zr<|Zm Z<|Zv (Y.lenSl Z Table1_es148)<|Zm Z<|?_
 refine Ze<|Zg<|Zb<|?_
 refine ZL (X := Nat) (fun z0 => V) (fun z0 => H) (fun z0 => [(3,.int .i64 0),(6,.slice p 2 c),(7,.int .i64 ((2 : Nat) : Int)),(8,.int .i64 (z0 : Int))]) (fun z0 => z0 ≤ 2 ∧ (1 ≤ z0 → x = 0) ∧ (2 ≤ z0 → y = 0)) (fun z0 => 2 - z0) (0 : Nat) ⟨by decide,fun h => absurd h WD,fun h => absurd h WD⟩ ?_
 rintro i1 ⟨hi,hx,hy⟩
 refine Zs<|Zr<|Zv (Y.int Z Z Z)<|Ze<|Zg<|Zs<|?_
 rcases Zsplit (decide ((i1 : Int) < ((2 : Nat) : Int))) with ⟨h1,g1⟩ | ⟨h1,g1⟩ <;> try simp only [kb] at g1
 ·refine Tr.cond_t Z h1<|Zt<|Zg<|Zs<|Zb<|Zs<|Zr<|Zv (Y.idxR i1 Z Z Table1_es148 hv W W)<|Zv (Y.ldR Z Table1_ts3 hv (flatm_at0 nI_enc.len W 0 WD rfl))<|Za Z<|Ze<|Zg<|Zs<|Zr<|Zm Z<|Zm Z<|?_
  refine Zv (Y.int Z Z Z)<|Ze<|Zg<|?_
  rcases Zsplit (([x,y].getD i1 0) != 0) with ⟨h2,g2⟩ | ⟨h2,g2⟩ <;> try simp only [kb] at g2
  ·refine Tr.cond_t Z h2<|Zs<|Zr<|Zm Z<|Za Z<|Ze<|Zg<|Zu<|Zk<|Zn<|Zn<|Zk<|Zn<|?_
   have hz : (i1 = 0 → [x,y].getD i1 0 = x) ∧ (i1 = 1 → [x,y].getD i1 0 = y) := ⟨fun h => by rw [h]; rfl,fun h => by rw [h]; rfl⟩
   exact Ex.ret1 rfl rfl  ⟨congrArg (Value.int _) (by rcases Nat.eq_zero_or_pos i1 with h9 | h9; have := hz.1 h9; rw [if_pos W]; exact this; have := hz.2 W; rw [if_neg (by have := hx h9; omega)]; exact this),rfl,rfl⟩
  ·refine Tr.cond_f Z h2<|Zt<|Zc<|Zg<|Zr<|Zv (Y.add Z Z W)<|Zm Z<|Ze<|?_
   have hz : (i1 = 0 → [x,y].getD i1 0 = x) ∧ (i1 = 1 → [x,y].getD i1 0 = y) := ⟨fun h => by rw [h]; rfl,fun h => by rw [h]; rfl⟩
   exact ZR (i1 + 1 : Nat) ⟨by omega,fun _ => by rcases Nat.eq_zero_or_pos i1 with h9 | h9; have := hz.1 h9; omega; exact hx h9,fun _ => by have := hz.2 W; omega⟩ W
 ·refine Tr.cond_f Z h1<|Zx<|Zy<|Zy<|Zi<|Zg<|Zs<|Zr<|Zm Z<|Za Z<|Ze<|Zg<|Zu<|?_
  exact Ex.ret1 rfl rfl  ⟨congrArg (Value.int _) (by rw [if_neg (by have := hx W; omega)]; exact (hy W).symm),rfl,rfl⟩
end Go.Proofs.YtfgblingojgafaaGreat
namespace Go.Proofs.YtfgblingojgafaaGreat
open Go Go.K
attribute [local irreducible] Code.wp wpList Calls wpQuiet
theorem Grant_es148 : elemS Tryz.prog 148 = some (3,1) := by kernel_rfl
theorem Grant_ts3 : scal Tryz.prog 3 = true := by kernel_rfl
theorem Grant_fo58_0 : fieldOff Tryz.prog 58 0 = some 0 := by kernel_rfl
theorem Grant_mo : Tryz.prog.follows .mixedOrders = true := by kernel_rfl
theorem Grant_fo58_1 : fieldOff Tryz.prog 58 1 = some 1 := by kernel_rfl
theorem Grant_zo3 : zeroOf Tryz.prog 3 = some (.int .i64 0) := by kernel_rfl
theorem Grant_fo43_3 : fieldOff Tryz.prog 43 3 = some 3 := by kernel_rfl
theorem Grant_zo43 : zeroOf Tryz.prog 43 = some (.agg #[.int .u32 0,.int .i64 0,.string ⟨#[]⟩,.int .i64 0,.int .i64 0,.int .i64 0,.int .i64 0,.int .i64 0]) := by kernel_rfl
theorem Grant_fo43_1 : fieldOff Tryz.prog 43 1 = some 1 := by kernel_rfl
theorem Grant_fo43_7 : fieldOff Tryz.prog 43 7 = some 7 := by kernel_rfl
theorem Grant_ag58 : aggsz Tryz.prog 58 = some 3 := by kernel_rfl
theorem Grant_fo43_0 : fieldOff Tryz.prog 43 0 = some 0 := by kernel_rfl
theorem Grant_ts24 : scal Tryz.prog 24 = true := by kernel_rfl
theorem Grant_pl43 : placesS Tryz.prog 43 = some [(0,1),(1,1),(2,1),(3,1),(4,1),(5,1),(6,1),(7,1)] := by kernel_rfl
theorem Grant_sz43 : sizeT Tryz.prog 43 = some 8 := by kernel_rfl
theorem Grant_fo43_4 : fieldOff Tryz.prog 43 4 = some 4 := by kernel_rfl
theorem Grant_sz3 : sizeT Tryz.prog 3 = some 1 := by kernel_rfl
theorem Grant_fo43_6 : fieldOff Tryz.prog 43 6 = some 6 := by kernel_rfl
theorem Grant_ag43 : aggsz Tryz.prog 43 = some 8 := by kernel_rfl
theorem Grant_fo43_2 : fieldOff Tryz.prog 43 2 = some 2 := by kernel_rfl
theorem Grant_ts9 : scal Tryz.prog 9 = true := by kernel_rfl
theorem Grant_fo43_5 : fieldOff Tryz.prog 43 5 = some 5 := by kernel_rfl
theorem Grant_fo58_2 : fieldOff Tryz.prog 58 2 = some 2 := by kernel_rfl
theorem latest_c {V : Vw} {H : Hp} {l : List Int} {p : Option Addr} {c : Nat} (hv : Rd V H 1 (.slice p l.length c) l.length (l.flatMap nI)) (hn : l.length ≤ 1000)  : Does Tryz.prog 50 [.slice p l.length c] V H (Pv (.int .i64 (Rul.latest l)) V H) := by
 refine Does.intro Tryz.func50 rfl rfl (le rfl) (fun B => ?_)
 refine Zs<|Zr<|Za Z<|Ze<|Zg<|Zs<|Zr<|Za Z<|Ze<|Zg<|Zs<|Zs<|Zr<|Zm Z<|Zv (Y.lenSl Z Grant_es148)<|Zm Z<|?_
 refine Ze<|Zg<|Zb<|?_
 refine ZL (X := Nat) (fun z0 => V) (fun z0 => H) (fun z0 => [(3,.int .i64 (Rul.latest (l.take z0))),(6,.slice p l.length c),(7,.int .i64 ((l.length : Nat) : Int)),(8,.int .i64 (z0 : Int))]) (fun z0 => z0 ≤ l.length) (fun z0 => l.length - z0) (0 : Nat) (Nat.zero_le _) ?_ (by repeat (first | exact subB_nil _ | refine subB_cons (by first | rfl | exact congrArg (fun z => some (Value.int _ z)) W | exact congrArg (fun z => some (Value.int _ z)) (Rul.latest_take W).symm) ?_))
 rintro i1 hi
 refine Zs<|Zr<|Zv (Y.int Z Z Z)<|Ze<|Zg<|Zs<|?_
 rcases Zsplit (decide ((i1 : Int) < ((l.length : Nat) : Int))) with ⟨h1,g1⟩ | ⟨h1,g1⟩ <;> try simp only [kb] at g1
 ·refine Tr.cond_t Z h1<|Zt<|Zg<|Zs<|Zb<|Zs<|Zr<|Zv (Y.idxR i1 Z Z Grant_es148 hv W W)<|Zv (Y.ldR Z Grant_ts3 hv (flatm_at0 nI_enc.len W 0 WD rfl))<|Za Z<|Ze<|Zg<|Zr<|Zm Z<|Zm Z<|Run.call0 (l := [.tmp 13,.const (.int .i64 0)]) Z Z Z (lt Z) (add_c_h (t := (l.getD i1 0)) (d := 0))<|?_
  refine Zv (Y.max2 Z Z)<|Za Z<|Ze<|Zc<|Zg<|Zr<|Zv (Y.add Z Z W)<|Zm Z<|Ze<|?_
  exact ZR (i1 + 1 : Nat) W W (by repeat (first | exact subB_nil _ | refine subB_cons (by first | rfl | exact congrArg (fun z => some (Value.int _ z)) W | exact congrArg (fun z => some (Value.int _ z)) (Rul.latest_take W).symm) ?_))
 ·refine Tr.cond_f Z h1<|Zx<|Zy<|Zy<|Zi<|Zg<|Zs<|Zr<|Zm Z<|Za Z<|Ze<|Zg<|Zu<|?_
  exact Ex.ret1 rfl rfl  ⟨congrArg (Value.int _) (by rw [List.take_of_length_le W]),rfl,rfl⟩
theorem own_c {V : Vw} {r : Rul}  : Does Tryz.prog 47 [.agg #[.int .i64 r.id,.int .i64 r.lead,.int .i64 r.guard]] V [] (Pv (.int .i64 r.own) V []) := by
 refine Does.intro Tryz.func47 rfl rfl (le rfl) (fun B => ?_)
 refine Zs<|Zr<|?_
 refine Run.box rfl (lt rfl) (fun b1 => ?_)
 refine Za Z<|Ze<|Zg<|Zs<|Zs<|Zr<|Zv (Y.fieldAddr Z Grant_fo58_0)<|Zv (Y.load Z Grant_ts3 (Kn.at 0 Z) Z)<|Zv (Y.int Z Z Z)<|Ze<|Zg<|?_
 rcases Zsplit (r.id == 0) with ⟨h2,g2⟩ | ⟨h2,g2⟩ <;> try simp only [kb] at g2
 ·refine Tr.cond_t Z h2<|Zs<|Zr<|Za Z<|Ze<|Zg<|Zu<|Zn<|Ex.keep []<|?_
  exact Ex.ret1 rfl rfl  ⟨congrArg (Value.int _) (by unfold Rul.own; rw [if_pos W]),rfl,rfl⟩
 ·refine Tr.cond_f Z h2<|Zt<|Zg<|Zs<|Zr<|Za Z<|Ze<|Zg<|Zu<|Ex.keep []<|?_
  exact Ex.ret1 rfl rfl  ⟨congrArg (Value.int _) (by unfold Rul.own; rw [if_neg W]),rfl,rfl⟩
theorem until_c {V : Vw} {r : Rul} {now want acked : Int}  : Does Tryz.prog 148 [.agg #[.int .i64 r.id,.int .i64 r.lead,.int .i64 r.guard],.int .i64 now,.int .i64 want,.int .i64 acked] V [] (Pv (.int .i64 (r.until_ now want acked)) V []) := by
 refine Does.intro Tryz.func148 rfl rfl (le rfl) (fun B => ?_)
 refine Zs<|Zr<|?_
 refine Run.box rfl (lt rfl) (fun b1 => ?_)
 refine Za Z<|Ze<|Zg<|Zs<|Tr.anyD [(b1,.cells #[.int .i64 r.id,.int .i64 r.lead,.int .i64 r.guard] 58 (0,0))] Grant_mo<|RunD.pure (i := 0) rfl WK WK WK (fun _ _ _ h => h) (lt rfl) (ZK 0 Z) (fun _ => (Y.move rfl))<|RunD.pure (i := 1) rfl WK WK WK (fun _ _ _ h => h) (lt rfl) (ZK 0 Z) (fun _ => (Y.move rfl))<|RunD.pure (i := 2) rfl WK WK WK (fun _ _ _ h => h) (lt rfl) (ZK 0 Z) (fun _ => (Y.max2 rfl rfl))<|?_
 refine RunD.pure (i := 4) rfl WK WK WK (fun _ _ _ h => h) (lt rfl) (ZK 0 Z) (fun _ => (Y.move rfl))<|RunD.pure (i := 5) rfl WK WK WK (fun _ _ _ h => h) (lt rfl) (ZK 0 Z) (fun _ => (Y.move rfl))<|RunD.pure (i := 8) rfl WK WK WK (fun _ _ _ h => h) (lt rfl) (ZK 0 Z) (fun _ => (Y.fieldAddr rfl Grant_fo58_1))<|?_
 refine RunD.take (i := 9) 0 rfl rfl WK WK WK (fun _ _ _ h => h) (lt rfl) (ZK 0 Z) (fun _ => (Y.load rfl Grant_ts3 Kn.vk1 rfl))<|RunD.pure (i := 10) rfl WK WK WK (fun _ _ _ h => h) (lt rfl) (ZK 0 Z) (fun _ => (Y.max2 rfl rfl))<|?_
 refine RunD.two (i := 3) (j := 6) WK rfl rfl  ?_ ?_
 ·refine Run.call0 (l := [.tmp 9,.tmp 11]) Z Z Z (lt Z) (add_c_h (t := now) (d := max want 0))<|Ze<|Ex.anyD (ZK 0 Z)<|?_
  refine RunD.one (i := 6) WK rfl  ?_
  refine Run.buildSlice (l := [(0,.tmp 13),(1,.tmp 14)]) Grant_es148 Grant_zo3 rfl WD rfl rfl WD (lt rfl) (fun b2 => ?_)
  refine Ze<|Ex.anyD (ZK 1 Z)<|?_
  refine RunD.one (i := 7) WK rfl  ?_
  refine Run.call0 (l := [.tmp 15]) Z Z Z (lt Z) (latest_c (l := [now,acked]) (Rd.one (Kn.at 0 Z) Z) (Nat.le_of_ble_eq_true Z))<|Ze<|Ex.anyD (ZK 1 Z)<|?_
  refine RunD.one (i := 11) WK rfl  ?_
  refine Run.call0 (l := [.tmp 16,.tmp 19]) Z Z Z (lt Z) (add_c_h (t := Rul.latest [now,acked]) (d := max r.lead 0))<|Ze<|Ex.anyD (ZK 1 Z)<|RunD.pure (i := 12) rfl WK WK WK (fun _ _ _ h => h) (lt rfl) (ZK 1 Z) (fun _ => (Y.min2 rfl rfl))<|RunD.pure (i := 13) rfl WK WK WK (fun _ _ _ h => h) (lt rfl) (ZK 1 Z) (fun _ => (Y.assign rfl))<|RunD.done WK<|?_
  refine Zg<|Zu<|Ex.keep []<|?_
  exact Ex.ret1 rfl rfl  ⟨rfl,rfl,rfl⟩
 ·refine Run.buildSlice (l := [(0,.tmp 13),(1,.tmp 14)]) Grant_es148 Grant_zo3 rfl WD rfl rfl WD (lt rfl) (fun b3 => ?_)
  refine Ze<|Ex.anyD (ZK 1 Z)<|?_
  refine RunD.one (i := 3) WK rfl  ?_
  refine Run.call0 (l := [.tmp 9,.tmp 11]) Z Z Z (lt Z) (add_c_h (t := now) (d := max want 0))<|Ze<|Ex.anyD (ZK 1 Z)<|?_
  refine RunD.one (i := 7) WK rfl  ?_
  refine Run.call0 (l := [.tmp 15]) Z Z Z (lt Z) (latest_c (l := [now,acked]) (Rd.one (Kn.at 0 Z) Z) (Nat.le_of_ble_eq_true Z))<|Ze<|Ex.anyD (ZK 1 Z)<|?_
  refine RunD.one (i := 11) WK rfl  ?_
  refine Run.call0 (l := [.tmp 16,.tmp 19]) Z Z Z (lt Z) (add_c_h (t := Rul.latest [now,acked]) (d := max r.lead 0))<|Ze<|Ex.anyD (ZK 1 Z)<|RunD.pure (i := 12) rfl WK WK WK (fun _ _ _ h => h) (lt rfl) (ZK 1 Z) (fun _ => (Y.min2 rfl rfl))<|RunD.pure (i := 13) rfl WK WK WK (fun _ _ _ h => h) (lt rfl) (ZK 1 Z) (fun _ => (Y.assign rfl))<|RunD.done WK<|?_
  refine Zg<|Zu<|Ex.keep []<|?_
  exact Ex.ret1 rfl rfl  ⟨rfl,rfl,rfl⟩
theorem pot_c {V : Vw} {r : Rul} {l : Le} {now want : Int}  : Does Tryz.prog 103 [.agg #[.int .i64 r.id,.int .i64 r.lead,.int .i64 r.guard],.agg #[.int .u32 l.addr,.int .i64 l.bind,.string l.client,.int .i64 l.till,.int .i64 l.acked,.int .i64 l.told,.int .i64 l.at_,.int .i64 l.ver],.int .i64 now,.int .i64 want] V [] (Pv (.int .i64 (Rul.potential l now want)) V []) := by
 refine Does.intro Tryz.func103 rfl rfl (le rfl) (fun B => ?_)
 refine Zs<|Zr<|?_
 refine Run.box rfl (lt rfl) (fun b1 => ?_)
 refine Run.box rfl (lt rfl) (fun b2 => ?_)
 refine Za Z<|Ze<|Zg<|Zs<|Tr.anyD [(b2,.cells #[.int .u32 l.addr,.int .i64 l.bind,.string l.client,.int .i64 l.till,.int .i64 l.acked,.int .i64 l.told,.int .i64 l.at_,.int .i64 l.ver] 43 (0,0))] Grant_mo<|RunD.pure (i := 0) rfl WK WK WK (fun _ _ _ h => h) (lt rfl) (ZK 0 Z) (fun _ => (Y.fieldAddr rfl Grant_fo43_3))<|RunD.take (i := 1) 0 rfl rfl WK WK WK (fun _ _ _ h => h) (lt rfl) (ZK 0 Z) (fun _ => (Y.load rfl Grant_ts3 Kn.vk1 rfl))<|?_
 refine RunD.pure (i := 2) rfl WK WK WK (fun _ _ _ h => h) (lt rfl) (ZK 0 Z) (fun _ => (Y.move rfl))<|RunD.pure (i := 3) rfl WK WK WK (fun _ _ _ h => h) (lt rfl) (ZK 0 Z) (fun _ => (Y.move rfl))<|RunD.pure (i := 4) rfl WK WK WK (fun _ _ _ h => h) (lt rfl) (ZK 0 Z) (fun _ => (Y.max2 rfl rfl))<|?_
 refine RunD.one (i := 5) WK rfl  ?_
 refine Run.call0 (l := [.tmp 11,.tmp 13]) Z Z Z (lt Z) (add_c_h (t := now) (d := max want 0))<|Ze<|Ex.anyD (ZK 0 Z)<|RunD.pure (i := 6) rfl WK WK WK (fun _ _ _ h => h) (lt rfl) (ZK 0 Z) (fun _ => (Y.max2 rfl rfl))<|RunD.pure (i := 7) rfl WK WK WK (fun _ _ _ h => h) (lt rfl) (ZK 0 Z) (fun _ => (Y.assign rfl))<|RunD.done WK<|Zg<|?_
 refine Zu<|Ex.keep []<|?_
 exact Ex.ret1 rfl rfl  ⟨rfl,rfl,rfl⟩
theorem is_c {n : Int} {V : Vw} : Does Tryz.prog 141 [.int .i64 n] V [] (Pv (.bool (decide (0 ≤ n ∧ n < 9))) V []) := by
 refine Does.intro Tryz.func141 rfl rfl (le rfl) (fun B => ?_)
 refine Zs<|Zr<|Za Z<|Ze<|Zg<|Zs<|Zr<|Zm Z<|Zv (Y.int Z Z Z)<|Zm Z<|?_
 rcases Zsplit (decide (n ≥ 0)) with ⟨h1,g1⟩ | ⟨h1,g1⟩ <;> try simp only [kb] at g1
 ·refine Zp h1<|Zm Z<|Zp h1<|Zv (Y.int Z Z Z)<|Zv (Y.pick_t Z h1 Z)<|Za Z<|Ze<|Zg<|Zu<|?_
  exact Ex.ret1 rfl rfl  ⟨by first | (simp; omega) | simp_all | (simp_all; omega),rfl,rfl⟩
 ·refine Zo h1 Z<|Zo h1 Z<|Zv (Y.pick_f Z h1 Z)<|Za Z<|Ze<|Zg<|Zu<|?_
  exact Ex.ret1 rfl rfl  ⟨by first | (simp; omega) | simp_all | (simp_all; omega),rfl,rfl⟩
theorem glease_c {V : Vw} {r : Rul} {l : Le} {client : ByteArray} {now want : Int}  : Does Tryz.prog 102 [.agg #[.int .i64 r.id,.int .i64 r.lead,.int .i64 r.guard],.agg #[.int .u32 l.addr,.int .i64 l.bind,.string l.client,.int .i64 l.till,.int .i64 l.acked,.int .i64 l.told,.int .i64 l.at_,.int .i64 l.ver],.string client,.int .i64 now,.int .i64 want] V [] (Pv (.agg (r.lease l client now want).cells.toArray) V []) := by
 refine Does.intro Tryz.func102 rfl rfl (le rfl) (fun B => ?_)
 refine Zs<|Zr<|?_
 refine Run.box rfl (lt rfl) (fun b1 => ?_)
 refine Run.box rfl (lt rfl) (fun b2 => ?_)
 refine Run.alloc Grant_zo43 (lt rfl) (fun b3 => ?_)
 refine Ze<|Zg<|Zs<|Zs<|Zr<|Zv (Y.fieldAddr Z Grant_fo43_1)<|Zv (Y.load Z Grant_ts3 (Kn.at 1 Z) Z)<|Zv (Y.int Z Z Z)<|Zm Z<|?_
 rcases Zsplit (l.bind != 2) with ⟨h4,g4⟩ | ⟨h4,g4⟩ <;> try simp only [kb] at g4
 ·refine Zo h4 Z<|Zo h4 Z<|Zo h4 Z<|Zo h4 Z<|Zv (Y.pick_t Z h4 Z)<|Ze<|Zg<|Tr.cond_t Z Z<|Zs<|Zr<|Zv (Y.fieldAddr Z Grant_fo43_7)<|Zv (Y.load Z Grant_ts3 (Kn.at 1 Z) Z)<|Za Z<|Ze<|Zg<|Zs<|?_
  refine Zs<|Tr.anyD [(b1,.cells #[.int .i64 r.id,.int .i64 r.lead,.int .i64 r.guard] 58 (0,0)),(b2,.cells #[.int .u32 l.addr,.int .i64 l.bind,.string l.client,.int .i64 l.till,.int .i64 l.acked,.int .i64 l.told,.int .i64 l.at_,.int .i64 l.ver] 43 (0,0))] Grant_mo<|RunD.pure (i := 0) rfl WK WK WK (fun _ _ _ h => h) (lt rfl) (KnAll.cons (Kn.at 2 rfl) (ZK 1 Z)) (fun _ => (Y.fieldAddr rfl Grant_fo43_1))<|?_
  refine RunD.take (i := 1) 1 rfl rfl WK WK WK (fun _ _ _ h => h) (lt rfl) (KnAll.cons (Kn.at 2 rfl) (ZK 1 Z)) (fun _ => (Y.load rfl Grant_ts3 Kn.vk1 rfl))<|RunD.take (i := 2) 0 rfl rfl WK WK WK (fun _ _ _ h => h) (lt rfl) (KnAll.cons (Kn.at 2 rfl) (ZK 1 Z)) (fun _ => (Y.loadAgg rfl Grant_ag58 Kn.vk1 rfl))<|?_
  refine RunD.one (i := 3) WK rfl  ?_
  refine Run.call0 (l := [.tmp 25]) Z Z Z (lt Z) ((own_c (r := r)).frame)<|Ze<|Ex.anyD (KnAll.cons (Kn.at 2 Z) (ZK 1 Z))<|RunD.pure (i := 4) rfl WK WK WK (fun _ _ _ h => h) (lt rfl) (KnAll.cons (Kn.at 2 rfl) (ZK 1 Z)) (fun _ => (Y.int rfl rfl rfl))<|RunD.done WK<|Zg<|?_
  rcases Zsplit (l.bind != r.own) with ⟨h5,g5⟩ | ⟨h5,g5⟩ <;> try simp only [kb] at g5
  ·refine Tr.cond_t Z h5<|Zr<|Zm Z<|Run.call0 (l := [.tmp 28,.const (.int .i64 1)]) Z Z Z (lt Z) (add_c_h (t := l.ver) (d := 1))<|Za Z<|Ze<|Zg<|Zr<|Zv (Y.fieldAddr Z Grant_fo43_0)<|Zv (Y.load Z Grant_ts24 (Kn.at 1 Z) Z)<|Zm Z<|Zm Z<|Zv (Y.buildS (l := [(0,.tmp 31),(1,.const (.int .i64 2)),(2,.tmp 32),(7,.tmp 33)]) Grant_zo43 Grant_pl43 Z Z)<|Run.store (s := [(b2,.cells #[.int .u32 l.addr,.int .i64 2,.string client,.int .i64 0,.int .i64 0,.int .i64 0,.int .i64 0,.int .i64 (Ck.add l.ver 1)] 43 (0,0))]) Z Z Grant_sz43 (i := 1) Z Z (le Z) Z Z<|?_
   refine Ze<|Zg<|Zs<|Tr.anyL [(b1,.cells #[.int .i64 r.id,.int .i64 r.lead,.int .i64 r.guard] 58 (0,0)),(b2,.cells #[.int .u32 l.addr,.int .i64 2,.string client,.int .i64 0,.int .i64 0,.int .i64 0,.int .i64 0,.int .i64 (Ck.add l.ver 1)] 43 (0,0))] 10 Grant_mo<|RunL.pure (i := 0) rfl WK WK WK WK (fun _ _ _ h => h) (lt rfl) (KnAll.cons (Kn.at 2 rfl) (ZK 1 Z)) (fun _ => (Y.fieldAddr rfl Grant_fo43_3))<|?_
   refine RunL.take (i := 1) 1 rfl rfl WK WK WK WK (fun _ _ _ h => h) (lt rfl) (KnAll.cons (Kn.at 2 rfl) (ZK 1 Z)) (fun _ => (Y.load rfl Grant_ts3 Kn.vk1 rfl))<|RunL.take (i := 2) 0 rfl rfl WK WK WK WK (fun _ _ _ h => h) (lt rfl) (KnAll.cons (Kn.at 2 rfl) (ZK 1 Z)) (fun _ => (Y.loadAgg rfl Grant_ag58 Kn.vk1 rfl))<|?_
   refine RunL.pure (i := 3) rfl WK WK WK WK (fun _ _ _ h => h) (lt rfl) (KnAll.cons (Kn.at 2 rfl) (ZK 1 Z)) (fun _ => (Y.move rfl))<|RunL.pure (i := 4) rfl WK WK WK WK (fun _ _ _ h => h) (lt rfl) (KnAll.cons (Kn.at 2 rfl) (ZK 1 Z)) (fun _ => (Y.move rfl))<|RunL.pure (i := 5) rfl WK WK WK WK (fun _ _ _ h => h) (lt rfl) (KnAll.cons (Kn.at 2 rfl) (ZK 1 Z)) (fun _ => (Y.fieldAddr rfl Grant_fo43_4))<|?_
   refine RunL.take (i := 6) 1 rfl rfl WK WK WK WK (fun _ _ _ h => h) (lt rfl) (KnAll.cons (Kn.at 2 rfl) (ZK 1 Z)) (fun _ => (Y.load rfl Grant_ts3 Kn.vk1 rfl)) ?_
   refine RunL.one (i := 7) WK rfl  ?_
   refine Run.call0 (l := [.tmp 37,.tmp 38,.tmp 39,.tmp 41]) Z Z Z (lt Z) ((until_c (r := r) (now := now) (want := want) (acked := 0)).frame)<|Ze<|Ex.anyL (KnAll.cons (Kn.at 2 Z) (ZK 1 Z))<|RunL.pure (i := 8) rfl WK WK WK WK (fun _ _ _ h => h) (lt rfl) (KnAll.cons (Kn.at 2 rfl) (ZK 1 Z)) (fun _ => (Y.max2 rfl rfl))<|RunL.pure (i := 9) rfl WK WK WK WK (fun _ _ _ h => h) (lt rfl) (KnAll.cons (Kn.at 2 rfl) (ZK 1 Z)) (fun _ => (Y.fieldAddr rfl Grant_fo43_3))<|?_
   refine RunL.one (i := 10) WK rfl  ?_
   refine Run.store (s := [(b2,.cells #[.int .u32 l.addr,.int .i64 2,.string client,.int .i64 (max 0 (r.until_ now want 0)),.int .i64 0,.int .i64 0,.int .i64 0,.int .i64 (Ck.add l.ver 1)] 43 (0,0))]) Z Z Grant_sz3 (i := 1) Z Z (le Z) Z Z<|Ze<|Ex.anyLz Z<|RunL.done WK<|Zg<|Zs<|Zr<|Zm Z<|?_
   refine Run.buildSlice (l := [(0,.tmp 45)]) Grant_es148 Grant_zo3 rfl WD rfl rfl WD (lt rfl) (fun b6 => ?_)
   refine Run.call0 (l := [.tmp 46]) Z Z Z (lt Z) (latest_c (l := [now]) (Rd.one (Kn.at 0 Z) Z) (Nat.le_of_ble_eq_true Z))<|Zv (Y.fieldAddr Z Grant_fo43_6)<|Run.store (s := [(b2,.cells #[.int .u32 l.addr,.int .i64 2,.string client,.int .i64 (max 0 (r.until_ now want 0)),.int .i64 0,.int .i64 0,.int .i64 (Rul.latest [now]),.int .i64 (Ck.add l.ver 1)] 43 (0,0))]) Z Z Grant_sz3 (i := 2) Z Z (le Z) Z Z<|Ze<|Zg<|?_
   refine Zs<|Zr<|Zv (Y.loadAgg Z Grant_ag43 (Kn.at 2 Z) Z)<|Run.store (s := [(b3,.cells #[.int .u32 l.addr,.int .i64 2,.string client,.int .i64 (max 0 (r.until_ now want 0)),.int .i64 0,.int .i64 0,.int .i64 (Rul.latest [now]),.int .i64 (Ck.add l.ver 1)] 43 (0,0))]) Z Z Grant_sz43 (i := 1) Z Z (le Z) Z Z<|Ze<|Zg<|Zu<|?_
   exact Ex.retCell [] rfl rfl Grant_ag43 (Kn.at 1 rfl) rfl ⟨congrArg Value.agg (by rw [Rul.lease_new (.inl W),if_pos W] <;> rfl),rfl,rfl⟩
  ·refine Tr.cond_f Z h5<|Zt<|Zg<|Zr<|Zv (Y.fieldAddr Z Grant_fo43_0)<|Zv (Y.load Z Grant_ts24 (Kn.at 1 Z) Z)<|Zm Z<|Zm Z<|Zv (Y.buildS (l := [(0,.tmp 31),(1,.const (.int .i64 2)),(2,.tmp 32),(7,.tmp 33)]) Grant_zo43 Grant_pl43 Z Z)<|Run.store (s := [(b2,.cells #[.int .u32 l.addr,.int .i64 2,.string client,.int .i64 0,.int .i64 0,.int .i64 0,.int .i64 0,.int .i64 l.ver] 43 (0,0))]) Z Z Grant_sz43 (i := 1) Z Z (le Z) Z Z<|?_
   refine Ze<|Zg<|Zs<|Tr.anyL [(b1,.cells #[.int .i64 r.id,.int .i64 r.lead,.int .i64 r.guard] 58 (0,0)),(b2,.cells #[.int .u32 l.addr,.int .i64 2,.string client,.int .i64 0,.int .i64 0,.int .i64 0,.int .i64 0,.int .i64 l.ver] 43 (0,0))] 10 Grant_mo<|RunL.pure (i := 0) rfl WK WK WK WK (fun _ _ _ h => h) (lt rfl) (KnAll.cons (Kn.at 2 rfl) (ZK 1 Z)) (fun _ => (Y.fieldAddr rfl Grant_fo43_3))<|?_
   refine RunL.take (i := 1) 1 rfl rfl WK WK WK WK (fun _ _ _ h => h) (lt rfl) (KnAll.cons (Kn.at 2 rfl) (ZK 1 Z)) (fun _ => (Y.load rfl Grant_ts3 Kn.vk1 rfl))<|RunL.take (i := 2) 0 rfl rfl WK WK WK WK (fun _ _ _ h => h) (lt rfl) (KnAll.cons (Kn.at 2 rfl) (ZK 1 Z)) (fun _ => (Y.loadAgg rfl Grant_ag58 Kn.vk1 rfl))<|?_
   refine RunL.pure (i := 3) rfl WK WK WK WK (fun _ _ _ h => h) (lt rfl) (KnAll.cons (Kn.at 2 rfl) (ZK 1 Z)) (fun _ => (Y.move rfl))<|RunL.pure (i := 4) rfl WK WK WK WK (fun _ _ _ h => h) (lt rfl) (KnAll.cons (Kn.at 2 rfl) (ZK 1 Z)) (fun _ => (Y.move rfl))<|RunL.pure (i := 5) rfl WK WK WK WK (fun _ _ _ h => h) (lt rfl) (KnAll.cons (Kn.at 2 rfl) (ZK 1 Z)) (fun _ => (Y.fieldAddr rfl Grant_fo43_4))<|?_
   refine RunL.take (i := 6) 1 rfl rfl WK WK WK WK (fun _ _ _ h => h) (lt rfl) (KnAll.cons (Kn.at 2 rfl) (ZK 1 Z)) (fun _ => (Y.load rfl Grant_ts3 Kn.vk1 rfl)) ?_
   refine RunL.one (i := 7) WK rfl  ?_
   refine Run.call0 (l := [.tmp 37,.tmp 38,.tmp 39,.tmp 41]) Z Z Z (lt Z) ((until_c (r := r) (now := now) (want := want) (acked := 0)).frame)<|Ze<|Ex.anyL (KnAll.cons (Kn.at 2 Z) (ZK 1 Z))<|RunL.pure (i := 8) rfl WK WK WK WK (fun _ _ _ h => h) (lt rfl) (KnAll.cons (Kn.at 2 rfl) (ZK 1 Z)) (fun _ => (Y.max2 rfl rfl))<|RunL.pure (i := 9) rfl WK WK WK WK (fun _ _ _ h => h) (lt rfl) (KnAll.cons (Kn.at 2 rfl) (ZK 1 Z)) (fun _ => (Y.fieldAddr rfl Grant_fo43_3))<|?_
   refine RunL.one (i := 10) WK rfl  ?_
   refine Run.store (s := [(b2,.cells #[.int .u32 l.addr,.int .i64 2,.string client,.int .i64 (max 0 (r.until_ now want 0)),.int .i64 0,.int .i64 0,.int .i64 0,.int .i64 l.ver] 43 (0,0))]) Z Z Grant_sz3 (i := 1) Z Z (le Z) Z Z<|Ze<|Ex.anyLz Z<|RunL.done WK<|Zg<|Zs<|Zr<|Zm Z<|?_
   refine Run.buildSlice (l := [(0,.tmp 45)]) Grant_es148 Grant_zo3 rfl WD rfl rfl WD (lt rfl) (fun b7 => ?_)
   refine Run.call0 (l := [.tmp 46]) Z Z Z (lt Z) (latest_c (l := [now]) (Rd.one (Kn.at 0 Z) Z) (Nat.le_of_ble_eq_true Z))<|Zv (Y.fieldAddr Z Grant_fo43_6)<|Run.store (s := [(b2,.cells #[.int .u32 l.addr,.int .i64 2,.string client,.int .i64 (max 0 (r.until_ now want 0)),.int .i64 0,.int .i64 0,.int .i64 (Rul.latest [now]),.int .i64 l.ver] 43 (0,0))]) Z Z Grant_sz3 (i := 2) Z Z (le Z) Z Z<|Ze<|Zg<|Zs<|Zr<|Zv (Y.loadAgg Z Grant_ag43 (Kn.at 2 Z) Z)<|?_
   refine Run.store (s := [(b3,.cells #[.int .u32 l.addr,.int .i64 2,.string client,.int .i64 (max 0 (r.until_ now want 0)),.int .i64 0,.int .i64 0,.int .i64 (Rul.latest [now]),.int .i64 l.ver] 43 (0,0))]) Z Z Grant_sz43 (i := 1) Z Z (le Z) Z Z<|Ze<|Zg<|Zu<|?_
   exact Ex.retCell [] rfl rfl Grant_ag43 (Kn.at 1 rfl) rfl ⟨congrArg Value.agg (by rw [Rul.lease_new (.inl W),if_neg W] <;> rfl),rfl,rfl⟩
 ·refine Zp h4<|Zv (Y.fieldAddr Z Grant_fo43_2)<|Zp h4<|Zv (Y.load Z Grant_ts9 (Kn.at 1 Z) Z)<|Zp h4<|Zm Z<|Zp h4<|Zv (Y.neStr Z Z)<|Zv (Y.pick_f Z h4 Z)<|Ze<|Zg<|?_
  rcases Zsplit (l.client.toList == client.toList) with ⟨h8,g8⟩ | ⟨h8,g8⟩ <;> try simp only [kb] at g8
  ·refine Tr.cond_f Z (congrArg Bool.not h8)<|Zt<|Zg<|Zs<|Tr.anyL [(b1,.cells #[.int .i64 r.id,.int .i64 r.lead,.int .i64 r.guard] 58 (0,0)),(b2,.cells #[.int .u32 l.addr,.int .i64 l.bind,.string l.client,.int .i64 l.till,.int .i64 l.acked,.int .i64 l.told,.int .i64 l.at_,.int .i64 l.ver] 43 (0,0))] 10 Grant_mo<|RunL.pure (i := 0) rfl WK WK WK WK (fun _ _ _ h => h) (lt rfl) (KnAll.cons (Kn.at 2 rfl) (ZK 1 Z)) (fun _ => (Y.fieldAddr rfl Grant_fo43_3))<|?_
   refine RunL.take (i := 1) 1 rfl rfl WK WK WK WK (fun _ _ _ h => h) (lt rfl) (KnAll.cons (Kn.at 2 rfl) (ZK 1 Z)) (fun _ => (Y.load rfl Grant_ts3 Kn.vk1 rfl))<|RunL.take (i := 2) 0 rfl rfl WK WK WK WK (fun _ _ _ h => h) (lt rfl) (KnAll.cons (Kn.at 2 rfl) (ZK 1 Z)) (fun _ => (Y.loadAgg rfl Grant_ag58 Kn.vk1 rfl))<|?_
   refine RunL.pure (i := 3) rfl WK WK WK WK (fun _ _ _ h => h) (lt rfl) (KnAll.cons (Kn.at 2 rfl) (ZK 1 Z)) (fun _ => (Y.move rfl))<|RunL.pure (i := 4) rfl WK WK WK WK (fun _ _ _ h => h) (lt rfl) (KnAll.cons (Kn.at 2 rfl) (ZK 1 Z)) (fun _ => (Y.move rfl))<|RunL.pure (i := 5) rfl WK WK WK WK (fun _ _ _ h => h) (lt rfl) (KnAll.cons (Kn.at 2 rfl) (ZK 1 Z)) (fun _ => (Y.fieldAddr rfl Grant_fo43_4))<|?_
   refine RunL.take (i := 6) 1 rfl rfl WK WK WK WK (fun _ _ _ h => h) (lt rfl) (KnAll.cons (Kn.at 2 rfl) (ZK 1 Z)) (fun _ => (Y.load rfl Grant_ts3 Kn.vk1 rfl)) ?_
   refine RunL.one (i := 7) WK rfl  ?_
   refine Run.call0 (l := [.tmp 37,.tmp 38,.tmp 39,.tmp 41]) Z Z Z (lt Z) ((until_c (r := r) (now := now) (want := want) (acked := l.acked)).frame)<|Ze<|Ex.anyL (KnAll.cons (Kn.at 2 Z) (ZK 1 Z))<|RunL.pure (i := 8) rfl WK WK WK WK (fun _ _ _ h => h) (lt rfl) (KnAll.cons (Kn.at 2 rfl) (ZK 1 Z)) (fun _ => (Y.max2 rfl rfl))<|RunL.pure (i := 9) rfl WK WK WK WK (fun _ _ _ h => h) (lt rfl) (KnAll.cons (Kn.at 2 rfl) (ZK 1 Z)) (fun _ => (Y.fieldAddr rfl Grant_fo43_3))<|?_
   refine RunL.one (i := 10) WK rfl  ?_
   refine Run.store (s := [(b2,.cells #[.int .u32 l.addr,.int .i64 l.bind,.string l.client,.int .i64 (max l.till (r.until_ now want l.acked)),.int .i64 l.acked,.int .i64 l.told,.int .i64 l.at_,.int .i64 l.ver] 43 (0,0))]) Z Z Grant_sz3 (i := 1) Z Z (le Z) Z Z<|Ze<|Ex.anyLz Z<|RunL.done WK<|Zg<|Zs<|Zr<|Zm Z<|?_
   refine Run.buildSlice (l := [(0,.tmp 45)]) Grant_es148 Grant_zo3 rfl WD rfl rfl WD (lt rfl) (fun b9 => ?_)
   refine Run.call0 (l := [.tmp 46]) Z Z Z (lt Z) (latest_c (l := [now]) (Rd.one (Kn.at 0 Z) Z) (Nat.le_of_ble_eq_true Z))<|Zv (Y.fieldAddr Z Grant_fo43_6)<|Run.store (s := [(b2,.cells #[.int .u32 l.addr,.int .i64 l.bind,.string l.client,.int .i64 (max l.till (r.until_ now want l.acked)),.int .i64 l.acked,.int .i64 l.told,.int .i64 (Rul.latest [now]),.int .i64 l.ver] 43 (0,0))]) Z Z Grant_sz3 (i := 2) Z Z (le Z) Z Z<|?_
   refine Ze<|Zg<|Zs<|Zr<|Zv (Y.loadAgg Z Grant_ag43 (Kn.at 2 Z) Z)<|Run.store (s := [(b3,.cells #[.int .u32 l.addr,.int .i64 l.bind,.string l.client,.int .i64 (max l.till (r.until_ now want l.acked)),.int .i64 l.acked,.int .i64 l.told,.int .i64 (Rul.latest [now]),.int .i64 l.ver] 43 (0,0))]) Z Z Grant_sz43 (i := 1) Z Z (le Z) Z Z<|Ze<|Zg<|Zu<|?_
   exact Ex.retCell [] rfl rfl Grant_ag43 (Kn.at 1 rfl) rfl ⟨congrArg Value.agg (by rw [Rul.lease_same W h8] <;> rfl),rfl,rfl⟩
  ·refine Tr.cond_t Z (congrArg Bool.not h8)<|Zs<|Zr<|Zv (Y.fieldAddr Z Grant_fo43_7)<|Zv (Y.load Z Grant_ts3 (Kn.at 1 Z) Z)<|Za Z<|Ze<|Zg<|Zs<|Zs<|Tr.anyD [(b1,.cells #[.int .i64 r.id,.int .i64 r.lead,.int .i64 r.guard] 58 (0,0)),(b2,.cells #[.int .u32 l.addr,.int .i64 l.bind,.string l.client,.int .i64 l.till,.int .i64 l.acked,.int .i64 l.told,.int .i64 l.at_,.int .i64 l.ver] 43 (0,0))] Grant_mo<|RunD.pure (i := 0) rfl WK WK WK (fun _ _ _ h => h) (lt rfl) (KnAll.cons (Kn.at 2 rfl) (ZK 1 Z)) (fun _ => (Y.fieldAddr rfl Grant_fo43_1))<|?_
   refine RunD.take (i := 1) 1 rfl rfl WK WK WK (fun _ _ _ h => h) (lt rfl) (KnAll.cons (Kn.at 2 rfl) (ZK 1 Z)) (fun _ => (Y.load rfl Grant_ts3 Kn.vk1 rfl))<|RunD.take (i := 2) 0 rfl rfl WK WK WK (fun _ _ _ h => h) (lt rfl) (KnAll.cons (Kn.at 2 rfl) (ZK 1 Z)) (fun _ => (Y.loadAgg rfl Grant_ag58 Kn.vk1 rfl))<|?_
   refine RunD.one (i := 3) WK rfl  ?_
   refine Run.call0 (l := [.tmp 25]) Z Z Z (lt Z) ((own_c (r := r)).frame)<|Ze<|Ex.anyD (KnAll.cons (Kn.at 2 Z) (ZK 1 Z))<|RunD.pure (i := 4) rfl WK WK WK (fun _ _ _ h => h) (lt rfl) (KnAll.cons (Kn.at 2 rfl) (ZK 1 Z)) (fun _ => (Y.int rfl rfl rfl))<|RunD.done WK<|Zg<|?_
   rcases Zsplit (l.bind != r.own) with ⟨h10,g10⟩ | ⟨h10,g10⟩ <;> try simp only [kb] at g10
   ·refine Tr.cond_t Z h10<|Zr<|Zm Z<|Run.call0 (l := [.tmp 28,.const (.int .i64 1)]) Z Z Z (lt Z) (add_c_h (t := l.ver) (d := 1))<|Za Z<|Ze<|Zg<|Zr<|Zv (Y.fieldAddr Z Grant_fo43_0)<|Zv (Y.load Z Grant_ts24 (Kn.at 1 Z) Z)<|Zm Z<|Zm Z<|Zv (Y.buildS (l := [(0,.tmp 31),(1,.const (.int .i64 2)),(2,.tmp 32),(7,.tmp 33)]) Grant_zo43 Grant_pl43 Z Z)<|Run.store (s := [(b2,.cells #[.int .u32 l.addr,.int .i64 2,.string client,.int .i64 0,.int .i64 0,.int .i64 0,.int .i64 0,.int .i64 (Ck.add l.ver 1)] 43 (0,0))]) Z Z Grant_sz43 (i := 1) Z Z (le Z) Z Z<|?_
    refine Ze<|Zg<|Zs<|Tr.anyL [(b1,.cells #[.int .i64 r.id,.int .i64 r.lead,.int .i64 r.guard] 58 (0,0)),(b2,.cells #[.int .u32 l.addr,.int .i64 2,.string client,.int .i64 0,.int .i64 0,.int .i64 0,.int .i64 0,.int .i64 (Ck.add l.ver 1)] 43 (0,0))] 10 Grant_mo<|RunL.pure (i := 0) rfl WK WK WK WK (fun _ _ _ h => h) (lt rfl) (KnAll.cons (Kn.at 2 rfl) (ZK 1 Z)) (fun _ => (Y.fieldAddr rfl Grant_fo43_3))<|?_
    refine RunL.take (i := 1) 1 rfl rfl WK WK WK WK (fun _ _ _ h => h) (lt rfl) (KnAll.cons (Kn.at 2 rfl) (ZK 1 Z)) (fun _ => (Y.load rfl Grant_ts3 Kn.vk1 rfl))<|RunL.take (i := 2) 0 rfl rfl WK WK WK WK (fun _ _ _ h => h) (lt rfl) (KnAll.cons (Kn.at 2 rfl) (ZK 1 Z)) (fun _ => (Y.loadAgg rfl Grant_ag58 Kn.vk1 rfl))<|?_
    refine RunL.pure (i := 3) rfl WK WK WK WK (fun _ _ _ h => h) (lt rfl) (KnAll.cons (Kn.at 2 rfl) (ZK 1 Z)) (fun _ => (Y.move rfl))<|RunL.pure (i := 4) rfl WK WK WK WK (fun _ _ _ h => h) (lt rfl) (KnAll.cons (Kn.at 2 rfl) (ZK 1 Z)) (fun _ => (Y.move rfl))<|RunL.pure (i := 5) rfl WK WK WK WK (fun _ _ _ h => h) (lt rfl) (KnAll.cons (Kn.at 2 rfl) (ZK 1 Z)) (fun _ => (Y.fieldAddr rfl Grant_fo43_4))<|?_
    refine RunL.take (i := 6) 1 rfl rfl WK WK WK WK (fun _ _ _ h => h) (lt rfl) (KnAll.cons (Kn.at 2 rfl) (ZK 1 Z)) (fun _ => (Y.load rfl Grant_ts3 Kn.vk1 rfl)) ?_
    refine RunL.one (i := 7) WK rfl  ?_
    refine Run.call0 (l := [.tmp 37,.tmp 38,.tmp 39,.tmp 41]) Z Z Z (lt Z) ((until_c (r := r) (now := now) (want := want) (acked := 0)).frame)<|Ze<|Ex.anyL (KnAll.cons (Kn.at 2 Z) (ZK 1 Z))<|RunL.pure (i := 8) rfl WK WK WK WK (fun _ _ _ h => h) (lt rfl) (KnAll.cons (Kn.at 2 rfl) (ZK 1 Z)) (fun _ => (Y.max2 rfl rfl))<|RunL.pure (i := 9) rfl WK WK WK WK (fun _ _ _ h => h) (lt rfl) (KnAll.cons (Kn.at 2 rfl) (ZK 1 Z)) (fun _ => (Y.fieldAddr rfl Grant_fo43_3))<|?_
    refine RunL.one (i := 10) WK rfl  ?_
    refine Run.store (s := [(b2,.cells #[.int .u32 l.addr,.int .i64 2,.string client,.int .i64 (max 0 (r.until_ now want 0)),.int .i64 0,.int .i64 0,.int .i64 0,.int .i64 (Ck.add l.ver 1)] 43 (0,0))]) Z Z Grant_sz3 (i := 1) Z Z (le Z) Z Z<|Ze<|Ex.anyLz Z<|RunL.done WK<|Zg<|Zs<|Zr<|Zm Z<|?_
    refine Run.buildSlice (l := [(0,.tmp 45)]) Grant_es148 Grant_zo3 rfl WD rfl rfl WD (lt rfl) (fun b11 => ?_)
    refine Run.call0 (l := [.tmp 46]) Z Z Z (lt Z) (latest_c (l := [now]) (Rd.one (Kn.at 0 Z) Z) (Nat.le_of_ble_eq_true Z))<|Zv (Y.fieldAddr Z Grant_fo43_6)<|Run.store (s := [(b2,.cells #[.int .u32 l.addr,.int .i64 2,.string client,.int .i64 (max 0 (r.until_ now want 0)),.int .i64 0,.int .i64 0,.int .i64 (Rul.latest [now]),.int .i64 (Ck.add l.ver 1)] 43 (0,0))]) Z Z Grant_sz3 (i := 2) Z Z (le Z) Z Z<|Ze<|Zg<|?_
    refine Zs<|Zr<|Zv (Y.loadAgg Z Grant_ag43 (Kn.at 2 Z) Z)<|Run.store (s := [(b3,.cells #[.int .u32 l.addr,.int .i64 2,.string client,.int .i64 (max 0 (r.until_ now want 0)),.int .i64 0,.int .i64 0,.int .i64 (Rul.latest [now]),.int .i64 (Ck.add l.ver 1)] 43 (0,0))]) Z Z Grant_sz43 (i := 1) Z Z (le Z) Z Z<|Ze<|Zg<|Zu<|?_
    exact Ex.retCell [] rfl rfl Grant_ag43 (Kn.at 1 rfl) rfl ⟨congrArg Value.agg (by rw [Rul.lease_new (.inr h8),if_pos W] <;> rfl),rfl,rfl⟩
   ·refine Tr.cond_f Z h10<|Zt<|Zg<|Zr<|Zv (Y.fieldAddr Z Grant_fo43_0)<|Zv (Y.load Z Grant_ts24 (Kn.at 1 Z) Z)<|Zm Z<|Zm Z<|Zv (Y.buildS (l := [(0,.tmp 31),(1,.const (.int .i64 2)),(2,.tmp 32),(7,.tmp 33)]) Grant_zo43 Grant_pl43 Z Z)<|Run.store (s := [(b2,.cells #[.int .u32 l.addr,.int .i64 2,.string client,.int .i64 0,.int .i64 0,.int .i64 0,.int .i64 0,.int .i64 l.ver] 43 (0,0))]) Z Z Grant_sz43 (i := 1) Z Z (le Z) Z Z<|?_
    refine Ze<|Zg<|Zs<|Tr.anyL [(b1,.cells #[.int .i64 r.id,.int .i64 r.lead,.int .i64 r.guard] 58 (0,0)),(b2,.cells #[.int .u32 l.addr,.int .i64 2,.string client,.int .i64 0,.int .i64 0,.int .i64 0,.int .i64 0,.int .i64 l.ver] 43 (0,0))] 10 Grant_mo<|RunL.pure (i := 0) rfl WK WK WK WK (fun _ _ _ h => h) (lt rfl) (KnAll.cons (Kn.at 2 rfl) (ZK 1 Z)) (fun _ => (Y.fieldAddr rfl Grant_fo43_3))<|?_
    refine RunL.take (i := 1) 1 rfl rfl WK WK WK WK (fun _ _ _ h => h) (lt rfl) (KnAll.cons (Kn.at 2 rfl) (ZK 1 Z)) (fun _ => (Y.load rfl Grant_ts3 Kn.vk1 rfl))<|RunL.take (i := 2) 0 rfl rfl WK WK WK WK (fun _ _ _ h => h) (lt rfl) (KnAll.cons (Kn.at 2 rfl) (ZK 1 Z)) (fun _ => (Y.loadAgg rfl Grant_ag58 Kn.vk1 rfl))<|?_
    refine RunL.pure (i := 3) rfl WK WK WK WK (fun _ _ _ h => h) (lt rfl) (KnAll.cons (Kn.at 2 rfl) (ZK 1 Z)) (fun _ => (Y.move rfl))<|RunL.pure (i := 4) rfl WK WK WK WK (fun _ _ _ h => h) (lt rfl) (KnAll.cons (Kn.at 2 rfl) (ZK 1 Z)) (fun _ => (Y.move rfl))<|RunL.pure (i := 5) rfl WK WK WK WK (fun _ _ _ h => h) (lt rfl) (KnAll.cons (Kn.at 2 rfl) (ZK 1 Z)) (fun _ => (Y.fieldAddr rfl Grant_fo43_4))<|?_
    refine RunL.take (i := 6) 1 rfl rfl WK WK WK WK (fun _ _ _ h => h) (lt rfl) (KnAll.cons (Kn.at 2 rfl) (ZK 1 Z)) (fun _ => (Y.load rfl Grant_ts3 Kn.vk1 rfl)) ?_
    refine RunL.one (i := 7) WK rfl  ?_
    refine Run.call0 (l := [.tmp 37,.tmp 38,.tmp 39,.tmp 41]) Z Z Z (lt Z) ((until_c (r := r) (now := now) (want := want) (acked := 0)).frame)<|Ze<|Ex.anyL (KnAll.cons (Kn.at 2 Z) (ZK 1 Z))<|RunL.pure (i := 8) rfl WK WK WK WK (fun _ _ _ h => h) (lt rfl) (KnAll.cons (Kn.at 2 rfl) (ZK 1 Z)) (fun _ => (Y.max2 rfl rfl))<|RunL.pure (i := 9) rfl WK WK WK WK (fun _ _ _ h => h) (lt rfl) (KnAll.cons (Kn.at 2 rfl) (ZK 1 Z)) (fun _ => (Y.fieldAddr rfl Grant_fo43_3))<|?_
    refine RunL.one (i := 10) WK rfl  ?_
    refine Run.store (s := [(b2,.cells #[.int .u32 l.addr,.int .i64 2,.string client,.int .i64 (max 0 (r.until_ now want 0)),.int .i64 0,.int .i64 0,.int .i64 0,.int .i64 l.ver] 43 (0,0))]) Z Z Grant_sz3 (i := 1) Z Z (le Z) Z Z<|Ze<|Ex.anyLz Z<|RunL.done WK<|Zg<|Zs<|Zr<|Zm Z<|?_
    refine Run.buildSlice (l := [(0,.tmp 45)]) Grant_es148 Grant_zo3 rfl WD rfl rfl WD (lt rfl) (fun b12 => ?_)
    refine Run.call0 (l := [.tmp 46]) Z Z Z (lt Z) (latest_c (l := [now]) (Rd.one (Kn.at 0 Z) Z) (Nat.le_of_ble_eq_true Z))<|Zv (Y.fieldAddr Z Grant_fo43_6)<|Run.store (s := [(b2,.cells #[.int .u32 l.addr,.int .i64 2,.string client,.int .i64 (max 0 (r.until_ now want 0)),.int .i64 0,.int .i64 0,.int .i64 (Rul.latest [now]),.int .i64 l.ver] 43 (0,0))]) Z Z Grant_sz3 (i := 2) Z Z (le Z) Z Z<|Ze<|Zg<|Zs<|Zr<|Zv (Y.loadAgg Z Grant_ag43 (Kn.at 2 Z) Z)<|?_
    refine Run.store (s := [(b3,.cells #[.int .u32 l.addr,.int .i64 2,.string client,.int .i64 (max 0 (r.until_ now want 0)),.int .i64 0,.int .i64 0,.int .i64 (Rul.latest [now]),.int .i64 l.ver] 43 (0,0))]) Z Z Grant_sz43 (i := 1) Z Z (le Z) Z Z<|Ze<|Zg<|Zu<|?_
    exact Ex.retCell [] rfl rfl Grant_ag43 (Kn.at 1 rfl) rfl ⟨congrArg Value.agg (by rw [Rul.lease_new (.inr h8),if_neg W] <;> rfl),rfl,rfl⟩
theorem in14_c {V : Vw} {n : Int}  : Does Tryz.prog 90 [.int .i64 n,.int .i64 14] V [] (Pv (.bool (Rul.serves n)) V []) := by
 refine Does.intro Tryz.func90 rfl rfl (le rfl) (fun B => ?_)
 refine Zs<|Zr<|Za Z<|Ze<|Zg<|Zs<|Zr<|Zm Z<|Zv (Y.int (r := .bool false) Z Z Z)<|Zm Z<|Zp Z<|Zm Z<|Zp Z<|Run.call0 (l := [.tmp 8]) Z Z Z (lt Z) ((is_c (n := n)).frame)<|Zp Z<|Zm Z<|?_
 rcases Zsplit (decide (0 ≤ n ∧ n < 9)) with ⟨h1,g1⟩ | ⟨h1,g1⟩ <;> try simp only [kb] at g1
 ·refine Zp h1<|Zm Z<|Zp h1<|Zm Z<|Zp h1<|Zv (Y.shr (Rul.sh14 n) rfl rfl W rfl)<|Zp h1<|Zv (Y.int (r := .int .i64 ((Rul.sh14 n) % 2)) rfl rfl (by simp only [intRes]; rw [and_low2 (Rul.sh14 n) 1 2 1 WD rfl rfl]))<|Zp h1<|Zv (Y.int Z Z Z)<|Zp Z<|Zv (Y.pick_t Z h1 Z)<|Zv (Y.pick_f Z Z Z)<|Za Z<|Ze<|Zg<|?_
  refine Zu<|Ex.keep []<|?_
  exact Ex.ret1 rfl rfl  ⟨congrArg Value.bool (Rul.serves_in (of_decide_eq_true h1)),rfl,rfl⟩
 ·refine Zo h1 Z<|Zo h1 Z<|Zo h1 Z<|Zo h1 Z<|Zo h1 Z<|Zp Z<|Zv (Y.pick_f Z h1 Z)<|Zv (Y.pick_f Z Z Z)<|Za Z<|Ze<|Zg<|Zu<|Ex.keep []<|?_
  exact Ex.ret1 rfl rfl  ⟨congrArg Value.bool (Rul.serves_out (of_decide_eq_false h1)),rfl,rfl⟩
theorem serves_c {V : Vw} {n : Int}  : Does Tryz.prog 37 [.int .i64 n] V [] (Pv (.bool (Rul.serves n)) V []) := by
 refine Does.intro Tryz.func37 rfl rfl (le rfl) (fun B => ?_)
 refine Zs<|Zr<|Za Z<|Ze<|Zg<|Zs<|Zr<|Zm Z<|Run.call0 (l := [.tmp 3,.const (.int .i64 14)]) Z Z Z (lt Z) ((in14_c (n := n)).frame)<|Za Z<|Ze<|Zg<|Zu<|Ex.keep []<|?_
 exact Ex.ret1 rfl rfl  ⟨rfl,rfl,rfl⟩
theorem over_c {V : Vw} {l : Le}  : Does Tryz.prog 51 [.agg #[.int .u32 l.addr,.int .i64 l.bind,.string l.client,.int .i64 l.till,.int .i64 l.acked,.int .i64 l.told,.int .i64 l.at_,.int .i64 l.ver]] V [] (Pv (.int .i64 (max l.till l.told)) V []) := by
 refine Does.intro Tryz.func51 rfl rfl (le rfl) (fun B => ?_)
 refine Zs<|Zr<|?_
 refine Run.box rfl (lt rfl) (fun b1 => ?_)
 refine Za Z<|Ze<|Zg<|Zs<|Zr<|Zv (Y.fieldAddr Z Grant_fo43_3)<|Zv (Y.load Z Grant_ts3 (Kn.at 0 Z) Z)<|Zv (Y.fieldAddr Z Grant_fo43_5)<|Zv (Y.load Z Grant_ts3 (Kn.at 0 Z) Z)<|Zv (Y.max2 Z Z)<|Za Z<|Ze<|Zg<|Zu<|Ex.keep []<|?_
 exact Ex.ret1 rfl rfl  ⟨rfl,rfl,rfl⟩
theorem may_c {V : Vw} {r : Rul} {l : Le} {state now entry : Int}  : Does Tryz.prog 19 [.agg #[.int .i64 r.id,.int .i64 r.lead,.int .i64 r.guard],.agg #[.int .u32 l.addr,.int .i64 l.bind,.string l.client,.int .i64 l.till,.int .i64 l.acked,.int .i64 l.told,.int .i64 l.at_,.int .i64 l.ver],.int .i64 state,.int .i64 now,.int .i64 entry] V [] (Pv (.bool (r.may l state now entry)) V []) := by
 refine Does.intro Tryz.func19 rfl rfl (le rfl) (fun B => ?_)
 refine Zs<|Zr<|?_
 refine Run.box rfl (lt rfl) (fun b1 => ?_)
 refine Run.box rfl (lt rfl) (fun b2 => ?_)
 refine Za Z<|Ze<|Zg<|Zs<|Zb<|Zs<|Zr<|Zm Z<|Run.call0 (l := [.tmp 13]) Z Z Z (lt Z) ((serves_c (n := state)).frame)<|Zv (Y.not Z)<|Za Z<|Ze<|Zg<|?_
 rcases Zsplit (Rul.serves state) with ⟨h3,g3⟩ | ⟨h3,g3⟩ <;> try simp only [kb] at g3
 ·refine Tr.cond_f Z (congrArg Bool.not h3)<|Zs<|Tr.anyD [(b1,.cells #[.int .i64 r.id,.int .i64 r.lead,.int .i64 r.guard] 58 (0,0)),(b2,.cells #[.int .u32 l.addr,.int .i64 l.bind,.string l.client,.int .i64 l.till,.int .i64 l.acked,.int .i64 l.told,.int .i64 l.at_,.int .i64 l.ver] 43 (0,0))] Grant_mo<|RunD.pure (i := 0) rfl WK WK WK (fun _ _ _ h => h) (lt rfl) (KnAll.cons (Kn.at 1 rfl) (ZK 0 Z)) (fun _ => (Y.fieldAddr rfl Grant_fo43_1))<|?_
  refine RunD.take (i := 1) 1 rfl rfl WK WK WK (fun _ _ _ h => h) (lt rfl) (KnAll.cons (Kn.at 1 rfl) (ZK 0 Z)) (fun _ => (Y.load rfl Grant_ts3 Kn.vk1 rfl))<|RunD.take (i := 2) 0 rfl rfl WK WK WK (fun _ _ _ h => h) (lt rfl) (KnAll.cons (Kn.at 1 rfl) (ZK 0 Z)) (fun _ => (Y.loadAgg rfl Grant_ag58 Kn.vk1 rfl))<|?_
  refine RunD.one (i := 3) WK rfl  ?_
  refine Run.call0 (l := [.tmp 19]) Z Z Z (lt Z) ((own_c (r := r)).frame)<|Ze<|Ex.anyD (KnAll.cons (Kn.at 1 Z) (ZK 0 Z))<|RunD.pure (i := 4) rfl WK WK WK (fun _ _ _ h => h) (lt rfl) (KnAll.cons (Kn.at 1 rfl) (ZK 0 Z)) (fun _ => (Y.int rfl rfl rfl))<|RunD.pure (i := 5) rfl WK WK WK (fun _ _ _ h => h) (lt rfl) (KnAll.cons (Kn.at 1 rfl) (ZK 0 Z)) (fun _ => (Y.assign rfl))<|?_
  refine RunD.done WK<|Zg<|?_
  rcases Zsplit (l.bind == r.own) with ⟨h4,g4⟩ | ⟨h4,g4⟩ <;> try simp only [kb] at g4
  ·refine Tr.cond_t Z h4<|Zs<|Zr<|Za Z<|Ze<|Zg<|Zu<|Zk<|Zn<|Ex.keep []<|?_
   exact Ex.ret1 rfl rfl  ⟨congrArg Value.bool (Rul.may_own h3 W).symm,rfl,rfl⟩
  ·refine Tr.cond_f Z h4<|Zs<|Zr<|Zm Z<|Zv (Y.int Z Z Z)<|Zm Z<|?_
   rcases Zsplit (state != 3) with ⟨h5,g5⟩ | ⟨h5,g5⟩ <;> try simp only [kb] at g5
   ·refine Zo h5 Z<|Zo h5 Z<|Zo h5 Z<|Zv (Y.pick_t Z h5 Z)<|Za Z<|Ze<|Zg<|Tr.cond_t Z Z<|Zs<|Zr<|Za Z<|Ze<|Zg<|Zu<|Zk<|Zn<|?_
    refine Ex.keep [] ?_
    exact Ex.ret1 rfl rfl  ⟨congrArg Value.bool (Rul.may_nor h3 W W).symm,rfl,rfl⟩
   ·refine Zp h5<|Zv (Y.fieldAddr Z Grant_fo43_1)<|Zp h5<|Zv (Y.load Z Grant_ts3 (Kn.at 0 Z) Z)<|Zp h5<|Zv (Y.int Z Z Z)<|Zv (Y.pick_f Z h5 Z)<|Za Z<|Ze<|Zg<|?_
    rcases Zsplit (l.bind == 5) with ⟨h6,g6⟩ | ⟨h6,g6⟩ <;> try simp only [kb] at g6
    ·refine Tr.cond_t Z h6<|Zs<|Zr<|Za Z<|Ze<|Zg<|Zu<|Zk<|Zn<|Ex.keep []<|?_
     exact Ex.ret1 rfl rfl  ⟨congrArg Value.bool (Rul.may_nor h3 W W).symm,rfl,rfl⟩
    ·refine Tr.cond_f Z h6<|Zt<|Zc<|Zg<|Zs<|Zr<|Zv (Y.fieldAddr Z Grant_fo58_1)<|Zv (Y.load Z Grant_ts3 (Kn.at 1 Z) Z)<|Zv (Y.max2 Z Z)<|Zv (Y.fieldAddr Z Grant_fo58_2)<|Zv (Y.load Z Grant_ts3 (Kn.at 1 Z) Z)<|Zv (Y.max2 Z Z)<|Run.call0 (l := [.tmp 32,.tmp 35]) Z Z Z (lt Z) (add_c_h (t := max r.lead 0) (d := max r.guard 0))<|Za Z<|Ze<|Zg<|?_
     refine Zs<|Zr<|Zm Z<|Zm Z<|Zv (Y.loadAgg Z Grant_ag43 (Kn.at 0 Z) Z)<|Run.call0 (l := [.tmp 39]) Z Z Z (lt Z) ((over_c (l := l)).frame)<|?_
     refine Run.buildSlice (l := [(0,.tmp 38),(1,.tmp 40)]) Grant_es148 Grant_zo3 rfl WD rfl rfl WD (lt rfl) (fun b7 => ?_)
     refine Run.call0 (l := [.tmp 41]) Z Z Z (lt Z) (latest_c (l := [entry,max l.till l.told]) (Rd.one (Kn.at 0 Z) Z) (Nat.le_of_ble_eq_true Z))<|Zm Z<|Run.call0 (l := [.tmp 37,.tmp 42,.tmp 43]) Z Z Z (lt Z) (past_c_h (now := now) (til := Rul.latest [entry,max l.till l.told]) (grd := Ck.add (max r.lead 0) (max r.guard 0)))<|Za Z<|Ze<|Zg<|Zu<|Ex.keep []<|?_
     exact Ex.ret1 rfl rfl  ⟨congrArg Value.bool (Rul.may_past h3 W W).symm,rfl,rfl⟩
 ·refine Tr.cond_t Z (congrArg Bool.not h3)<|Zs<|Zr<|Za Z<|Ze<|Zg<|Zu<|Zk<|Zn<|Ex.keep []<|?_
  exact Ex.ret1 rfl rfl  ⟨congrArg Value.bool (Rul.may_no h3).symm,rfl,rfl⟩
end Go.Proofs.YtfgblingojgafaaGreat
namespace Go.K
open Go.ChangeShapes Go.WideShapes Go.ChangeAt Go.RowKit
section
variable {H : Type} {enc : TypeId × Value → H} {P : Program} {w : World} {base : Nat} {spare : Nat → Bool} {held : Bool}
end
end Go.K
namespace Go.K
section
variable {C : Cx} {V : Vw} {H : Hp} {L : Sl} {ty : TypeId}
end
end Go.K
namespace Go.K
theorem YDoes.perm {P : Program} {l : Nat} {args : List Value} {V : Vw} {H H' : Hp} {R : Value → Vw → Hp → Prop} (h : YDoes P l args V H R) (p : H'.Perm H) : YDoes P l args V H' R := fun B hB => by
  obtain ⟨fn,tmps,asg,body,h1,h2⟩ := h B ((hB.perm p.symm).memS (keys_perm p))
  exact ⟨fn,tmps,asg,body,h1,h2.mono fun e w' ⟨v,V',H2,q1,q2,q3⟩ => ⟨v,V',H2,q1,q2,q3.memS (fun b => (keys_perm p b).symm)⟩⟩
section
variable {C : Cx} {V : Vw} {H : Hp} {L : Sl} {Q : Exit → Act → World → Prop}
end
end Go.K
namespace Go.K
section
variable {C : Cx} {H : Hp} {L : Sl} {Q : Exit → Act → World → Prop} {ops : Array Oper} {os : List Oper}
end
end Go.K
namespace Go.K
section
variable {C : Cx} {V : Vw} {H : Hp} {L : Sl} {Q : Exit → Act → World → Prop} {c : Code}
theorem Tr.unroll (n : Nat) (h : Tr C V H L c (Exit.then (Code.rounds C.P c Q n) Q)) : Tr C V H L (.loop c) Q := fun a w i => wp_loop_rounds (n + 1) (h a w i)
theorem Ex.goU {n : Nat} (h : Tr C V H L c (Exit.then (Code.rounds C.P c Q n) Q)) : Ex C V H L (Exit.then (Code.rounds C.P c Q (n + 1)) Q) .normal := fun a w i => h a w i
end
end Go.K
namespace Go.K
section
variable {C : Cx} {V : Vw} {H : Hp} {L : Sl} {Q : Exit → Act → World → Prop} {ops : Array Oper} {os : List Oper}
variable {ty : TypeId} {pos : String} {aft : Array Edge} {d : Nat}
end
end Go.K
namespace Go.K
theorem rep_cells (n : Nat) : rep (Value.int .u8 0).cells.toList n = (List.replicate n (0 : UInt8)).map byteV := by
  induction n with
  | zero => rfl
  | succ n ih => rw [List.replicate_succ,List.map_cons,← ih]; rfl
theorem Ow.made {e b n : Nat} (h : n ≤ 9223372036854775807) (h2 : n ≤ maxLen) : Ow e 1 (.slice (some ⟨b,0,none⟩) n n) n ((List.replicate n (0 : UInt8)).map byteV) [(b,.cells (rep (Value.int .u8 0).cells.toList n).toArray e (0,0))] := by
  rw [rep_cells]
  have := Ow.lit (e := e) (k := 1) (b := b) (n := n) (cur := ((List.replicate n (0 : UInt8)).map byteV).toArray) (by simp) h2
  simpa using this
end Go.K
namespace Go.Proofs.YtfgblingojgafaaGreat
open Go Go.K
attribute [local irreducible] Code.wp wpList Calls wpQuiet
theorem Mask_zm178 : zeroOf Tryz.prog 178 = some (.agg (Bk.mks fun _ => false).toArray) := by kernel_rfl
theorem Mask_mo : Tryz.prog.follows .mixedOrders = true := by kernel_rfl
theorem Mask_al178 : arrT Tryz.prog 178 = some (32,1) := by kernel_rfl
theorem Mask_ts5 : scal Tryz.prog 5 = true := by kernel_rfl
theorem Mask_sz5 : sizeT Tryz.prog 5 = some 1 := by kernel_rfl
theorem Mask_ag178 : aggsz Tryz.prog 178 = some 32 := by kernel_rfl
theorem Mask_sz178 : sizeT Tryz.prog 178 = some 32 := by kernel_rfl
theorem first_c6 {V : Vw} {n : Int}  : Does Tryz.prog 142 [.int .i64 n] V [] (Pv (.agg (Bk.mks (Bk.fr n)).toArray) V []) := by
 refine Does.intro Tryz.func142 rfl rfl (le rfl) (fun B => ?_)
 refine Zs<|Zr<|?_
 refine Run.alloc Mask_zm178 (lt rfl) (fun b1 => ?_)
 refine Run.heapTo (H' := [[(b1,.cells (Bk.mks fun _ => false).toArray 178 (0,0))]]) rfl<|Ze<|Zg<|Zs<|Zr<|?_
 refine Run.alloc Mask_zm178 (lt rfl) (fun b2 => ?_)
 rw [show Value.cells (.agg (Bk.mks fun _ => false).toArray) = (Bk.mks (Bk.upto (Bk.fr n) 0)).toArray from by rw [Bk.upto_zero]; rfl]
 refine Ze<|Zg<|Zs<|Zs<|Zr<|Zm Z<|Zv (Y.max2 Z Z)<|Zv (Y.min2 Z Z)<|Zm Z<|Ze<|Zg<|Zb<|?_
 refine ZL (X := Nat) (fun z0 => V) (fun z0 => [[(b2,.cells (Bk.mks (Bk.upto (Bk.fr n) z0)).toArray 178 (0,0))],[(b1,.cells (Bk.mks fun _ => false).toArray 178 (0,0))]]) (fun z0 => [(2,(pZ b1)),(3,(pZ b2)),(7,.int .i64 (min (max n 0) 256)),(8,.int .i64 ((z0 : Nat) : Int))]) (fun z0 => (z0 : Int) ≤ min (max n 0) 256) (fun z0 => 256 - z0) (0 : Nat) (by show (0 : Int) ≤ _; omega) ?_
 rintro i1 hi
 refine Zs<|Zr<|Zv (Y.int Z Z Z)<|Ze<|Zg<|Zs<|?_
 rcases Zsplit (decide (((i1 : Nat) : Int) < (min (max n 0) 256))) with ⟨h3,g3⟩ | ⟨h3,g3⟩ <;> try simp only [kb] at g3
 ·refine Tr.cond_t Z h3<|Zt<|Zg<|Zs<|Zb<|Zs<|Zr<|Zm Z<|Za Z<|Ze<|Zg<|Tr.anyL [(b2,.cells (Bk.mks (Bk.upto (Bk.fr n) i1)).toArray 178 (0,0))] 9 Mask_mo<|RunL.pure (i := 0) rfl WK WK WK WK (fun _ _ _ h => h) (lt rfl) (ZK 0 Z) (fun _ => (Y.move rfl))<|RunL.pure (i := 1) rfl WK WK WK WK (fun _ _ _ h => h) (lt rfl) (ZK 0 Z) (fun _ => (Y.quo (((i1 / 8 : Nat) : Int)) rfl rfl WD (tdivN _ 8 rfl W)))<|?_
  refine RunL.pure (i := 2) rfl WK WK WK WK (fun _ _ _ h => h) (lt rfl) (ZK 0 Z) (fun _ => (Y.idxArr rfl rfl Mask_al178 W W))<|RunL.take (i := 3) 0 rfl rfl WK WK WK WK (fun _ _ _ h => h) (lt rfl) (ZK 0 Z) (fun _ => (Y.ldA1 (i1 / 8) rfl rfl Mask_ts5 Kn.vk1 (Bk.mks_at _ W)))<|RunL.pure (i := 4) rfl WK WK WK WK (fun _ _ _ h => h) (lt rfl) (ZK 0 Z) (fun _ => (Y.move rfl))<|?_
  refine RunL.pure (i := 5) rfl WK WK WK WK (fun _ _ _ h => h) (lt rfl) (ZK 0 Z) (fun _ => (Y.rem (((i1 % 8 : Nat) : Int)) rfl rfl WD (tmodN _ 8 rfl)))<|RunL.pure (i := 6) rfl WK WK WK WK (fun _ _ _ h => h) (lt rfl) (ZK 0 Z) (fun _ => (Y.shl (((2 ^ (i1 % 8) : Nat) : Int)) rfl rfl W (shl1_u8 (Nat.mod_lt _ WD))))<|?_
  refine RunL.pure (i := 7) rfl WK WK WK WK (fun _ _ _ h => h) (lt rfl) (ZK 0 Z) (fun _ => (Y.int (r := .int .u8 (((Bk.byte (Bk.upto (Bk.fr n) i1) (i1 / 8) + Bk.w2 ((Bk.fr n) i1) (2 ^ (i1 % 8)) : Nat) : Int))) rfl rfl (by simp only [intRes]; rw [or_u8 (Bk.byte_lt _ _) (Bk.pow_lt _),Bk.or_put (Bk.fr_in W)])))<|RunL.pure (i := 8) rfl WK WK WK WK (fun _ _ _ h => h) (lt rfl) (ZK 0 Z) (fun _ => (Y.idxArr rfl rfl Mask_al178 W W))<|?_
  refine RunL.one (i := 9) WK rfl  ?_
  refine Run.stA1 (j := 0) (i1 / 8) rfl rfl rfl Mask_sz5 rfl rfl rfl (by rw [Bk.mks_len]; omega) (Bk.mks_set _ W)<|Run.heapTo (H' := [[(b2,.cells (Bk.mks (Bk.upto (Bk.fr n) (i1 + 1))).toArray 178 (0,0))],[(b1,.cells (Bk.mks fun _ => false).toArray 178 (0,0))]]) rfl<|Ze<|Ex.anyLz Z<|RunL.done WK<|Zc<|Zg<|Zr<|Zv (Y.add Z Z W)<|Zm Z<|Ze<|Ex.keep [0,0]<|?_
  exact ZR (i1 + 1 : Nat) W W
 ·refine Tr.cond_f Z h3<|Zx<|Zy<|Zy<|Zi<|Zg<|Zs<|Zr<|Zv (Y.ldAll Z Mask_ag178 (Kn.at 0 rfl) (by first | exact Bk.mks_len _ | exact Bk.ins_len _ | exact Bk.nots_len _ _))<|Run.stAll (j := 1) Z Z Mask_sz178 Z (Bk.mks_len _) (Bk.mks_len _) (Bk.one_mks _)<|Run.heapTo (H' := [[(b2,.cells (Bk.mks (Bk.upto (Bk.fr n) i1)).toArray 178 (0,0))],[(b1,.cells (Bk.mks (Bk.upto (Bk.fr n) i1)).toArray 178 (0,0))]]) Z<|Ze<|Zg<|Zu<|?_
  exact Ex.retCell [] rfl rfl Mask_ag178 (Kn.at 1 rfl) (cells_all (Bk.mks_len _)) ⟨congrArg (fun l : List Value => Value.agg l.toArray) (Bk.fr_all W),rfl,rfl⟩
theorem not_c6 {V : Vw} {f : Nat → Bool}  : Does Tryz.prog 143 [.agg (Bk.mks f).toArray] V [] (Pv (.agg (Bk.mks (fun k => !f k)).toArray) V []) := by
 refine Does.intro Tryz.func143 rfl rfl (le rfl) (fun B => ?_)
 refine Zs<|Zr<|?_
 refine Run.box rfl (lt rfl) (fun b1 => ?_)
 refine Run.heapTo (H' := [[(b1,.cells (Bk.mks f).toArray 178 (0,0))]]) Z ?_
 rw [← Bk.nots_zero f]
 refine Run.alloc Mask_zm178 (lt rfl) (fun b2 => ?_)
 refine Run.heapTo (H' := [[(b2,.cells (Bk.mks fun _ => false).toArray 178 (0,0))],[(b1,.cells (Bk.nots f 0).toArray 178 (0,0))]]) rfl<|Ze<|Zg<|Zs<|Zs<|Zr<|Zm Z<|Ze<|Zg<|Zb<|?_
 refine ZL (X := Nat) (fun z0 => V) (fun z0 => [[(b2,.cells (Bk.mks fun _ => false).toArray 178 (0,0))],[(b1,.cells (Bk.nots f z0).toArray 178 (0,0))]]) (fun z0 => [(1,(pZ b1)),(2,(pZ b2)),(4,.int .i64 ((z0 : Nat) : Int))]) (fun z0 => z0 ≤ 32) (fun z0 => 32 - z0) (0 : Nat) (Nat.zero_le _) ?_
 rintro i1 hi
 refine Zs<|Zr<|Zv (Y.int Z Z Z)<|Ze<|Zg<|Zs<|?_
 rcases Zsplit (decide (((i1 : Nat) : Int) < 32)) with ⟨h3,g3⟩ | ⟨h3,g3⟩ <;> try simp only [kb] at g3
 ·refine Tr.cond_t Z h3<|Zt<|Zg<|Zs<|Zb<|Zs<|Zr<|Zm Z<|Za Z<|Ze<|Zg<|Zr<|Zm Z<|Zm Z<|Zv (Y.idxArr Z Z Mask_al178 W W)<|Zv (Y.ldA1 i1 Z Z Mask_ts5 (Kn.at 1 rfl) (Bk.nots_self f W))<|?_
  refine Zv (Y.xor8 Z (Bk.byte_lt _ _))<|Zv (Y.idxArr Z Z Mask_al178 W W)<|Run.stA1 (j := 1) i1 rfl rfl rfl Mask_sz5 rfl rfl rfl (by rw [Bk.nots_len]; omega) (Bk.nots_set f W)<|Run.heapTo (H' := [[(b2,.cells (Bk.mks fun _ => false).toArray 178 (0,0))],[(b1,.cells (Bk.nots f (i1 + 1)).toArray 178 (0,0))]]) rfl<|Ze<|Zc<|Zg<|Zr<|Zv (Y.add Z Z W)<|Zm Z<|Ze<|Ex.keep [0,0]<|?_
  exact ZR (i1 + 1 : Nat) W W
 ·refine Tr.cond_f Z h3<|Zx<|Zy<|Zy<|Zi<|Zg<|Zs<|Zr<|?_
  obtain rfl : i1 = 32 := by omega
  rw [Bk.nots_all]
  refine Zv (Y.ldAll Z Mask_ag178 (Kn.at 1 rfl) (by first | exact Bk.mks_len _ | exact Bk.ins_len _ | exact Bk.nots_len _ _))<|Run.stAll (j := 0) Z Z Mask_sz178 Z (Bk.mks_len _) (Bk.mks_len _) (Bk.one_mks _)<|Run.heapTo (H' := [[(b2,.cells (Bk.mks fun k => !f k).toArray 178 (0,0))],[(b1,.cells (Bk.mks fun k => !f k).toArray 178 (0,0))]]) rfl<|Ze<|Zg<|Zu<|?_
  exact Ex.retCell [] rfl rfl Mask_ag178 (Kn.at 0 rfl) (cells_all (Bk.mks_len _)) ⟨rfl,rfl,rfl⟩
theorem has_c6 {V : Vw} {f : Nat → Bool} {n : Nat} (hn : n < 256)  : Does Tryz.prog 144 [.agg (Bk.mks f).toArray,.int .i64 ((n : Nat) : Int)] V [] (Pv (.bool (f n)) V []) := by
 have hbl := Bk.byte_lt f (n / 8)
 have hbd := Nat.div_le_self (Bk.byte f (n / 8)) (2 ^ (n % 8))
 refine Does.intro Tryz.func144 rfl rfl (le rfl) (fun B => ?_)
 refine Zs<|Zr<|?_
 refine Run.box rfl (lt rfl) (fun b1 => ?_)
 refine Run.heapTo (H' := [[(b1,.cells (Bk.mks f).toArray 178 (0,0))]]) Z<|Za Z<|Ze<|Zg<|Zs<|Zr<|Zm Z<|Zv (Y.int Z Z Z)<|Zm Z<|?_
 rcases Zsplit (decide (((n : Nat) : Int) ≥ 0)) with ⟨h2,g2⟩ | ⟨h2,g2⟩ <;> try simp only [kb] at g2
 ·refine Zp h2<|Zm Z<|Zp h2<|Zv (Y.int Z Z Z)<|Zv (Y.pick_t Z h2 Z)<|Zm Z<|?_
  rcases Zsplit (decide (((n : Nat) : Int) < 256)) with ⟨h3,g3⟩ | ⟨h3,g3⟩ <;> try simp only [kb] at g3
  ·refine Zp h3<|Zm Z<|Zp h3<|Zv (Y.quo (((n / 8 : Nat) : Int)) rfl rfl WD (tdivN _ 8 rfl W))<|Zp h3<|Zv (Y.idxArr Z Z Mask_al178 W W)<|Zp h3<|Zv (Y.ldA1 (n / 8) rfl rfl Mask_ts5 (Kn.at 0 rfl) (Bk.mks_at _ W))<|Zp h3<|Zm Z<|Zp h3<|Zv (Y.rem (((n % 8 : Nat) : Int)) rfl rfl WD (tmodN _ 8 rfl))<|Zp h3<|Zv (Y.shrN Z Z W (shr_pow (Nat.mod_lt _ WD)))<|Zp h3<|Zv (Y.int (r := .int .u8 (((Bk.byte f (n / 8) / 2 ^ (n % 8) % 2 : Nat) : Int))) rfl rfl (by simp only [intRes]; rw [and1_u8 W]))<|?_
   refine Zp h3<|Zv (Y.int Z Z Z)<|Zv (Y.pick_t Z h3 Z)<|Za Z<|Ze<|Zg<|Zu<|Ex.keep []<|?_
   exact Ex.ret1 rfl rfl  ⟨congrArg Value.bool (Bk.has_i f n),rfl,rfl⟩
  ·omega
 ·omega
end Go.Proofs.YtfgblingojgafaaGreat
namespace Go.K
abbrev Bts := List UInt8
structure Dk where
  room : Int
  bs : Bts
  lasts : Nat
  inn : Int
namespace Dk
structure Ok (d : Dk) : Prop where
  r1 : 1 ≤ d.room
  r2 : d.room ≤ 1048576
  b : (d.bs.length : Int) ≤ d.room
  l : d.lasts ≤ d.bs.length
  i : -1 ≤ d.inn ∧ d.inn ≤ 9223372036854775807
def new (room : Int) : Dk := ⟨room,[],0,-1⟩
def dec (d : Dk) : Dk := if d.inn > 0 then { d with inn := d.inn - 1 } else d
def change (d : Dk) (n : Int) (f : Dk → Dk) : Dk × Int := if d.inn = 0 then (d,7) else if n > d.room then (dec d,3) else (f (dec d),0)
def app (d : Dk) (b : Bts) : Dk × Int := change d (((d.bs.length + b.length : Nat)) : Int) fun d => { d with bs := d.bs ++ b }
def swap (d : Dk) (b : Bts) : Dk × Int := change d ((b.length : Nat) : Int) fun d => { d with bs := b,lasts := b.length }
def kept (d : Dk) (k : Int) : Nat := d.lasts + (min (max k 0) (((d.bs.length - d.lasts : Nat)) : Int)).toNat
theorem kept_le {d : Dk} (h : d.lasts ≤ d.bs.length) (k : Int) : d.lasts ≤ kept d k ∧ kept d k ≤ d.bs.length := by unfold kept; omega
theorem dec_room (d : Dk) : (dec d).room = d.room := by unfold dec; split <;> rfl
theorem dec_bs (d : Dk) : (dec d).bs = d.bs := by unfold dec; split <;> rfl
theorem Ok.dec {d : Dk} (h : d.Ok) : d.dec.Ok := by
  have := h.i
  unfold Dk.dec; split
  · exact ⟨h.r1,h.r2,h.b,h.l,by show -1 ≤ d.inn - 1; omega,by show d.inn - 1 ≤ _; omega⟩
  · exact h
theorem change_ok {d : Dk} {n : Int} {f : Dk → Dk} (h : d.Ok) (hf : n ≤ d.room → (f d.dec).Ok) : (change d n f).1.Ok := by
  unfold change; split
  · exact h
  · split
    · exact h.dec
    · exact hf (by omega)
theorem Ok.app {d : Dk} (h : d.Ok) (b : Bts) : (d.app b).1.Ok := change_ok h fun hn => by
  have k := h.dec
  exact ⟨k.r1,k.r2,by show ((((Dk.dec d).bs ++ b).length : Nat) : Int) ≤ _; rw [dec_bs,List.length_append,dec_room]; exact hn,by show (Dk.dec d).lasts ≤ ((Dk.dec d).bs ++ b).length; have := k.l; rw [List.length_append]; omega,k.i⟩
theorem Ok.swap {d : Dk} (h : d.Ok) (b : Bts) : (d.swap b).1.Ok := change_ok h fun hn => by
  have k := h.dec
  exact ⟨k.r1,k.r2,by show ((b.length : Nat) : Int) ≤ (Dk.dec d).room; rw [dec_room]; exact hn,Nat.le_refl _,k.i⟩
end Dk
namespace Fr
def put (b : Bts) : Bts := UInt8.ofNat (b.length / 256) :: UInt8.ofNat (b.length % 256) :: (b ++ [90])
def okR (b : Bts) : Prop := 1 ≤ b.length ∧ b.length ≤ 1000
instance (b : Bts) : Decidable (okR b) := inferInstanceAs (Decidable (_ ∧ _))
def hd (bs : Bts) (at_ : Nat) : Nat := (bs.getD at_ 0).toNat * 256 + (bs.getD (at_ + 1) 0).toNat
def one (bs : Bts) (at_ : Nat) : Option Nat := if at_ + 2 < bs.length ∧ 1 ≤ hd bs at_ ∧ hd bs at_ ≤ 1000 ∧ at_ + 3 + hd bs at_ ≤ bs.length ∧ bs.getD (at_ + 2 + hd bs at_) 0 = 90 then some (hd bs at_) else none
def rcd (bs : Bts) (at_ n : Nat) : Bts := (bs.drop (at_ + 2)).take n
def scanF (bs : Bts) : Nat → Nat → List Bts × Nat
  | 0,at_ => ([],at_)
  | k + 1,at_ => match one bs at_ with
    | none => ([],at_)
    | some n => (rcd bs at_ n :: (scanF bs k (at_ + 3 + n)).1,(scanF bs k (at_ + 3 + n)).2)
def scan (bs : Bts) : List Bts × Nat := scanF bs bs.length 0
inductive Sc (bs : Bts) : Nat → List Bts → Prop
  | nil : Sc bs 0 []
  | more {at_ n : Nat} {l : List Bts} : Sc bs at_ l → one bs at_ = some n → Sc bs (at_ + 3 + n) (l ++ [rcd bs at_ n])
def fl (l : List Bts) : Bts := l.flatMap put
theorem put_len (b : Bts) : (put b).length = b.length + 3 := by unfold put; simp
end Fr
end Go.K
namespace Go.K
end Go.K
namespace Go.K
open Msg (sl sl_length)
namespace Le
def tl (q : Le) : List Int := [q.till,q.acked,q.told,q.at_,q.ver]
def hdB (q : Le) : Bts := Msg.be 4 q.addr ++ Msg.be 1 q.bind
def encB (q : Le) : Bts := (hdB q ++ (tl q).flatMap (Msg.be 6)) ++ (UInt8.ofNat q.client.size :: q.client.toList)
def encE (q : Le) : Bts × Int := if right q = true then (encB q,0) else ([],1)
def dcd (b : Bts) : Le := ⟨val (sl b 0 4),((b.getD 4 0).toNat : Int),⟨(sl b 36 b.length).toArray⟩,val (sl b 5 11),val (sl b 11 17),val (sl b 17 23),val (sl b 23 29),val (sl b 29 35)⟩
def decE (b : Bts) : Le × Int := if b.length < 36 ∨ (b.getD 35 0).toNat + 36 ≠ b.length ∨ right (dcd b) = false then (dflt,2) else (dcd b,0)
theorem encB_len (q : Le) : (encB q).length = 36 + q.client.size := by
  unfold encB hdB tl
  simp [Msg.be_length,ByteArray.toList_eq]
  omega
theorem right_size {q : Le} (h : right q = true) : q.client.size ≤ 32 := by
  have := right_iff.1 h
  rcases this.2.2.2.2.2.2 with h | h
  · omega
  · omega
end Le
end Go.K
namespace Go.K
structure Sk where
  t : List Le
  state : Int
  life : Int
namespace Sk
structure Ok (s : Sk) : Prop where
  r : Le.Ris s.t
  n : s.t.length ≤ 256
  st : 0 ≤ s.state ∧ s.state ≤ 8
  li : 0 ≤ s.life ∧ s.life ≤ 536870912
def new (as_ : List Int) : Sk := ⟨Le.new as_,0,0⟩
def doK (s : Sk) (k : UInt8) (r : Bts) : Sk := if k = 76 then (if (Le.decE r).2 = 0 then { s with t := (Le.setE s.t (Le.decE r).1).2 } else s)
    else if k = 83 ∧ r.length = 1 ∧ (r.getD 0 0).toNat ≤ 8 then { s with state := ((r.getD 0 0).toNat : Int) }
    else if k = 70 ∧ r.length = 4 ∧ val r ≤ 536870912 then { s with life := val r } else s
def doR (s : Sk) : Bts → Sk
  | [] => s
  | k :: r => doK s k r
def replay (s : Sk) (l : List Bts) : Sk := l.foldl doR s
def leR (q : Le) : Bts := 76 :: (Le.encE q).1
def note (d : Dk) (s : Sk) (r : Bts) : Dk × Sk × Int := ((d.app (Fr.put r)).1,if (d.app (Fr.put r)).2 = 0 then doR s r else s,(d.app (Fr.put r)).2)
def put (d : Dk) (s : Sk) (q : Le) : Dk × Sk × Int := if Le.right q = false then (d,s,1) else if (Le.getE s.t q.addr).2 ≠ 0 then (d,s,(Le.getE s.t q.addr).2) else note d s (leR q)
def plain (q : Le) : Bool := Le.same q (Le.bare q.addr 0 0)
theorem Ok.set {s : Sk} (h : s.Ok) (q : Le) : ({ s with t := (Le.setE s.t q).2 } : Sk).Ok := ⟨Le.setE_ris h.r q,by show (Le.setE s.t q).2.length ≤ 256; rw [Le.setE_len]; exact h.n,h.st,h.li⟩
theorem Ok.doR {s : Sk} (h : s.Ok) (b : Bts) : (doR s b).Ok := by
  cases b with
  | nil => exact h
  | cons k r =>
    show (doK s k r).Ok
    unfold doK
    split
    · split
      · exact h.set _
      · exact h
    · split
      · rename_i c; exact ⟨h.r,h.n,by show 0 ≤ (((r.getD 0 0).toNat : Nat) : Int) ∧ (((r.getD 0 0).toNat : Nat) : Int) ≤ 8; omega,h.li⟩
      · split
        · rename_i c; exact ⟨h.r,h.n,h.st,(val_bounds r).1,c.2.2⟩
        · exact h
theorem Ok.replay {s : Sk} (h : s.Ok) : ∀ l : List Bts,(replay s l).Ok := fun l => by
  unfold Sk.replay
  induction l generalizing s with
  | nil => exact h
  | cons b l ih => exact ih (h.doR b)
theorem leR_len (q : Le) : 1 ≤ (leR q).length ∧ (leR q).length ≤ 69 := by
  unfold leR Le.encE
  split
  · rename_i h; have := Le.right_size h; rw [List.length_cons,Le.encB_len]; omega
  · simp
theorem leR_ok (q : Le) : Fr.okR (leR q) := by have := leR_len q; unfold Fr.okR; omega
end Sk
end Go.K
namespace Go.K
theorem Rd.to {V : Vw} {H : Hp} {k n m : Nat} {v : Value} {xs : List Value} (h : Rd V H k v n xs) (e : n = m) : Rd V H k v m xs := e ▸ h
structure Rc where
  p : Option Addr
  n : Nat
  c : Nat
  b : Bts
namespace Rc
def v (x : Rc) : Value := .slice x.p x.n x.c
def cell (x : Rc) : List Value := [.slice x.p x.n x.c]
def dflt : Rc := ⟨none,0,0,[]⟩
theorem len (x : Rc) : x.cell.length = 1 := rfl
theorem enc : Enc cell 1 := ⟨fun _ => rfl,fun _ => rfl⟩
def Rs (V : Vw) (xs : List Rc) : Prop := ∀ x,x ∈ xs → Rd V [] 1 (.slice x.p x.n x.c) x.n (x.b.map byteV)
theorem Rs.le {V V2 : Vw} {xs : List Rc} (h : Rs V xs) (k : V.le V2) : Rs V2 xs := fun x hx => (h x hx).le k
theorem Rs.nil (V : Vw) : Rs V [] := fun x h => absurd h List.not_mem_nil
theorem Rs.snoc {V : Vw} {xs : List Rc} {x : Rc} (h : Rs V xs) (k : Rd V [] 1 (.slice x.p x.n x.c) x.n (x.b.map byteV)) : Rs V (xs ++ [x]) := fun y hy => by
  rcases List.mem_append.1 hy with hy | hy
  · exact h y hy
  · obtain rfl := List.mem_singleton.1 hy; exact k
theorem Rs.at {V : Vw} {xs : List Rc} (h : Rs V xs) {i : Nat} (hi : i < xs.length) : Rd V [] 1 (.slice (xs.getD i dflt).p (xs.getD i dflt).n (xs.getD i dflt).c) (xs.getD i dflt).n ((xs.getD i dflt).b.map byteV) :=
  h _ (by rw [List.getD_eq_getElem?_getD,List.getElem?_eq_getElem hi]; exact List.getElem_mem hi)
end Rc
structure Fx where
  nx : Nat
  rc : Rc
  sg : Sg
namespace Fx
def enc (x : Fx) : List Value := [.int .i64 (x.nx : Int),.slice x.rc.p x.rc.n x.rc.c]
def Own (e : Nat) (x : Fx) : Prop := Ow e 1 (.slice x.rc.p x.rc.n x.rc.c) x.rc.n (x.rc.b.map byteV) x.sg
def last (xs : List Fx) : Nat := (xs.getLast?.map (·.nx)).getD 0
def rcs (xs : List Fx) : List Rc := xs.map (·.rc)
theorem rs_of {V2 : Vw} {xs : List Fx} {e : Nat} (h : ∀ x,x ∈ xs → Own e x) (hsh : ∀ x,x ∈ xs → ∀ b o,x.sg.lookup b = some o → V2 b = some o) : Rc.Rs V2 (rcs xs) := fun r hr => by
  obtain ⟨x,hx,rfl⟩ := List.mem_map.1 hr
  exact (h x hx).show (hsh x hx)
end Fx
namespace Fr
end Fr
section
variable {C : Cx} {V : Vw} {H : Hp} {L : Sl} {Q : Exit → Act → World → Prop} {ops : Array Oper} {os : List Oper} {ty : TypeId} {pos : String} {aft : Array Edge} {d : Nat}
end
end Go.K
namespace Go.K
open Msg (sl sl_length)
theorem val_small4 {l : Bts} (h : l.length ≤ 4) : 0 ≤ val l ∧ val l ≤ 4294967295 := by
  obtain ⟨h1,h2⟩ := val_bounds l
  have h3 : (256 : Int) ^ l.length ≤ 256 ^ 4 := pow_le256 h
  have h4 : (256 : Int) ^ 4 = 4294967296 := rfl
  omega
theorem sl_len (b : Bts) {i j : Nat} (h : j ≤ b.length) : (sl b i j).length = j - i := sl_length b i j h
namespace Le
theorem dcd_ok {b : Bts} (h : 36 ≤ b.length) (hb : b.length ≤ 9223372036854775807) : (dcd b).Ok := by
  have s6 : ∀ i,i + 6 ≤ b.length → 0 ≤ val (sl b i (i + 6)) ∧ val (sl b i (i + 6)) ≤ 281474976710655 := fun i hi => val_small (by rw [sl_len b hi]; omega)
  have s4 := val_small4 (l := sl b 0 4) (by rw [sl_len b (by omega)]; omega)
  have hu := u8_lt (b.getD 4 0)
  have h5 := s6 5 (by omega); have h11 := s6 11 (by omega); have h17 := s6 17 (by omega); have h23 := s6 23 (by omega); have h29 := s6 29 (by omega)
  simp only [Nat.reduceAdd] at h5 h11 h17 h23 h29
  have hc : (dcd b).client.size = b.length - 36 := by unfold dcd; simp [ByteArray.size,sl_length b 36 b.length (Nat.le_refl _)]
  refine ⟨s4,?_,by rw [hc]; omega,?_,?_,?_,?_,?_⟩ <;> (unfold dcd; dsimp only; omega)
end Le
end Go.K
namespace Go.K
end Go.K
namespace Go.K
namespace Sk
variable {s : Sk} {bs r : Bts} {k : UInt8}
end Sk
end Go.K
namespace Go.K
end Go.K
namespace Go.K
theorem Le.dflt_ok : Le.dflt.Ok := by
  refine ⟨?_,?_,?_,?_,?_,?_,?_,?_⟩ <;> decide
theorem Le.decE_oks {r : Bts} (hr : r.length ≤ 9223372036854775807) : (Le.decE r).1.Ok := by
  unfold Le.decE
  split
  · exact Le.dflt_ok
  · rename_i h; exact Le.dcd_ok (by omega) hr
namespace Sk
def Os (s : Sk) : Prop := ∀ x,x ∈ s.t → x.Ok
theorem Os.set {s : Sk} (h : s.Os) {q : Le} (hq : q.Ok) : ∀ x,x ∈ (Le.setE s.t q).2 → x.Ok := fun x hx => by
  unfold Le.setE at hx
  split at hx
  · exact h x hx
  · split at hx
    · exact h x hx
    · obtain ⟨y,hy,e⟩ := List.mem_map.1 (show x ∈ Le.put s.t q from hx)
      split at e
      · rw [← e]; exact hq
      · rw [← e]; exact h y hy
theorem Os.doR {s : Sk} (h : s.Os) {b : Bts} (hb : b.length ≤ 1000000) : (doR s b).Os := by
  cases b with
  | nil => exact h
  | cons k r =>
    have hr : r.length ≤ 9223372036854775807 := by rw [List.length_cons] at hb; omega
    show (doK s k r).Os
    unfold doK
    split
    · split
      · exact h.set (Le.decE_oks hr)
      · exact h
    · split
      · exact h
      · split
        · exact h
        · exact h
theorem Os.at {s : Sk} (h : s.Os) {i : Nat} (hi : i < s.t.length) : (s.t.getD i Le.dflt).Ok := h _ (Le.mem_getD hi)
theorem Os.new {as_ : List Int} (h : ∀ a,a ∈ as_ → 0 ≤ a ∧ a ≤ 4294967295) : (new as_).Os := fun x hx => by
  obtain ⟨a,ha,rfl⟩ := List.mem_map.1 (show x ∈ Le.new as_ from hx)
  exact ⟨h a ha,⟨by show (-9223372036854775808 : Int) ≤ 0; decide,by show (0 : Int) ≤ _; decide⟩,by show 0 ≤ _; exact Nat.zero_le _,⟨by show (-9223372036854775808 : Int) ≤ 0; decide,by show (0 : Int) ≤ _; decide⟩,⟨by show (-9223372036854775808 : Int) ≤ 0; decide,by show (0 : Int) ≤ _; decide⟩,⟨by show (-9223372036854775808 : Int) ≤ 0; decide,by show (0 : Int) ≤ _; decide⟩,⟨by show (-9223372036854775808 : Int) ≤ 0; decide,by show (0 : Int) ≤ _; decide⟩,⟨by show (-9223372036854775808 : Int) ≤ 0; decide,by show (0 : Int) ≤ _; decide⟩⟩
theorem Os.replay {s : Sk} (h : s.Os) {l : List Bts} (hl : ∀ b,b ∈ l → b.length ≤ 1000000) : (replay s l).Os := by
  unfold Sk.replay
  induction l generalizing s with
  | nil => exact h
  | cons b l ih => exact ih (h.doR (hl b (List.mem_cons_self ..))) fun z hz => hl z (List.mem_cons_of_mem _ hz)
theorem Os.note {d : Dk} {s : Sk} (h : s.Os) {r : Bts} (hr : Fr.okR r) : (note d s r).2.1.Os := by
  unfold Sk.note; dsimp only
  split
  · exact h.doR (by have := hr.2; omega)
  · exact h
theorem Os.put {d : Dk} {s : Sk} (h : s.Os) (q : Le) : (put d s q).2.1.Os := by
  unfold Sk.put
  split
  · exact h
  · split
    · exact h
    · exact h.note (leR_ok q)
end Sk
end Go.K
namespace Go.K
namespace Sk
def opened (rs : List Rg) (bs : Bts) : Sk := replay (new (Rg.adr (Rg.pool rs).1)) (Fr.scan bs).1
end Sk
end Go.K
namespace Go.K
end Go.K
namespace Go.K
end Go.K
namespace Go.Proofs.YtfgblingojgafaaGreat
open Go Go.K
attribute [local irreducible] Code.wp wpList Calls wpQuiet
theorem Bucket_st9 : strT Tryz.prog 9 = true := by kernel_rfl
theorem Bucket_it3_5 : intT Tryz.prog 3 5 = some .u8 := by kernel_rfl
theorem Bucket_it5_3 : intT Tryz.prog 5 3 = some .i64 := by kernel_rfl
theorem btab_c {V : Vw} {n : Nat} (hn : n < 256)  : Does Tryz.prog 170 [.int .u8 ((n : Nat) : Int)] V [] (Pv (.int .u8 ((Bk.tab n : Nat) : Int)) V []) := by
 refine Does.intro Tryz.func170 rfl rfl (le rfl) (fun B => ?_)
 refine Zs<|Zr<|Za Z<|Ze<|Zg<|Zs<|Zr<|Zm Z<|Zv (Y.int (r := .int .u8 (((n * 167 % 256 : Nat) : Int))) rfl rfl (by simp only [intRes]; rw [wrap_u8_mod]; exact congrArg (fun z => some (Value.int _ z)) W))<|Zv (Y.int (r := .int .u8 (((Bk.tab n : Nat) : Int))) rfl rfl (by simp only [intRes]; rw [wrap_u8_mod]; exact congrArg (fun z => some (Value.int _ z)) (by unfold Bk.tab; omega)))<|Za Z<|Ze<|Zg<|Zu<|Ex.keep []<|?_
 exact Ex.ret1 rfl rfl  ⟨rfl,rfl,rfl⟩
theorem bucket_c {V : Vw} {s : ByteArray} (hs : s.size ≤ 9223372036854775807)  : Does Tryz.prog 145 [.string s] V [] (Pv (.int .i64 ((Bk.bucket s.toList : Nat) : Int)) V []) := by
 have hsl : s.toList.length = s.size := by rw [ByteArray.toList_eq]; rfl
 refine Does.intro Tryz.func145 rfl rfl (le rfl) (fun B => ?_)
 refine Zs<|Zr<|Za Z<|Ze<|Zg<|Zs<|Zr<|Zm Z<|Zv (Y.lenStr Z Bucket_st9)<|Zv (Y.conv (((s.size % 256 : Nat) : Int)) rfl Bucket_it3_5 (by rw [wrap_u8_mod]; omega))<|Za Z<|Ze<|Zg<|Zs<|Zs<|Zr<|?_
 refine Zm Z<|Zv (Y.lenStr Z Bucket_st9)<|Zv (Y.sub Z Z W)<|Za Z<|Ze<|Zg<|Zb<|?_
 refine ZL (X := Nat) (fun z0 => V) (fun z0 => []) (fun z0 => [(0,.string s),(3,.int .u8 ((Bk.down s.toList z0 : Nat) : Int)),(4,.int .i64 ((z0 : Int) - 1))]) (fun z0 => z0 ≤ s.size) (fun z0 => z0) (s.size : Nat) (Nat.le_refl _) ?_ (by repeat (first | exact subB_nil _ | refine subB_cons (by first | rfl | exact congrArg (fun z => some (Value.int _ z)) W | exact congrArg (fun z => some (Value.int _ ((z : Nat) : Int))) (by rw [← hsl,Bk.down_all]) | exact congrArg (fun z => some (Value.int _ ((z : Nat) : Int))) (by rw [Bk.down_step (i := k1 - 1) W,show k1 - 1 + 1 = k1 by omega,show ((k1 : Int) - 1).toNat = k1 - 1 by omega])) ?_))
 rintro k1 hk
 refine Zs<|Zs<|Zr<|Zm Z<|Zv (Y.int Z Z Z)<|Ze<|Zg<|?_
 rcases Zsplit (decide (((k1 : Int) - 1) ≥ 0)) with ⟨h1,g1⟩ | ⟨h1,g1⟩ <;> try simp only [kb] at g1
 ·refine Tr.cond_t Z h1<|Zt<|Zg<|Zs<|Zb<|Zr<|Zm Z<|Zm Z<|Zm Z<|Zv (Y.idxStr Z Z Bucket_st9 W W)<|Zv (Y.int (r := .int .u8 (((Bk.down s.toList k1 ^^^ (s.toList.getD ((k1 : Int) - 1).toNat 0).toNat : Nat) : Int))) rfl rfl (by simp only [intRes]; rw [xor_u8 (Bk.down_lt _ _) (UInt8.toNat_lt _)]))<|Run.call0 (l := [.tmp 19]) Z Z Z (lt Z) ((btab_c (n := Bk.down s.toList k1 ^^^ (s.toList.getD ((k1 : Int) - 1).toNat 0).toNat) (xor_lt (Bk.down_lt _ _) (UInt8.toNat_lt _))).frame)<|?_
  refine Za Z<|Ze<|Zc<|Zg<|Zr<|Zm Z<|Zv (Y.sub Z Z W)<|Za Z<|Ze<|?_
  exact ZR (k1 - 1 : Nat) W W (by repeat (first | exact subB_nil _ | refine subB_cons (by first | rfl | exact congrArg (fun z => some (Value.int _ z)) W | exact congrArg (fun z => some (Value.int _ ((z : Nat) : Int))) (by rw [← hsl,Bk.down_all]) | exact congrArg (fun z => some (Value.int _ ((z : Nat) : Int))) (by rw [Bk.down_step (i := k1 - 1) W,show k1 - 1 + 1 = k1 by omega,show ((k1 : Int) - 1).toNat = k1 - 1 by omega])) ?_))
 ·refine Tr.cond_f Z h1<|Zx<|Zy<|Zy<|Zi<|Zg<|Zs<|Zr<|?_
  have hdl := Bk.down_lt s.toList k1
  refine Zm Z<|Zv (Y.conv (((Bk.down s.toList k1 : Nat) : Int)) rfl Bucket_it5_3 (wrap_i64 W))<|Za Z<|Ze<|Zg<|Zu<|Ex.keep []<|?_
  exact Ex.ret1 rfl rfl  ⟨congrArg (Value.int _) (by rw [show k1 = 0 by omega]; rfl),rfl,rfl⟩
end Go.Proofs.YtfgblingojgafaaGreat
